/- The closed facts of a row over this program, one by one: together they outgrow a compile's memory. -/
import Derived.Test.YthdibgikjekneaaGreatRows
import Derived.ProofKit
import Derived.KernelRfl
namespace Go.Proofs.YthdibgikjekneaaGreat

theorem and_t {a b : Bool} (h : a = true) (k : b = true) : (a && b) = true := by rw [h, k]; rfl
theorem fct_enter : Tryz.pinned.checked.prog.mayEnter = true := by kernel_rfl
theorem fct_lifted : (Rows.fnExactVmOkRow.lifted == Tryz.pinned.checked.prog.liftsFinal) = true := by kernel_rfl
theorem fct_make : (Tryz.pinned.checked.prog.make == some Rows.fnExactVmOkRow.make) = true := by kernel_rfl
theorem fct_heard : Tryz.pinned.checked.prog.stopsHeard = true := by kernel_rfl
theorem fct_laid : laidOutB Tryz.pinned.checked.prog = true := by kernel_rfl
theorem fct_rowed : mapsRowed Tryz.pinned.checked.prog = true := by kernel_rfl
theorem fct_named : (Rows.fnExactVmOkRow.named == Tryz.pinned.checked.prog.varsNamed 7) = true := by kernel_rfl
theorem fct_rec : (Rows.fnExactVmOkRow.recurses == Tryz.pinned.checked.prog.recurses 7) = true := by kernel_rfl
theorem fct_unf : (Rows.fnExactVmOkRow.unfollowed == Tryz.pinned.checked.prog.unfollowed 7) = true := by kernel_rfl
theorem fct_inp : (Rows.fnExactVmOkRow.inPlace == Tryz.pinned.checked.prog.inPlace 7) = true := by kernel_rfl
end Go.Proofs.YthdibgikjekneaaGreat
