/- The closed facts of a row over this program, one by one: together they outgrow a compile's memory. -/
import Derived.Test.YtbalicnnlfennaaGreatRows
import Derived.ProofKit
import Derived.KernelRfl
namespace Go.Proofs.YtbalicnnlfennaaGreat

theorem and_t {a b : Bool} (h : a = true) (k : b = true) : (a && b) = true := by rw [h, k]; rfl
theorem fct_enter : Tryz.pinned.checked.prog.mayEnter = true := by kernel_rfl
theorem fct_lifted : (Rows.fnVmNilRow.lifted == Tryz.pinned.checked.prog.liftsFinal) = true := by kernel_rfl
theorem fct_make : (Tryz.pinned.checked.prog.make == some Rows.fnVmNilRow.make) = true := by kernel_rfl
theorem fct_heard : Tryz.pinned.checked.prog.stopsHeard = true := by kernel_rfl
theorem fct_laid : laidOutB Tryz.pinned.checked.prog = true := by kernel_rfl
theorem fct_rowed : mapsRowed Tryz.pinned.checked.prog = true := by kernel_rfl
theorem fct_named : (Rows.fnVmNilRow.named == Tryz.pinned.checked.prog.varsNamed 9) = true := by kernel_rfl
theorem fct_rec : (Rows.fnVmNilRow.recurses == Tryz.pinned.checked.prog.recurses 9) = true := by kernel_rfl
theorem fct_unf : (Rows.fnVmNilRow.unfollowed == Tryz.pinned.checked.prog.unfollowed 9) = true := by kernel_rfl
theorem fct_inp : (Rows.fnVmNilRow.inPlace == Tryz.pinned.checked.prog.inPlace 9) = true := by kernel_rfl
end Go.Proofs.YtbalicnnlfennaaGreat
