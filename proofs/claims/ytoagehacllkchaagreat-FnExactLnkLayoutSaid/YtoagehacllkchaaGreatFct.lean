/- The closed facts of a row over this program, one by one: together they outgrow a compile's memory. -/
import Derived.Test.YtoagehacllkchaaGreatRows
import Derived.ProofKit
import Derived.KernelRfl
namespace Go.Proofs.YtoagehacllkchaaGreat

theorem and_t {a b : Bool} (h : a = true) (k : b = true) : (a && b) = true := by rw [h, k]; rfl
theorem fct_enter : Tryz.pinned.checked.prog.mayEnter = true := by kernel_rfl
theorem fct_lifted : (Rows.fnExactLnkLayoutRow.lifted == Tryz.pinned.checked.prog.liftsFinal) = true := by kernel_rfl
theorem fct_make : (Tryz.pinned.checked.prog.make == some Rows.fnExactLnkLayoutRow.make) = true := by kernel_rfl
theorem fct_heard : Tryz.pinned.checked.prog.stopsHeard = true := by kernel_rfl
theorem fct_laid : laidOutB Tryz.pinned.checked.prog = true := by kernel_rfl
theorem fct_rowed : mapsRowed Tryz.pinned.checked.prog = true := by kernel_rfl
theorem fct_named : (Rows.fnExactLnkLayoutRow.named == Tryz.pinned.checked.prog.varsNamed 8) = true := by kernel_rfl
theorem fct_rec : (Rows.fnExactLnkLayoutRow.recurses == Tryz.pinned.checked.prog.recurses 8) = true := by kernel_rfl
theorem fct_unf : (Rows.fnExactLnkLayoutRow.unfollowed == Tryz.pinned.checked.prog.unfollowed 8) = true := by kernel_rfl
theorem fct_inp : (Rows.fnExactLnkLayoutRow.inPlace == Tryz.pinned.checked.prog.inPlace 8) = true := by kernel_rfl
end Go.Proofs.YtoagehacllkchaaGreat
