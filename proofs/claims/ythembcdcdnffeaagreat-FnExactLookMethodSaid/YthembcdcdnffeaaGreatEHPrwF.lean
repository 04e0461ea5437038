/- The closed facts of a row over this program, one by one: together they outgrow a compile's memory. -/
import Derived.Test.YthembcdcdnffeaaGreatRows
import Derived.ProofKit
import Derived.KernelRfl
namespace Go.Proofs.YthembcdcdnffeaaGreat
theorem zlX {a b:Bool} (h:a=true) (k:b=true):(a&&b)=true:=by rw[h,k];rfl
theorem zlY:Tryz.pinned.checked.prog.mayEnter=true:=by kernel_rfl
theorem zlZ:(Rows.fnExactLookMethodRow.lifted == Tryz.pinned.checked.prog.liftsFinal)=true:=by kernel_rfl
theorem zl0:(Tryz.pinned.checked.prog.make == some Rows.fnExactLookMethodRow.make)=true:=by kernel_rfl
theorem zl1:Tryz.pinned.checked.prog.stopsHeard=true:=by kernel_rfl
theorem zl2:laidOutB Tryz.pinned.checked.prog=true:=by kernel_rfl
theorem zl3:mapsRowed Tryz.pinned.checked.prog=true:=by kernel_rfl
theorem zl4:(Rows.fnExactLookMethodRow.named == Tryz.pinned.checked.prog.varsNamed 5)=true:=by kernel_rfl
theorem zl5:(Rows.fnExactLookMethodRow.recurses == Tryz.pinned.checked.prog.recurses 5)=true:=by kernel_rfl
theorem zl6:(Rows.fnExactLookMethodRow.unfollowed == Tryz.pinned.checked.prog.unfollowed 5)=true:=by kernel_rfl
theorem zl7:(Rows.fnExactLookMethodRow.inPlace == Tryz.pinned.checked.prog.inPlace 5)=true:=by kernel_rfl
end Go.Proofs.YthembcdcdnffeaaGreat
