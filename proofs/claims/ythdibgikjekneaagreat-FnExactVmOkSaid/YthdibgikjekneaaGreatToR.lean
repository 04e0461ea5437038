/- The laws' own size and copy of a class's name. -/
import Derived.Test.YthdibgikjekneaaGreatSzL
import Derived.Test.YthdibgikjekneaaGreatEq
namespace Go.Proofs.YthdibgikjekneaaGreat
open Go.RowKit

def szRef (x : Ref) : Nat := x.name.size
set_option maxRecDepth 100000 in
set_option maxHeartbeats 2000000 in
theorem szRef_go (x : Ref) (cs : List Value) (left : Int) (w : World) (h : RefC cs x) (h0 : 0 ≤ left) (h1 : left ≤ 1048576) :
    Calls Tryz.prog 9 #[.agg cs.toArray, .int .i64 left] w (SzPost (szRef x) left w) := by
  obtain ⟨rfl, hz0⟩ := h
  unfold maxLen at hz0
  go_enter Tryz.func9, Tryz.ntmps9
  go_wp2
  all_goals go_ret
  all_goals refine SzPost.mk _ ?_ (by exact frc)
  all_goals (first | (left; refine ⟨?_, ?_⟩ <;> ((try unfold szRef at *); (try unfold Hid at *); omega)) | (right; refine ⟨rfl, ?_⟩; ((try unfold szRef at *); (try unfold Hid at *); omega)))

set_option maxRecDepth 100000 in
set_option maxHeartbeats 2000000 in
theorem toRef_go (x : Ref) (cs : List Value) (w : World) (h : RefC cs x) :
    Calls Tryz.prog 12 #[.agg cs.toArray] w (Gives (.agg cs.toArray) w) := by
  obtain ⟨rfl, z0⟩ := h
  go_enter Tryz.func12, Tryz.ntmps12
  go_wp2
  refine bodyPost_ret (v := .agg #[.int .i64 x.keeper, .string x.name]) (by simp [results, Tryz.results12, go_sem]) rfl ?_
  exact .mk rfl (by exact frc)
end Go.Proofs.YthdibgikjekneaaGreat
