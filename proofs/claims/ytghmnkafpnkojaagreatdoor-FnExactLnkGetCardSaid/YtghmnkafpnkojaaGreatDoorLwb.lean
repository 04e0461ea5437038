/- What the laws' walks share: what is found is equal to itself; keepers in new memory. -/
import Derived.Test.YtghmnkafpnkojaaGreatDoorMon
import Derived.Test.YtghmnkafpnkojaaGreatDoorToL
namespace Go.Proofs.YtghmnkafpnkojaaGreatDoor
open Go.RowKit

set_option maxHeartbeats 2000000 in
theorem eqRefV_go (k : Int) (s : Str) (w : World) :
    Calls Tryz.prog 23 #[.agg #[.int .i64 k, .string s], .agg #[.int .i64 k, .string s]] w (BoolFr true w) := by
  go_enter Tryz.func23, Tryz.ntmps23
  go_wp2
  go_ret
  exact .mk rfl frc
set_option maxHeartbeats 2000000 in
theorem eqLnkMethod_go (k i : Int) (s : Str) (w : World) :
    Calls Tryz.prog 9 #[.agg #[.int .i64 k, .string s, .int .i64 i], .agg #[.int .i64 k, .string s, .int .i64 i]] w (BoolFr true w) := by
  obtain ⟨wA, hwA⟩ : ∃ wA, wA = ((w.alloc (.cells #[.int .i64 k, .string s, .int .i64 i] 29)).alloc (.cells #[.int .i64 k, .string s, .int .i64 i] 29)) := ⟨_, rfl⟩
  have hfA : Fr No w wA := hwA ▸ frc
  have K0 := (hwA ▸ bxc : Bx wA w.heap.size 29 #[.int .i64 k, .string s, .int .i64 i]).r3
  have K1 := (hwA ▸ bxc : Bx wA (w.heap.size + 1) 29 #[.int .i64 k, .string s, .int .i64 i]).r3
  go_enter Tryz.func9, Tryz.ntmps9
  go_wp2_with fail
  rw [← hwA]
  clear hwA
  refine (eqRefV_go k s wA).mono ?_
  rintro e w1 ⟨rfl, hf1⟩
  go_wp2
  go_ret
  exact .mk rfl frc
theorem Bx.fill3 {w : World} {g : Nat} {t : TypeId} {x0 x1 x2 c0 c1 c2 : Value} (h : Bx w g t #[x0, x1, x2]) :
    Bx (((w.setCell ⟨g, 0, none⟩ c0).setCell ⟨g, 1, none⟩ c1).setCell ⟨g, 2, none⟩ c2) g t #[c0, c1, c2] := ((h.set_ 0 c0).set_ 1 c1).set_ 2 c2
/-- Keepers in new memory. -/
def planB (p : Plan) (base : Nat) : Value → World → Prop := fun v W => ∃ vk, v = .agg #[vk] ∧ Sl (fun b => b < base) W 2 (KprC (fun b => b < base) W) vk p.keepers
theorem planB_mono (p : Plan) (base : Nat) : MonP (planB p base) := fun _ _ _ ⟨vk, h1, h2⟩ hf => ⟨vk, h1, h2.keep hf (fun _ h => h.elim) (fun _ _ _ h => h.keep hf (fun _ h => h.elim))⟩
theorem planB_of {p : Plan} {W w' : World} {e : Ending} {base : Nat} (h : ToPost PlanC p W e w') (hb : base ≤ W.heap.size) : ∃ v, e = .returned v ∧ Fr No W w' ∧ planB p base v w' := by
  obtain ⟨cs, rfl, ⟨vk, rfl, h⟩, hf⟩ := h
  exact ⟨_, rfl, hf, vk, rfl, h.weaken (fun b (hb' : b < base) => Nat.lt_of_lt_of_le hb' hb) (fun _ _ _ h => h.weaken (fun b (hb' : b < base) => Nat.lt_of_lt_of_le hb' hb))⟩
end Go.Proofs.YtghmnkafpnkojaaGreatDoor
