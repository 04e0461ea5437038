/- LnkLayout: the program's, and the reference's. -/
import Derived.Test.YtoagehacllkchaaGreatLys
import Derived.Test.YtoagehacllkchaaGreatSly
import Derived.Test.YtoagehacllkchaaGreatSll
namespace Go.Proofs.YtoagehacllkchaaGreat
open Go.RowKit

def layS (p : Plan) (r : Ref) : List LFld := if lodB p then layB p r else []
def LaysPost (L : List LFld) (w : World) (e : Ending) (w' : World) : Prop :=
  ∃ v, e = .returned v ∧ w'.ownsRow w.heap.size 141 5 v L.length (L.flatMap lfCells) ∧ Fr No w w'

set_option maxRecDepth 100000 in
set_option maxHeartbeats 4000000 in
theorem lnkLayout_ok (p : Plan) (v : Value) (r : Ref) (w : World) (h : Sl No w 2 (KprC No w) v p.keepers) (hr : r.name.size ≤ maxLen) (wk : (Lit.int .i64 r.keeper).wf = true) :
    Calls Tryz.prog 38 #[.agg #[v], .agg #[.int .i64 r.keeper, .string r.name]] w (LaysPost (layS p r) w) := by
  obtain ⟨rk, rn⟩ := r
  dsimp only at hr wk ⊢
  obtain ⟨A, cap, rfl, _, _⟩ := h.form
  obtain ⟨wA, hwA⟩ : ∃ wA, wA = ((w.alloc (.cells #[.slice A p.keepers.length cap] 32)).alloc (.cells #[.int .i64 rk, .string rn] 34)) := ⟨_, rfl⟩
  have hfA : Fr No w wA := hwA ▸ frc
  have B0 : Bx wA w.heap.size 32 #[.slice A p.keepers.length cap] := hwA ▸ bxc
  have B1 : Bx wA (w.heap.size + 1) 34 #[.int .i64 rk, .string rn] := hwA ▸ bxc
  have HN := newLodge_ok p _ wA (h.keep hfA (fun _ h => h.elim) (fun _ _ _ h => h.keep hfA (fun _ h => h.elim)))
  have hlay : layS p ⟨rk, rn⟩ = if lodB p then layB p ⟨rk, rn⟩ else [] := rfl
  unfold NewPost at HN
  generalize layS p ⟨rk, rn⟩ = L at *
  clear h
  obtain ⟨z0, z1⟩ := B1.c2
  have q0 := B0.c1
  have l0 := B0.lt
  have l1 := B1.lt
  have hsA := hfA.size
  cases hp : lodB p
  · rw [hp] at HN hlay
    simp only [Bool.false_eq_true, if_false] at hlay
    subst hlay
    go_enter Tryz.func38, Tryz.ntmps38
    go_wp2_with fail
    rw [← hwA]
    replace hwA := Lib.hid hwA
    refine HN.mono ?_
    rintro e w1 ⟨hf1, ⟨_, rfl⟩ | ⟨hno, _⟩⟩
    · clear z0 z1 q0 l0 l1 HN
      go_wp2
      go_ret
      exact ⟨_, rfl, World.ownsRow_nil _ _ _ _, hfA.trans0 hf1⟩
    · cases hno
  · rw [hp] at HN hlay
    simp only [if_true] at hlay
    have HP := fun l bl W (hL : Lg W l bl 0 p) => layout_ok l bl 0 p ⟨rk, rn⟩ W hL hr wk (by omega)
    rw [← hlay] at HP
    replace hlay := Lib.hid hlay
    unfold LayPost at HP
    go_enter Tryz.func38, Tryz.ntmps38
    go_wp2_with fail
    rw [← hwA]
    replace hwA := Lib.hid hwA
    refine HN.mono ?_
    rintro e w1 ⟨hf1, ⟨hno, _⟩ | ⟨_, l, bl, rfl, hll, hbl, hLo⟩⟩
    · cases hno
    · have hLg : Lg w1 l bl 0 p := ⟨_, hLo, fun _ _ _ h => by cases h⟩
      obtain ⟨y0, y1⟩ := (B1.keep hf1).c2
      have yl := (B1.keep hf1).lt
      have hs1 := hf1.size
      clear z0 z1 q0 l0 l1 HN hLo
      go_wp2_with fail
      refine (HP l bl w1 hLg).mono ?_
      rintro e w2 ⟨v2, rfl, hrow, hf2, hL2⟩
      obtain ⟨A2, c2, rfl⟩ := ownsRow_len2 hrow
      have hw2 : Fr No w w2 := (hfA.trans0 hf1).trans hf2 (fun b hb h => absurd h (by omega))
      clear y0 y1 yl hf1 hf2 HP
      go_wp2
      go_ret
      exact ⟨_, rfl, ownsRow_base hrow (by omega), hw2⟩

set_option maxRecDepth 100000 in
set_option maxHeartbeats 4000000 in
theorem s_lnklayout (X : Nat → Prop) (p : Plan) (v : Value) (r : Ref) (w : World) (h : Sl X w 2 (KprC X w) v p.keepers) (hs : r.name.size ≤ maxLen) :
    Calls Tryz.prog 37 #[.agg #[v], .agg #[.int .i64 r.keeper, .string r.name]] w (SLayPost (layS p r) w) := by
  obtain ⟨A, cap, rfl, hcap, hlen⟩ := h.form
  have hkw := fun W (hW : Fr No w W) => h.keep (R' := KprC X W) hW (fun _ h => h.elim) (fun _ _ _ h => h.keep hW (fun _ h => h.elim))
  have HC := fun W (hW : Fr No w W) => s_lnklaid X p _ r W (hkw W hW) hs
  have hB := (Bx.new w 32 #[.slice A p.keepers.length cap]).alloc (.cells #[.int .i64 r.keeper, .string r.name] 34)
  have hR : Bx ((w.alloc (.cells #[.slice A p.keepers.length cap] 32)).alloc (.cells #[.int .i64 r.keeper, .string r.name] 34)) (w.heap.size + 1) 34 #[.int .i64 r.keeper, .string r.name] := Bx.new_ (by simp)
  cases hc : canS p r
  · have hV : Hid (layS p r = []) := by
      show layS p r = []
      unfold layS layB
      unfold canS at hc
      cases hp : lodB p
      · rfl
      · rw [hp, Bool.true_and] at hc; rw [hc]; rfl
    rw [hc] at HC
    clear hc h hkw
    go_enter Tryz.func37, Tryz.ntmps37
    go_wp2_with (go_at_call 43; refine (HC _ (by exact frc)).mono ?_; rintro e w1 ⟨rfl, hf1⟩)
    go_ret
    exact ⟨_, rfl, by rw [hV.out]; exact Sl.none_ _ _, by exact frc⟩
  · obtain ⟨hp, k0, i0, hh, hch⟩ := canS_chain hc
    have hV : Hid (layS p r = layL p (chainK p r)) := by
      show layS p r = _
      unfold layS layB
      unfold canS at hc
      rw [hp, Bool.true_and] at hc
      rw [hp, hc, if_pos rfl, if_pos rfl]
      rfl
    rw [hc] at HC
    obtain ⟨rk, rn⟩ := r
    obtain rfl : rk = (k0 : Int) := hh.1
    have HL := fun W (hW : Fr No w W) => s_layout X p _ k0 rn i0 _ W hp (hkw W hW) hh hs hch
    rw [hV.out]
    clear hc h hkw hh hch hV
    generalize layL p (chainK p ⟨k0, rn⟩) = L at *
    dsimp only at *
    unfold SLayPost at HL
    go_enter Tryz.func37, Tryz.ntmps37
    go_wp2_with (first
      | (go_at_call 43; refine (HC _ (by exact frc)).mono ?_; rintro e w1 ⟨rfl, hf1⟩; have hB1 := hB.keep hf1; have hR1 := hR.keep hf1; have b1 := hB1.c1; obtain ⟨z0, z1⟩ := hR1.c2; have hBl1 := hB1.lt; have hRl1 := hR1.lt; have hw1 : Fr No w w1 := (by exact frc))
      | (go_at_call 81; refine (HL _ (by exact frc)).mono ?_; rintro e w2 ⟨v2, rfl, hsl, hf2⟩; obtain ⟨A2, c2, rfl, _, _⟩ := hsl.form))
    go_ret
    exact ⟨_, rfl, hsl, by exact frc⟩
end Go.Proofs.YtoagehacllkchaaGreat
