/- The program's own check of a method's stack maps. -/
import Derived.Test.YtghmnkafpnkojaaGreatDoorVal5
namespace Go.Proofs.YtghmnkafpnkojaaGreatDoor
open Go.RowKit

def mapAt1 (len locals stack last : Int) (x : Mp) : Bool :=
  decide (last < x.at_) && decide (x.at_ < len) && decide ((x.locals.length : Int) = locals) && decide ((x.stack.length : Int) ≤ stack) && x.locals.all tagB && x.stack.all tagB
theorem mapAt1_yes {len locals stack last : Int} {x : Mp} (g1 : last < x.at_) (g2 : x.at_ < len) (g3 : ((x.locals.length : Int) == locals) = true) (g4 : (x.stack.length : Int) ≤ stack)
    (h1 : x.locals.all tagB = true) (h2 : x.stack.all tagB = true) : mapAt1 len locals stack last x = true := by
  have g3 : (x.locals.length : Int) = locals := by simpa using g3
  simp only [mapAt1, g1, g2, g3, g4, h1, h2, decide_true, Bool.and_true]
theorem mapAt1_no {len locals stack last : Int} {x : Mp} (g : x.at_ ≤ last ∨ len ≤ x.at_ ∨ ((x.locals.length : Int) == locals) = false ∨ stack < (x.stack.length : Int) ∨ x.locals.all tagB = false ∨ x.stack.all tagB = false) :
    mapAt1 len locals stack last x = false := by
  unfold mapAt1
  rcases g with g | g | g | g | g | g
  · rw [decide_eq_false (show ¬ last < x.at_ by omega)]; simp
  · rw [decide_eq_false (show ¬ x.at_ < len by omega)]; simp
  · rw [decide_eq_false (show ¬ (x.locals.length : Int) = locals by simpa using g)]; simp
  · rw [decide_eq_false (show ¬ (x.stack.length : Int) ≤ stack by omega)]; simp
  · rw [g]; simp
  · rw [g]; simp
def mapsGo (len locals stack : Int) : Int → List Mp → Bool
  | _, [] => true
  | last, x :: xs => mapAt1 len locals stack last x && mapsGo len locals stack x.at_ xs
def mapsB (m : Mth) : Bool := decide (m.maps.length ≤ 5) && mapsGo m.code.length m.locals m.stack 0 m.maps

set_option maxRecDepth 100000 in
set_option maxHeartbeats 1000000 in
theorem maps_ok (X : Nat → Prop) (m : Mth) (cs : List Value) (w : World) (h : MthC X w cs m) :
    Calls Tryz.prog 108 #[.agg cs.toArray] w (BoolFr (mapsB m) w) := by
  obtain ⟨va, vc, vm, rfl, _, _, ha, hc, hm⟩ := h
  obtain ⟨A, cap, rfl, hcap, hlen⟩ := hm.form
  obtain ⟨Ac, cc, rfl, _, hcl⟩ := hc.form
  have hlen' := hlen
  unfold maxLen at hlen' hcl
  clear ha hc
  by_cases hr : m.maps.length ≤ 5
  · have d1 : decide (5 < (m.maps.length : Int)) = false := by simp; omega
    have hb : Hid (mapsB m = mapsGo m.code.length m.locals m.stack 0 m.maps) := by unfold Hid mapsB; rw [decide_eq_true hr]; rfl
    have hB := Bx.new w 85 #[.string m.name, va, .int .i64 m.ret.kind, .string m.ret.name, .int .i64 m.locals, .int .i64 m.stack, .slice Ac m.code.length cc, .slice A m.maps.length cap]
    go_enter Tryz.func108, Tryz.ntmps108
    go_wp2
    go_loopw [13, 3, 2] (fun i s r wr => ∃ (k : Nat) (l : Int), k ≤ m.maps.length ∧ i = .int .i64 k ∧ s = .int .i64 l ∧ r = .bool false ∧ Hid (mapsB m = mapsGo m.code.length m.locals m.stack l (m.maps.drop k)) ∧
      Fr No (w.alloc (.cells #[.string m.name, va, .int .i64 m.ret.kind, .string m.ret.name, .int .i64 m.locals, .int .i64 m.stack, .slice Ac m.code.length cc, .slice A m.maps.length cap] 85)) wr) (fun i _ _ _ => m.maps.length - (intOf i).toNat)
    case atStart => exact ⟨0, 0, Nat.zero_le _, rfl, rfl, rfl, hb, Fr.refl _ _⟩
    case round =>
      obtain ⟨k, l, hk, rfl, rfl, rfl, ha, hf⟩ := hrel
      have hw : Fr No w wr := ((Fr.refl No w).alloc _).trans0 hf
      have hB' := hB.keep hf
      obtain ⟨b0, b1, b2, b3, b4, b5, b6, b7⟩ := hB'.c8
      have hBl := hB'.lt
      clear hB hb
      by_cases hlt : k < m.maps.length
      · obtain ⟨b, off, Al, cl, As, cs, rfl, hX, c0, c1, c2, hl, hs, _, hll, _, hsl⟩ := (hm.keep hw (fun _ h => h.elim) (fun _ _ _ h => h.keep hw (fun _ h => h.elim))).map hlt
        clear hm
        have H1 := fun W (h : Fr No wr W) => tags_ok X _ m.maps[k].locals W (hl.keep h (fun _ h => h.elim) (fun _ _ _ h => h))
        have H2 := fun W (h : Fr No wr W) => tags_ok X _ m.maps[k].stack W (hs.keep h (fun _ h => h.elim) (fun _ _ _ h => h))
        clear hl hs
        unfold maxLen at hll hsl
        rw [List.drop_eq_getElem_cons hlt] at ha
        generalize m.maps[k] = x at *
        have HS : Hid (mapAt1 m.code.length m.locals m.stack l x = true → mapsB m = mapsGo m.code.length m.locals m.stack x.at_ (m.maps.drop (k + 1))) := fun h => by
          have := ha.out
          rwa [mapsGo, h, Bool.true_and] at this
        have HN : Hid (mapAt1 m.code.length m.locals m.stack l x = false → mapsB m = false) := fun h => by
          have := ha.out
          rwa [mapsGo, h, Bool.false_and] at this
        clear ha
        have hcase : x.at_ ≤ l ∨ (l < x.at_ ∧ (m.code.length : Int) ≤ x.at_) ∨ (l < x.at_ ∧ x.at_ < (m.code.length : Int) ∧ ((x.locals.length : Int) == m.locals) = false) ∨
            (l < x.at_ ∧ x.at_ < (m.code.length : Int) ∧ ((x.locals.length : Int) == m.locals) = true ∧ m.stack < (x.stack.length : Int)) ∨
            (l < x.at_ ∧ x.at_ < (m.code.length : Int) ∧ ((x.locals.length : Int) == m.locals) = true ∧ (x.stack.length : Int) ≤ m.stack ∧ x.locals.all tagB = false) ∨
            (l < x.at_ ∧ x.at_ < (m.code.length : Int) ∧ ((x.locals.length : Int) == m.locals) = true ∧ (x.stack.length : Int) ≤ m.stack ∧ x.locals.all tagB = true ∧ x.stack.all tagB = false) ∨
            (l < x.at_ ∧ x.at_ < (m.code.length : Int) ∧ ((x.locals.length : Int) == m.locals) = true ∧ (x.stack.length : Int) ≤ m.stack ∧ x.locals.all tagB = true ∧ x.stack.all tagB = true) := by
          cases x.locals.all tagB <;> cases x.stack.all tagB <;> cases ((x.locals.length : Int) == m.locals) <;> simp <;> omega
        rcases hcase with g1 | ⟨g1, g2⟩ | ⟨g1, g2, g3⟩ | ⟨g1, g2, g3, g4⟩ | ⟨g1, g2, g3, g4, h1⟩ | ⟨g1, g2, g3, g4, h1, h2⟩ | ⟨g1, g2, g3, g4, h1, h2⟩
        all_goals
          try simp only [h1] at H1
          try simp only [h2] at H2
          try have h1 := Lib.hid h1
          try have h2 := Lib.hid h2
          try have g5 : ((x.locals.length : Int) != m.locals) = false := by (simp at g3 ⊢; exact g3)
          try have g5 : ((x.locals.length : Int) != m.locals) = true := by (simp at g3 ⊢; exact g3)
          go_wp2_with (first
            | (go_at_call_of 121 (Value.slice Al x.locals.length cl); refine (H1 _ (by exact frc)).mono ?_; rintro e w1 ⟨rfl, hf1⟩; obtain ⟨e0, e1, e2, e3, e4, e5, e6, e7⟩ := (hB'.keep (by exact ((Fr.refl No wr).alloc _).trans0 hf1)).c8; obtain ⟨f0, f1, f2⟩ := ((Bx.new wr 220 #[.int .i64 x.at_, .slice Al x.locals.length cl, .slice As x.stack.length cs]).keep hf1).c3)
            | (go_at_call_of 121 (Value.slice As x.stack.length cs); refine (H2 _ (by exact frc)).mono ?_; rintro e w2 ⟨rfl, hf2⟩))
        all_goals first
          | (go_roundw; (case rel => exact ⟨k + 1, x.at_, by omega, by go_num, rfl, rfl, HS.out (mapAt1_yes (by omega) (by omega) (by assumption) (by omega) h1.out h2.out), by exact frc⟩); (case measure => simp [intOf]; omega))
          | (go_ret; exact .mk (by rw [HN.out (mapAt1_no (by first | (left; omega) | (right; left; omega) | (right; right; left; assumption) | (right; right; right; left; omega) | (right; right; right; right; left; assumption) | (right; right; right; right; right; assumption)))]) (by exact frc))
      · have HS : Hid (mapsB m = true) := by have := ha.out; rwa [List.drop_eq_nil_of_le (by omega)] at this
        clear ha hm
        go_wp2
        go_ret
        exact .mk (by rw [HS.out]) (by exact frc)
  · have hb : Hid (mapsB m = false) := by unfold Hid mapsB; rw [decide_eq_false hr]; rfl
    clear hm
    go_enter Tryz.func108, Tryz.ntmps108
    go_wp2
    go_ret
    exact .mk (by rw [hb.out]) (by exact frc)
end Go.Proofs.YtghmnkafpnkojaaGreatDoor
