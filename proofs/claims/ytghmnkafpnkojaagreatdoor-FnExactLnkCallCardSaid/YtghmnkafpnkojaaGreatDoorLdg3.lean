/- Keepers are made ready to be asked (newLodge). -/
import Derived.Test.YtghmnkafpnkojaaGreatDoorLdg2
namespace Go.Proofs.YtghmnkafpnkojaaGreatDoor
open Go.RowKit

section
variable {w : World} {cs : List Value}
theorem MapC.old {m : Mp} (h : MapC No w cs m) : MapC (fun b => w.heap.size ≤ b) w cs m := by
  obtain ⟨vl, vs, rfl, h1, h2⟩ := h
  exact ⟨vl, vs, rfl, h1.old (by decide) (fun _ _ _ h => h), h2.old (by decide) (fun _ _ _ h => h)⟩
theorem MthC.old {m : Mth} (h : MthC No w cs m) : MthC (fun b => w.heap.size ≤ b) w cs m := by
  obtain ⟨va, vc, vm, rfl, h1, h2, h3, h4, h5⟩ := h
  exact ⟨va, vc, vm, rfl, h1, h2, h3.old (by decide) (fun _ _ _ h => h), h4.old (by decide) (fun _ _ _ h => h), h5.old (by decide) (fun _ _ _ h => h.old)⟩
theorem ClsC.old {c : Cls} (h : ClsC No w cs c) : ClsC (fun b => w.heap.size ≤ b) w cs c := by
  obtain ⟨vf, vm, rfl, h1, h2, h3, h4⟩ := h
  exact ⟨vf, vm, rfl, h1, h2, h3.old (by decide) (fun _ _ _ h => h), h4.old (by decide) (fun _ _ _ h => h.old)⟩
theorem KprC.old {k : Kpr} (h : KprC No w cs k) : KprC (fun b => w.heap.size ≤ b) w cs k := by
  obtain ⟨vo, va, rfl, h1, h2⟩ := h
  exact ⟨vo, va, rfl, h1.old (by decide) (fun _ _ _ h => h.old), h2.old (by decide) (fun _ _ _ h => h)⟩
end
theorem keepers_old {w w' : World} {v : Value} {xs : List Kpr} {X : Nat → Prop} (h : Sl No w 2 (KprC No w) v xs) (hf : Fr No w w') (hX : ∀ b, X b → w.heap.size ≤ b) : Sl X w' 2 (KprC X w') v xs :=
  ((h.old (R' := KprC (fun b => w.heap.size ≤ b) w) (by decide) (fun _ _ _ h => h.old)).weaken hX (fun _ _ _ h => h.weaken hX)).keep hf (fun _ h => h.elim) (fun _ _ _ h => h.keep hf (fun _ h => h.elim))

def ownQ (p : Plan) (k : Nat) : Int → Str → Option Int := fun q s => if 0 ≤ q ∧ q < k then ixOpt (clsIs s) (kprAt p q).owns else none
def askQ (p : Plan) (k : Nat) : Int → Str → Option Int := fun q s => if 0 ≤ q ∧ q < k then askOpt (kprAt p q).asks s else none
theorem kprAt_get {p : Plan} {k : Nat} (hk : k < p.keepers.length) : kprAt p (k : Int) = p.keepers[k] := by
  unfold kprAt
  simp [List.getD, List.getElem?_eq_getElem hk]
theorem ownQ_step {p : Plan} {k : Nat} (hk : k < p.keepers.length) (q : Int) (s : Str) : ownP (ownQ p k) k p.keepers[k].owns q s = ownQ p (k + 1) q s := by
  unfold ownP ownQ
  by_cases hq : q = k
  · subst hq
    rw [if_pos rfl, if_pos (by omega), kprAt_get hk]
  · rw [if_neg hq]
    by_cases h : 0 ≤ q ∧ q < k
    · rw [if_pos h, if_pos (by omega)]
    · rw [if_neg h, if_neg (by omega)]
theorem askQ_step {p : Plan} {k : Nat} (hk : k < p.keepers.length) (q : Int) (s : Str) : askP (askQ p k) k p.keepers[k].asks q s = askQ p (k + 1) q s := by
  unfold askP askQ
  by_cases hq : q = k
  · subst hq
    rw [if_pos rfl, if_pos (by omega), kprAt_get hk]
  · rw [if_neg hq]
    by_cases h : 0 ≤ q ∧ q < k
    · rw [if_pos h, if_pos (by omega)]
    · rw [if_neg h, if_neg (by omega)]
def ownF (p : Plan) : Int → Str → Option Int := ownQ p p.keepers.length
def askF (p : Plan) : Int → Str → Option Int := askQ p p.keepers.length
/-- Keepers p that are ready to be asked lie at block l; what was laid out lies in the map at block bl (at most n entries, g). -/
def Lodge (w : World) (l bl n : Nat) (p : Plan) (g : Int → Str → Option Int) : Prop :=
  lodB p = true ∧ ∃ A cap bo ba, Bx w l 90 #[.slice A p.keepers.length cap, .map (some bo), .map (some ba), .map (some bl)] ∧ l ≠ bl ∧ bo ≠ bl ∧ ba ≠ bl ∧
    Sl (fun b => b = bl) w 2 (KprC (fun b => b = bl) w) (.slice A p.keepers.length cap) p.keepers ∧ MapF w bo 15 (ownF p) ∧ MapF w ba 12 (askF p) ∧ MapF w bl n g
theorem Lodge.keep {w w' : World} {l bl n : Nat} {p : Plan} {g : Int → Str → Option Int} (h : Lodge w l bl n p g) (hf : Fr No w w') : Lodge w' l bl n p g := by
  obtain ⟨h0, A, cap, bo, ba, h1, h2, h3, h4, h5, h6, h7, h8⟩ := h
  exact ⟨h0, A, cap, bo, ba, h1.keep hf, h2, h3, h4, h5.keep hf (fun _ h => h.elim) (fun _ _ _ h => h.keep hf (fun _ h => h.elim)), h6.keep hf, h7.keep hf, h8.keep hf⟩
def NewPost (p : Plan) (w : World) (e : Ending) (w' : World) : Prop :=
  Fr No w w' ∧ ((lodB p = false ∧ e = .returned (.pointer none)) ∨ (lodB p = true ∧ ∃ l bl, e = .returned (.pointer (some ⟨l, 0, none⟩)) ∧ w.heap.size ≤ l ∧ w.heap.size ≤ bl ∧ Lodge w' l bl 0 p (fun _ _ => none)))
theorem NewPost.no {p : Plan} {w w' : World} (h : lodB p = false) (hf : Fr No w w') : NewPost p w (.returned (.pointer none)) w' := ⟨hf, .inl ⟨h, rfl⟩⟩
theorem NewPost.yes {p : Plan} {w w' : World} {l bl : Nat} (h : lodB p = true) (hf : Fr No w w') (h1 : w.heap.size ≤ l) (h2 : w.heap.size ≤ bl) (h3 : Lodge w' l bl 0 p (fun _ _ => none)) : NewPost p w (.returned (.pointer (some ⟨l, 0, none⟩))) w' :=
  ⟨hf, .inr ⟨h, l, bl, rfl, h1, h2, h3⟩⟩
theorem MapF.new_ {w : World} {b : Nat} (hb : b = w.heap.size) : MapF (w.alloc (.map #[] 0)) b 0 (fun _ _ => none) := by subst hb; exact MapF.made w

set_option maxRecDepth 100000 in
set_option maxHeartbeats 8000000 in
theorem newLodge_ok (p : Plan) (v : Value) (w : World) (hP : Sl No w 2 (KprC No w) v p.keepers) :
    Calls Tryz.prog 20 #[.agg #[v]] w (NewPost p w) := by
  obtain ⟨A, cap, rfl, hcap, hlen⟩ := hP.form
  have hlen' := hlen
  unfold maxLen at hlen'
  have hmm := @run_makeMap Tryz.prog
  by_cases hr : 1 ≤ p.keepers.length ∧ p.keepers.length ≤ 3
  · obtain ⟨h1, h3⟩ := hr
    have hb : Hid (lodB p = p.keepers.all (kprB p.keepers.length)) := by unfold Hid lodB; rw [decide_eq_true h1, decide_eq_true h3]; rfl
    go_enter Tryz.func20, Tryz.ntmps20
    go_wp2
    clear hmm
    have hL4 : Bx (((((w.alloc (.cells #[.slice A p.keepers.length cap] 34)).alloc (.map #[] 0)).alloc (.map #[] 0)).alloc (.map #[] 0)).alloc (.cells #[.slice A p.keepers.length cap, .map (some (w.heap.size + 1)), .map (some (w.heap.size + 1 + 1)), .map (some (w.heap.size + 1 + 1 + 1))] 90)) (w.heap.size + 1 + 1 + 1 + 1) 90 #[.slice A p.keepers.length cap, .map (some (w.heap.size + 1)), .map (some (w.heap.size + 1 + 1)), .map (some (w.heap.size + 1 + 1 + 1))] := Bx.new_ (by simp)
    have hw4 : Fr No w (((((w.alloc (.cells #[.slice A p.keepers.length cap] 34)).alloc (.map #[] 0)).alloc (.map #[] 0)).alloc (.map #[] 0)).alloc (.cells #[.slice A p.keepers.length cap, .map (some (w.heap.size + 1)), .map (some (w.heap.size + 1 + 1)), .map (some (w.heap.size + 1 + 1 + 1))] 90)) := (((((Fr.refl No w).alloc _).alloc _).alloc _).alloc _).alloc _
    have hO4 : MapF (((((w.alloc (.cells #[.slice A p.keepers.length cap] 34)).alloc (.map #[] 0)).alloc (.map #[] 0)).alloc (.map #[] 0)).alloc (.cells #[.slice A p.keepers.length cap, .map (some (w.heap.size + 1)), .map (some (w.heap.size + 1 + 1)), .map (some (w.heap.size + 1 + 1 + 1))] 90)) (w.heap.size + 1) 0 (fun _ _ => none) := (MapF.new_ (by simp)).keep ((((Fr.refl No _).alloc _).alloc _).alloc _)
    have hA4 : MapF (((((w.alloc (.cells #[.slice A p.keepers.length cap] 34)).alloc (.map #[] 0)).alloc (.map #[] 0)).alloc (.map #[] 0)).alloc (.cells #[.slice A p.keepers.length cap, .map (some (w.heap.size + 1)), .map (some (w.heap.size + 1 + 1)), .map (some (w.heap.size + 1 + 1 + 1))] 90)) (w.heap.size + 1 + 1) 0 (fun _ _ => none) := (MapF.new_ (by simp)).keep (((Fr.refl No _).alloc _).alloc _)
    have hM4 : MapF (((((w.alloc (.cells #[.slice A p.keepers.length cap] 34)).alloc (.map #[] 0)).alloc (.map #[] 0)).alloc (.map #[] 0)).alloc (.cells #[.slice A p.keepers.length cap, .map (some (w.heap.size + 1)), .map (some (w.heap.size + 1 + 1)), .map (some (w.heap.size + 1 + 1 + 1))] 90)) (w.heap.size + 1 + 1 + 1) 0 (fun _ _ => none) := (MapF.new_ (by simp)).keep ((Fr.refl No _).alloc _)
    go_loopw [25, 2] (fun i r wr => ∃ k : Nat, k ≤ p.keepers.length ∧ i = .int .i64 k ∧ r = .pointer none ∧ Hid (p.keepers.all (kprB p.keepers.length) = (p.keepers.drop k).all (kprB p.keepers.length)) ∧
      Bx wr (w.heap.size + 1 + 1 + 1 + 1) 90 #[.slice A p.keepers.length cap, .map (some (w.heap.size + 1)), .map (some (w.heap.size + 1 + 1)), .map (some (w.heap.size + 1 + 1 + 1))] ∧ MapF wr (w.heap.size + 1) (5 * k) (ownQ p k) ∧ MapF wr (w.heap.size + 1 + 1) (4 * k) (askQ p k) ∧ MapF wr (w.heap.size + 1 + 1 + 1) 0 (fun _ _ => none) ∧ Fr No w wr) (fun i _ _ => p.keepers.length - (intOf i).toNat)
    case atStart => exact ⟨0, Nat.zero_le _, rfl, rfl, rfl, hL4, hO4.congr (fun q s => by unfold ownQ; rw [if_neg (by omega)]), hA4.congr (fun q s => by unfold askQ; rw [if_neg (by omega)]), hM4, hw4⟩
    case round =>
      clear hL4 hO4 hA4 hM4 hw4
      obtain ⟨k, hk, rfl, rfl, hd, hBx, hO, hA, hM, hw⟩ := hrel
      obtain ⟨e0, e1, e2, e3⟩ := hBx.c4
      have hl := hBx.lt
      by_cases hlt : k < p.keepers.length
      · have HE := enter_ok p k hlt h3 A cap _ _ _ _ (5 * k) (4 * k) (ownQ p k) (askQ p k) wr hBx (by omega) (by omega) (by omega) (keepers_old hP hw (fun b h => by first | omega | (dsimp only at h; omega))) hO hA (by omega) (by omega) (fun s => by unfold ownQ; rw [if_neg (by omega)]) (fun s => by unfold askQ; rw [if_neg (by omega)])
        rw [List.drop_eq_getElem_cons hlt, List.all_cons] at hd
        have hso := fun q s => ownQ_step hlt q s
        have hsa := fun q s => askQ_step hlt q s
        clear hP hO hA
        replace hso := Lib.hid hso
        replace hsa := Lib.hid hsa
        replace hd := Lib.hid hd
        generalize hy : p.keepers[k] = y at *
        clear hy
        cases hkb : kprB p.keepers.length y
        · have HS : Hid (lodB p = false) := hb.out.trans (hd.out.out.trans (by rw [hkb]; rfl))
          replace hkb := Lib.hid hkb
          go_wp2_with (go_at_call 36; refine HE.mono ?_; rintro e w2 ⟨he, hf2, _⟩; rw [hkb.out] at he; subst he)
          go_ret
          exact .no HS.out (hw.trans hf2 (fun b hb h => by rcases h with h | h <;> omega))
        · have HS : Hid (p.keepers.all (kprB p.keepers.length) = (p.keepers.drop (k + 1)).all (kprB p.keepers.length)) := hd.out.out.trans (by rw [hkb]; rfl)
          replace hkb := Lib.hid hkb
          go_wp2_with (go_at_call 36; refine HE.mono ?_; rintro e w2 ⟨he, hf2, hm2⟩; rw [hkb.out] at he; subst he)
          obtain ⟨hO2, hA2⟩ := hm2 hkb.out
          have hM2 := hM.keepX hf2 (by intro h; rcases h with h | h <;> omega)
          have hB2 := hBx.keepX hf2 (by intro h; rcases h with h | h <;> omega)
          go_roundw
          case rel => exact ⟨k + 1, by omega, by go_num, rfl, HS, hB2, hO2.congr (fun q s => hso.out q s), hA2.congr (fun q s => hsa.out q s), hM2, hw.trans hf2 (fun b hb h => by rcases h with h | h <;> omega)⟩
          case measure => simp [intOf]; omega
      · have hkl : k = p.keepers.length := by omega
        have HS : Hid (lodB p = true) := hb.out.trans (hd.out.trans (by rw [List.drop_eq_nil_of_le (by omega)]; rfl))
        have hLg : Lodge wr (w.heap.size + 1 + 1 + 1 + 1) (w.heap.size + 1 + 1 + 1) 0 p (fun _ _ => none) :=
          ⟨HS.out, A, cap, _, _, hBx, by omega, by omega, by omega, keepers_old hP hw (fun b h => by first | omega | (dsimp only at h; omega)), (by rw [hkl] at hO; exact hO.mono (by omega)), (by rw [hkl] at hA; exact hA.mono (by omega)), hM⟩
        replace hLg := Lib.hid hLg
        clear hP hd hO hA hM hkl
        go_wp2
        go_ret
        exact .yes HS.out hw (by omega) (by omega) hLg.out
  · have hb : Hid (lodB p = false) := by
      unfold Hid lodB
      rw [Bool.and_eq_false_iff, Bool.and_eq_false_iff, decide_eq_false_iff_not, decide_eq_false_iff_not]; omega
    have hr' : p.keepers.length < 1 ∨ (1 ≤ p.keepers.length ∧ 3 < p.keepers.length) := by omega
    clear hr hmm
    rcases hr' with g | ⟨g, g'⟩
    all_goals
      go_enter Tryz.func20, Tryz.ntmps20
      go_wp2
      go_ret
      exact .no hb.out (by exact frc)
end Go.Proofs.YtghmnkafpnkojaaGreatDoor
