/- The program's own machine: a class by its name. -/
import Derived.Test.YtbalicnnlfennaaGreatCK3
namespace Go.Proofs.YtbalicnnlfennaaGreat
open Go.RowKit

theorem classM_no {p : Plan} {k : Int} {s : Str} (h : ¬ (findK p k s).2 = 1) : classM p k s = none := by unfold classM; rw [if_neg h]
theorem classM_here {p : Plan} {k : Int} {s : Str} {r : Ref} (h : findK p k s = (r, 1)) : classM p k s = if canB p r then some r else none := by unfold classM; rw [h]; rfl
def ClassPost (K : McP) (n : Nat) (k : Int) (s : Str) (w : World) (e : Ending) (w' : World) : Prop :=
 (∃ r, e = .returned (.tuple #[.agg #[.int .i64 r.keeper, .string r.name], .bool (classM K.p k s).isSome]) ∧ (classM K.p k s = none ∨ classM K.p k s = some r)) ∧ Lg w' K.l K.bl (n + 2) K.p ∧ Fr (fun b => b = K.bl) w w'
def clsC (K : McP) (n : Nat) (wB : World) (b : Nat) (j : Nat) (W : World) : Prop := Fr (fun x => x = K.bl ∨ x = b) wB W ∧ Lg W K.l K.bl (n + j) K.p ∧ ∃ u0 u1, Bx W b 54 #[u0, u1]
def clsS (K : McP) (b : Nat) (u v : Value) (W W' : World) : Prop := Fr (fun x => x = K.bl) W W' ∨ (W'.cell? ⟨b, 0, none⟩ = some u ∧ W'.cell? ⟨b, 1, none⟩ = some v)
def clsP (b : Nat) (u v : Value) : Value → World → Prop := fun x W => x = undef ∧ W.cell? ⟨b, 0, none⟩ = some u ∧ W.cell? ⟨b, 1, none⟩ = some v
section
variable {K : McP} {n : Nat} {wB : World} {b : Nat} {u v : Value}
theorem clsC.mono : ∀ j W W', clsC K n wB b j W → Fr No W W' → clsC K n wB b j W' := fun _ _ _ ⟨h1, h2, u0, u1, h3⟩ hf => ⟨h1.trans0 hf, h2.keep hf, u0, u1, h3.keep hf⟩
theorem clsP.mono : MonP (clsP b u v) := fun _ _ _ h hf => ⟨h.1, hf.keep0 h.2.1, hf.keep0 h.2.2⟩
theorem clsP.stab (hb : b ≠ K.bl) {x : Value} {W W' : World} (h : clsP b u v x W) (hs : clsS K b u v W W') : clsP b u v x W' := by
 obtain ⟨h1, h2, h3⟩ := h
 rcases hs with hs | hs
 ·exact ⟨h1, hs.keep (X := fun x => x = K.bl) (fun _ h => h) hb h2, hs.keep (X := fun x => x = K.bl) (fun _ h => h) hb h3⟩
 ·exact ⟨h1, hs⟩
theorem clsC.put {E : McE K} {j : Nat} {W : World} (hb : K.w0.heap.size ≤ b) (h0 : Fr K.late K.w0 W) (h : clsC K n wB b j W) : clsC K n wB b (j + 1) ((W.setCell ⟨b, 0, none⟩ u).setCell ⟨b, 1, none⟩ v) := by
 obtain ⟨h1, h2, u0, u1, h3⟩ := h
 have hst : Fr (fun x => x = b) W ((W.setCell ⟨b, 0, none⟩ u).setCell ⟨b, 1, none⟩ v) := (Fr.one _ _ _ _).same (Fr.one _ _ _ _)
 obtain ⟨_, hE⟩ := E
 exact ⟨h1.trans hst (fun _ _ h => .inr h), (hE.over2 h2 h0 (hst.mono (fun x _ h => by subst h; exact hb))).mono (by omega), u, v, (h3.set_ 0 u).set_ 1 v⟩
end

set_option maxRecDepth 100000 in
set_option maxHeartbeats 4000000 in
theorem mclass_ok (K : McP) (E : McE K) (n : Nat) (s : St) (fs : List Cal) (f : Cal) (m : MLay) (ks : List KC) (k : KC) (w : World) (h : McT K n s fs f m ks k w) (nm : Str) (hs : nm.size ≤ maxLen) (hn : n < 999000) :
  Calls Tryz.prog 85 #[.pointer (some ⟨K.mb, 0, none⟩), .string nm] w (ClassPost K n f.of_.of_.keeper nm w) := by
 have HT := fun W (hW : Fr No w W) => top_ok K n s fs f m ks k W (h.keep E hW)
 have HK := fun W (hW : Fr No w W) => ckeeper_ok K n s fs f m ks k W (h.keep E hW)
 have HF := fun W (hW : Fr No w W) => (let ⟨_, h1, _⟩ := (h.keep E hW).st.lg; find_ok K.l K.bl n K.p _ f.of_.of_.keeper nm W h1 hs)
 have hlg := h.st.lg
 have hbl := hlg.lt
 have hp := E.ok
 have KM := h.st.cells
 have hanc := h.st.anchor
 obtain ⟨wA, hwA⟩ : ∃ wA, wA = (w.alloc (.cells #[.int .i64 0, .string ⟨#[]⟩] 54)) := ⟨_, rfl⟩
 have hfA : Fr No w wA := hwA ▸ frc
 have B0 := (hwA ▸ bxc : Bx wA w.heap.size 54 #[.int .i64 0, .string ⟨#[]⟩])
 have KMA := fun W (hW : Fr No wA W) => KM W (hfA.trans0 hW)
 have hML : ∀ wB, Fr No w wB → ∀ W, Fr (fun x => x = K.bl ∨ x = w.heap.size) wB W → W.cell? ⟨K.mb, 0, none⟩ = some (.pointer (some ⟨K.l, 0, none⟩)) ∧ K.mb < W.heap.size := fun wB hB W hW => by
  have hb := h.st.box.keep hB
  have h1 := h.st.box.lt
  have h2 := h.st.new _ (mem_mcB.2 (.inl rfl))
  have h3 := E.bl_lt
  have := hb.keepX hW (fun hx => by rcases hx with hx | hx <;> omega)
  exact ⟨this.cell 0, this.lt⟩
 generalize hkp : f.of_.of_.keeper = kp at *
 unfold refV at HF
 clear KM h hkp
 by_cases hc : (findK K.p kp nm).2 = 1
 ·obtain ⟨kc, ix, pre, hq, hh, _⟩ := findK_here hp hc
  have hcm := classM_here hq
  have wk : (Lit.int .i64 (kc : Int)).wf = true := wf_small (by omega) (by have := hh.2.1; have := lodB_len hp; omega)
  rw [hq] at HF
  dsimp only at HF
  clear hc hq hh
  unfold ClassPost
  have hcs : (classM K.p kp nm).isSome = canB K.p ⟨kc, nm⟩ := by rw [hcm]; cases canB K.p ⟨kc, nm⟩ <;> rfl
  have hcr : classM K.p kp nm = none ∨ classM K.p kp nm = some ⟨kc, nm⟩ := by rw [hcm]; cases canB K.p ⟨kc, nm⟩ <;> simp
  rw [hcs]
  replace hcr := Lib.hid hcr
  have HC := fun n' W (hW : Lg W K.l K.bl n' K.p) (h9 : n' < 1000000) => canLay_ok K.l K.bl n' K.p ⟨kc, nm⟩ W hW hs wk h9
  unfold CanPost at HC
  generalize canB K.p ⟨kc, nm⟩ = cb at *
  dsimp only at HC
  clear hcm hcs wk
  go_enter Tryz.func85, Tryz.ntmps85
  go_wp2_with fail
  rw [← hwA]
  replace hwA := Lib.hid hwA
  refine wp_region_monR 13 20 [mV (.pointer (some ⟨K.mb, 0, none⟩)), mV (.pointer (some ⟨K.mb, 0, none⟩)), mV (.pointer (some ⟨K.mb, 0, none⟩)), mV (.pointer (some ⟨K.l, 0, none⟩)), mV (.pointer (some ⟨K.mb, 0, none⟩)), mV (.pointer (some ⟨k.c, 0, none⟩)), mV (.int .i64 kp), mV (.string nm), mV (.tuple #[.agg #[.int .i64 (kc : Int), .string nm], .int .i64 1]), mV (.tuple #[.agg #[.int .i64 (kc : Int), .string nm], .int .i64 1]), mV (.agg #[.int .i64 (kc : Int), .string nm]), mE (mV (.int .i64 1)), mB 54 (#[.int .i64 0, .string ⟨#[]⟩]) wA.heap.size] (by kernel_rfl) (by kernel_rfl) (by simp) ?_ ?_
  ·refine hopC ?_ <| hopC ?_ <| hopC ?_ <| hopC ?_ <| hopC ?_ <| hopC ?_ <| hopC ?_ <| hopC ?_ <| hopC ?_ <| hopC ?_ <| hopC ?_ <| hopC ?_ <| hopC ?_ <| hopZ
   all_goals (intro a' W hW hoff hdep; have hbs := hW.size; have H0 := hoff 0 rfl; have H1 := hoff 1 rfl)
   ·refine nE rfl ?_; simp [execOp, Act.eval, H0, go_sem, givesUpon]; exact fr1 rfl
   ·have D9 : _ = _ := hdep 0 9 rfl; refine nE rfl ?_; simp [execOp, Act.eval, D9, go_sem, givesUpon]; exact fr1 rfl
   ·have D10 : _ = _ := hdep 1 10 rfl; refine nE rfl ?_; simp [execOp, Act.eval, D10, go_sem, givesUpon]; exact fr1 rfl
   ·have D11 : _ = _ := hdep 2 11 rfl; refine nE rfl ?_; clear hoff hdep; simp [execOp, Act.eval, go_sem, givesUpon, *]; exact fr1 rfl
   ·refine nE rfl ?_; simp [execOp, Act.eval, H0, go_sem, givesUpon]; exact fr1 rfl
   ·have D13 : _ = _ := hdep 4 13 rfl; refine nE rfl ?_; simp [Act.eval, D13, go_sem, givesUpon]; exact (HT _ (hfA.trans0 hW)).mono fun e w' h => ⟨_, h.1, h.2, rfl⟩
   ·have D14 : _ = _ := hdep 5 14 rfl; refine nE rfl ?_; simp [Act.eval, D14, go_sem, givesUpon]; exact (HK _ (hfA.trans0 hW)).mono fun e w' h => ⟨_, h.1, h.2, rfl⟩
   ·refine nE rfl ?_; simp [execOp, Act.eval, H1, go_sem, givesUpon]; exact fr1 rfl
   ·have D12 : _ = _ := hdep 3 12 rfl; have D15 : _ = _ := hdep 6 15 rfl; have D16 : _ = _ := hdep 7 16 rfl; refine nE rfl ?_; simp [Act.eval, D12, D15, D16, go_sem, givesUpon]; exact (HF _ (hfA.trans0 hW)).mono fun e w' h => ⟨_, h.1, h.2, rfl⟩
   ·have D17 : _ = _ := hdep 8 17 rfl; refine nE rfl ?_; simp [execOp, Act.eval, D17, go_sem, givesUpon]; exact fr1 rfl
   ·have D8 : _ = _ := hdep 9 8 rfl; refine nE rfl ?_; simp [execOp, Act.eval, D8, go_sem, givesUpon]; exact fr1 rfl
   ·have D8 : _ = _ := hdep 9 8 rfl; exact yE rfl ⟨.int .i64 1, fun W => by simp [execOp, Act.eval, D8, go_sem], rfl, rfl⟩
   ·refine nE rfl ?_; simp [execOp, go_sem, givesUpon]; exact ⟨(Fr.refl _ _).alloc _, ⟨_, rfl, Bx.new_ rfl, hbs⟩, Nat.le_refl _⟩
  intro vs WR hWR hv hne
  obtain ⟨b12, e12, hb12, hl12⟩ := hv 12 (by omega)
  simp only [List.drop_succ_cons, List.drop_zero, putsR_B, putsR_EV, putsR_V, putsR_0, Nat.zero_add, Nat.reduceAdd, e12]
  simp only [Act.put, List.setIfInBounds_toArray, List.set_cons_zero, List.set_cons_succ]
  clear e12 hv
  have hfR := hfA.trans0 hWR
  obtain ⟨p0, p1⟩ := hb12.c2
  have pf := fun i => hb12.frozen i
  have pl := hb12.lt
  have B0R := B0.keep hWR
  have hwl := B0.lt
  clear KMA HT HK HF hne
  go_wp2_with fail
  refine wp_world (fun W => Fr No w W ∧ Bx W b12 54 #[.int .i64 (kc : Int), .string nm] ∧ Bx W w.heap.size 54 #[.int .i64 0, .string ⟨#[]⟩]) ⟨(hfR.setCell (p := ⟨b12, 0, none⟩) (by dsimp only; omega) _).setCell (p := ⟨b12, 1, none⟩) (by dsimp only; omega) _, (hb12.set_ 0 _).set_ 1 _, (B0R.far (p := ⟨b12, 0, none⟩) (by dsimp only; omega) _).far (p := ⟨b12, 1, none⟩) (by dsimp only; omega) _⟩ ?_
  rintro wB ⟨hfB, BB, B0B⟩
  clear hb12 B0R hfR hWR
  have hbne : b12 ≠ w.heap.size := by omega
  have hw0 := hanc.size
  have hbl0 := E.bl_lt
  have hbb : w.heap.size ≠ K.bl := by omega
  have KB : ∀ W, Fr (fun x => x = K.bl ∨ x = w.heap.size) wB W → W.cell? ⟨b12, 0, none⟩ = some (.int .i64 (kc : Int)) ∧ W.cell? ⟨b12, 1, none⟩ = some (.string nm) ∧ (∀ i, W.frozen? ⟨b12, i, none⟩ = false) ∧ b12 < W.heap.size := fun W hW => by
   have := BB.keepX hW (fun h => by rcases h with h | h <;> omega)
   exact ⟨this.c2.1, this.c2.2, fun i => this.frozen i, this.lt⟩
  have hG : ∀ j W, clsC K n wB w.heap.size j W → Fr (fun x => x = K.bl ∨ x = w.heap.size) wB W := fun _ _ h => h.1
  have hGs : ∀ W, Fr (fun x => x = K.bl ∨ x = w.heap.size) wB W → wB.heap.size ≤ W.heap.size := fun _ h => h.size
  have hancW : ∀ j W, clsC K n wB w.heap.size j W → Fr K.late K.w0 W := fun j W h => (hanc.trans0 hfB).trans h.1 (fun x _ hx => by rcases hx with hx | hx; exact .inl hx; exact .inr (by omega))
  have h0 : clsC K n wB w.heap.size 0 wB.drew := ⟨(Fr.refl _ wB).drew, (hlg.keep hfB).keep ((Fr.refl No wB).drew), _, _, B0B.drew⟩
  have KMB : ∀ W, Fr (fun x => x = K.bl ∨ x = w.heap.size) wB W → W.cell? ⟨K.mb, 0, none⟩ = some (.pointer (some ⟨K.l, 0, none⟩)) ∧ K.mb < W.heap.size := fun W hW => hML wB hfB W hW
  clear BB B0B
  refine wp_region_allL [isV (.agg #[.int .i64 (kc : Int), .string nm]), isV (.int .i64 1), isV (.bool true), isV (.bool true), isV (.pointer (some ⟨K.mb, 0, none⟩)), isV (.pointer (some ⟨K.mb, 0, none⟩)), isV (.pointer (some ⟨K.mb, 0, none⟩)), isV (.pointer (some ⟨K.l, 0, none⟩)), isV (.agg #[.int .i64 (kc : Int), .string nm]), isV (.bool cb), isV (.bool cb), clsP w.heap.size (.int .i64 (kc : Int)) (.string nm), isV (.bool cb)] [false, false, false, false, false, false, false, false, false, true, false, true, false] [true, true, true, true, true, true, true, true, true, true, true, true, true] 2 (clsC K n wB w.heap.size) (clsS K w.heap.size (.int .i64 (kc : Int)) (.string nm)) (by kernel_rfl) (by kernel_rfl) ?_ ?_ ?_ ?_ ?_ (by decide) ?_ ?_ ?_ ?_ ?_
  ·intro o ho d hd; simp only [List.mem_cons, List.not_mem_nil, or_false] at ho; rcases ho with rfl | rfl | rfl | rfl | rfl | rfl | rfl | rfl | rfl | rfl | rfl | rfl | rfl <;> (cases hd <;> simp)
  ·intro x hx
   simp only [List.mem_cons, List.not_mem_nil, or_false] at hx
   rcases hx with rfl | rfl | rfl | rfl | rfl | rfl | rfl | rfl | rfl | rfl | rfl | rfl | rfl
   ·exact isV_mono _
   ·exact isV_mono _
   ·exact isV_mono _
   ·exact isV_mono _
   ·exact isV_mono _
   ·exact isV_mono _
   ·exact isV_mono _
   ·exact isV_mono _
   ·exact isV_mono _
   ·exact isV_mono _
   ·exact isV_mono _
   ·exact clsP.mono
   ·exact isV_mono _
  ·intro x hx v W W' h hs
   simp only [List.mem_cons, List.not_mem_nil, or_false] at hx
   rcases hx with rfl | rfl | rfl | rfl | rfl | rfl | rfl | rfl | rfl | rfl | rfl | rfl | rfl
   ·exact h
   ·exact h
   ·exact h
   ·exact h
   ·exact h
   ·exact h
   ·exact h
   ·exact h
   ·exact h
   ·exact h
   ·exact h
   ·exact clsP.stab hbb h hs
   ·exact h
  ·exact clsC.mono
  ·intro k o ho
   rcases k with _ | _ | _ | _ | _ | _ | _ | _ | _ | _ | _ | _ | _ | k
   all_goals (first | (simp at ho; done) | skip)
   all_goals simp only [List.getElem?_cons_zero, List.getElem?_cons_succ, Option.some.injEq] at ho
   all_goals subst ho
   all_goals refine ⟨fun h => ?_, fun g b h v W hv => ?_⟩
   all_goals first | rfl | (cases h; done) | (cases h; obtain rfl : v = Value.bool _ := hv; rfl) | (cases h; obtain rfl : v = undef := hv; rfl)
  ·intro k hk h W; exfalso; revert h; revert hk; revert k; decide
  ·exact h0
  ·intro k o ho hu hg a' W jc hjc hW0 hoff hdep
   have hW := hG jc _ hW0
   have hbs := hGs _ hW
   have H6 := hoff 6 (by simp)
   have H7 := hoff 7 (by simp)
   have H0 := hoff 0 (by simp)
   have H4 := hoff 4 (by simp)
   simp only [Act.eval] at H6 H7 H0 H4
   rcases k with _ | _ | _ | _ | _ | _ | _ | _ | _ | _ | _ | _ | _ | k
   all_goals (first | (simp at ho; done) | skip)
   all_goals (first | (exact absurd hu (by decide)) | skip)
   all_goals (first | (exact absurd hg (by decide)) | skip)
   all_goals simp only [List.getElem?_cons_zero, List.getElem?_cons_succ, Option.some.injEq] at ho
   all_goals subst ho
   ·unfold opGives
    simp [execOp, Act.eval, go_sem, givesUpon, *]
    exact ⟨Fr.refl _ _, rfl⟩
   ·unfold opGives
    simp [execOp, Act.eval, H7, go_sem, givesUpon]
    exact ⟨Fr.refl _ _, rfl⟩
   ·have D21 : a'.eval (.tmp 21) = .int .i64 1 := hdep ⟨1, .data⟩ (by simp) rfl _ 21 rfl rfl
    simp only [Act.eval] at D21
    unfold opGives
    simp [execOp, Act.eval, D21, go_sem, givesUpon]
    exact ⟨Fr.refl _ _, rfl⟩
   ·have D22 : a'.eval (.tmp 22) = .bool true := hdep ⟨2, .data⟩ (by simp) rfl _ 22 rfl rfl
    simp only [Act.eval] at D22
    unfold opGives
    simp [execOp, Act.eval, D22, go_sem, givesUpon]
    exact ⟨Fr.refl _ _, rfl⟩
   ·unfold opGives
    simp [execOp, Act.eval, H0, go_sem, givesUpon]
    exact ⟨Fr.refl _ _, rfl⟩
   ·have D24 : a'.eval (.tmp 24) = .pointer (some ⟨K.mb, 0, none⟩) := hdep ⟨4, .data⟩ (by simp) rfl _ 24 rfl rfl
    simp only [Act.eval] at D24
    unfold opGives
    simp [execOp, Act.eval, D24, go_sem, givesUpon]
    exact ⟨Fr.refl _ _, rfl⟩
   ·have D25 : a'.eval (.tmp 25) = .pointer (some ⟨K.mb, 0, none⟩) := hdep ⟨5, .data⟩ (by simp) rfl _ 25 rfl rfl
    simp only [Act.eval] at D25
    unfold opGives
    simp [execOp, Act.eval, D25, go_sem, givesUpon]
    exact ⟨Fr.refl _ _, rfl⟩
   ·have D26 : a'.eval (.tmp 26) = .pointer (some ⟨K.mb, 0, none⟩) := hdep ⟨6, .data⟩ (by simp) rfl _ 26 rfl rfl
    simp only [Act.eval] at D26
    unfold opGives
    simp [execOp, Act.eval, go_sem, givesUpon, *]
    exact ⟨Fr.refl _ _, rfl⟩
   ·unfold opGives
    simp [execOp, Act.eval, go_sem, givesUpon, *]
    exact ⟨Fr.refl _ _, rfl⟩
   ·have D23 : a'.eval (.tmp 23) = .bool true := hdep ⟨3, .data⟩ (by simp) rfl _ 23 rfl rfl
    have D29 : a'.eval (.tmp 29) = .bool cb := hdep ⟨9, .data⟩ (by simp) rfl _ 29 rfl rfl
    simp only [Act.eval] at D23 D29
    unfold opGives
    simp [execOp, Act.eval, go_sem, givesUpon, D23, D29]
    exact ⟨Fr.refl _ _, rfl⟩
   ·have D30 : a'.eval (.tmp 30) = .bool cb := hdep ⟨10, .data⟩ (by simp) rfl _ 30 rfl rfl
    simp only [Act.eval] at D30
    unfold opGives
    simp [execOp, Act.eval, D30, go_sem, givesUpon]
    exact ⟨Fr.refl _ _, rfl⟩
  ·intro k o ho hu a' W jc hjc hW0 hoff hdep
   have hW := hG jc _ hW0
   have hbs := hGs _ hW
   have H6 := hoff 6 (by simp)
   have H7 := hoff 7 (by simp)
   have H0 := hoff 0 (by simp)
   have H4 := hoff 4 (by simp)
   simp only [Act.eval] at H6 H7 H0 H4
   rcases k with _ | _ | _ | _ | _ | _ | _ | _ | _ | _ | _ | _ | _ | k
   all_goals (first | (simp at ho; done) | skip)
   all_goals (first | (exact absurd hu (by decide)) | skip)
   all_goals simp only [List.getElem?_cons_zero, List.getElem?_cons_succ, Option.some.injEq] at ho
   all_goals subst ho
   ·have D27 : a'.eval (.tmp 27) = .pointer (some ⟨K.l, 0, none⟩) := hdep ⟨7, .data⟩ (by simp) rfl _ 27 rfl rfl
    have D28 : a'.eval (.tmp 28) = .agg #[.int .i64 (kc : Int), .string nm] := hdep ⟨8, .data⟩ (by simp) rfl _ 28 rfl rfl
    simp only [Act.eval] at D27 D28
    unfold opGives
    simp [Act.eval, D27, D28, go_sem, givesUpon]
    exact (HC _ W hW0.2.1 (by omega)).mono (fun e w' h => ⟨_, h.1, ⟨hW0.1.trans h.2.1 (fun _ _ h => .inl h), h.2.2, let ⟨u0, u1, h3⟩ := hW0.2.2; ⟨u0, u1, h3.keepX h.2.1 hbb⟩⟩, .inl h.2.1, rfl⟩)
   ·have D20 : a'.eval (.tmp 20) = .agg #[.int .i64 (kc : Int), .string nm] := hdep ⟨0, .data⟩ (by simp) rfl _ 20 rfl rfl
    simp only [Act.eval] at D20
    obtain ⟨u0, u1, hc9⟩ := hW0.2.2; obtain ⟨hc0, hc1⟩ := hc9.c2; have hcf := fun i => hc9.frozen i; have hcl := hc9.lt; have hb9 := (hc9.set_ 0 (.int .i64 (kc : Int))).set_ 1 (.string nm)
    unfold opGives
    simp [execOp, Act.eval, go_sem, givesUpon, *]
    exact ⟨clsC.put (E := E) hw0 (hancW _ _ hW0) hW0, .inr ⟨hb9.c2.1, hb9.c2.2⟩, rfl, hb9.c2.1, hb9.c2.2⟩
  intro vs WR hWR hv
  have e0 : vs 0 = _ := hv 0 (by decide)
  have e1 : vs 1 = _ := hv 1 (by decide)
  have e2 : vs 2 = _ := hv 2 (by decide)
  have e3 : vs 3 = _ := hv 3 (by decide)
  have e4 : vs 4 = _ := hv 4 (by decide)
  have e5 : vs 5 = _ := hv 5 (by decide)
  have e6 : vs 6 = _ := hv 6 (by decide)
  have e7 : vs 7 = _ := hv 7 (by decide)
  have e8 : vs 8 = _ := hv 8 (by decide)
  have e9 : vs 9 = _ := hv 9 (by decide)
  have e10 : vs 10 = _ := hv 10 (by decide)
  obtain ⟨e11, hr0R11, hr1R11⟩ := hv 11 (by decide)
  have e12 : vs 12 = _ := hv 12 (by decide)
  simp only [putsL, if_true, Nat.zero_add, Nat.reduceAdd, e0, e1, e2, e3, e4, e5, e6, e7, e8, e9, e10, e11, e12]
  simp only [Act.put, List.setIfInBounds_toArray, List.set_cons_zero, List.set_cons_succ]
  clear e0 e1 e2 e3 e4 e5 e6 e7 e8 e9 e10 e11 e12 hv
  obtain ⟨_, _, u0, u1, hBe⟩ := id hWR
  have rl := hBe.lt
  have hWR1 := Lib.hid hWR
  clear KB KMB hG hGs hancW h0 hWR hBe hML HC
  go_wp2_with fail
  refine bodyPost_ret (v := .tuple #[.agg #[.int .i64 (kc : Int), .string nm], .bool cb]) (by simp [results, Tryz.results85, go_sem, *]) rfl ?_
  exact ⟨⟨⟨kc, nm⟩, rfl, hcr.out⟩, hWR1.out.2.1, (hfB.of0).trans hWR1.out.1 (fun b hb h => h.resolve_right (by omega))⟩
 ·have hcm := classM_no hc
  unfold ClassPost
  rw [hcm]
  generalize findK K.p kp nm = q at *
  obtain ⟨⟨qk, qn⟩, qc⟩ := q
  dsimp only at hc HF
  clear hcm hp hanc
  go_enter Tryz.func85, Tryz.ntmps85
  go_wp2_with fail
  rw [← hwA]
  replace hwA := Lib.hid hwA
  refine wp_region_monR 13 20 [mV (.pointer (some ⟨K.mb, 0, none⟩)), mV (.pointer (some ⟨K.mb, 0, none⟩)), mV (.pointer (some ⟨K.mb, 0, none⟩)), mV (.pointer (some ⟨K.l, 0, none⟩)), mV (.pointer (some ⟨K.mb, 0, none⟩)), mV (.pointer (some ⟨k.c, 0, none⟩)), mV (.int .i64 kp), mV (.string nm), mV (.tuple #[.agg #[.int .i64 qk, .string qn], .int .i64 qc]), mV (.tuple #[.agg #[.int .i64 qk, .string qn], .int .i64 qc]), mV (.agg #[.int .i64 qk, .string qn]), mE (mV (.int .i64 qc)), mB 54 (#[.int .i64 0, .string ⟨#[]⟩]) wA.heap.size] (by kernel_rfl) (by kernel_rfl) (by simp) ?_ ?_
  ·refine hopC ?_ <| hopC ?_ <| hopC ?_ <| hopC ?_ <| hopC ?_ <| hopC ?_ <| hopC ?_ <| hopC ?_ <| hopC ?_ <| hopC ?_ <| hopC ?_ <| hopC ?_ <| hopC ?_ <| hopZ
   all_goals (intro a' W hW hoff hdep; have hbs := hW.size; have H0 := hoff 0 rfl; have H1 := hoff 1 rfl)
   ·refine nE rfl ?_; simp [execOp, Act.eval, H0, go_sem, givesUpon]; exact fr1 rfl
   ·have D9 : _ = _ := hdep 0 9 rfl; refine nE rfl ?_; simp [execOp, Act.eval, D9, go_sem, givesUpon]; exact fr1 rfl
   ·have D10 : _ = _ := hdep 1 10 rfl; refine nE rfl ?_; simp [execOp, Act.eval, D10, go_sem, givesUpon]; exact fr1 rfl
   ·have D11 : _ = _ := hdep 2 11 rfl; refine nE rfl ?_; clear hoff hdep; simp [execOp, Act.eval, go_sem, givesUpon, *]; exact fr1 rfl
   ·refine nE rfl ?_; simp [execOp, Act.eval, H0, go_sem, givesUpon]; exact fr1 rfl
   ·have D13 : _ = _ := hdep 4 13 rfl; refine nE rfl ?_; simp [Act.eval, D13, go_sem, givesUpon]; exact (HT _ (hfA.trans0 hW)).mono fun e w' h => ⟨_, h.1, h.2, rfl⟩
   ·have D14 : _ = _ := hdep 5 14 rfl; refine nE rfl ?_; simp [Act.eval, D14, go_sem, givesUpon]; exact (HK _ (hfA.trans0 hW)).mono fun e w' h => ⟨_, h.1, h.2, rfl⟩
   ·refine nE rfl ?_; simp [execOp, Act.eval, H1, go_sem, givesUpon]; exact fr1 rfl
   ·have D12 : _ = _ := hdep 3 12 rfl; have D15 : _ = _ := hdep 6 15 rfl; have D16 : _ = _ := hdep 7 16 rfl; refine nE rfl ?_; simp [Act.eval, D12, D15, D16, go_sem, givesUpon]; exact (HF _ (hfA.trans0 hW)).mono fun e w' h => ⟨_, h.1, h.2, rfl⟩
   ·have D17 : _ = _ := hdep 8 17 rfl; refine nE rfl ?_; simp [execOp, Act.eval, D17, go_sem, givesUpon]; exact fr1 rfl
   ·have D8 : _ = _ := hdep 9 8 rfl; refine nE rfl ?_; simp [execOp, Act.eval, D8, go_sem, givesUpon]; exact fr1 rfl
   ·have D8 : _ = _ := hdep 9 8 rfl; exact yE rfl ⟨.int .i64 qc, fun W => by simp [execOp, Act.eval, D8, go_sem], rfl, rfl⟩
   ·refine nE rfl ?_; simp [execOp, go_sem, givesUpon]; exact ⟨(Fr.refl _ _).alloc _, ⟨_, rfl, Bx.new_ rfl, hbs⟩, Nat.le_refl _⟩
  intro vs WR hWR hv hne
  obtain ⟨b12, e12, hb12, hl12⟩ := hv 12 (by omega)
  simp only [List.drop_succ_cons, List.drop_zero, putsR_B, putsR_EV, putsR_V, putsR_0, Nat.zero_add, Nat.reduceAdd, e12]
  simp only [Act.put, List.setIfInBounds_toArray, List.set_cons_zero, List.set_cons_succ]
  clear e12 hv
  have hfR := hfA.trans0 hWR
  obtain ⟨p0, p1⟩ := hb12.c2
  have pf := fun i => hb12.frozen i
  have pl := hb12.lt
  have B0R := B0.keep hWR
  have hwl := B0.lt
  clear KMA HT HK HF hne
  go_wp2_with fail
  refine wp_world (fun W => Fr No w W ∧ Bx W b12 54 #[.int .i64 qk, .string qn] ∧ Bx W w.heap.size 54 #[.int .i64 0, .string ⟨#[]⟩]) ⟨(hfR.setCell (p := ⟨b12, 0, none⟩) (by dsimp only; omega) _).setCell (p := ⟨b12, 1, none⟩) (by dsimp only; omega) _, (hb12.set_ 0 _).set_ 1 _, (B0R.far (p := ⟨b12, 0, none⟩) (by dsimp only; omega) _).far (p := ⟨b12, 1, none⟩) (by dsimp only; omega) _⟩ ?_
  rintro wB ⟨hfB, BB, B0B⟩
  clear hb12 B0R hfR hWR
  have hbne : b12 ≠ w.heap.size := by omega
  have KB := BB.rB (b := w.heap.size) hbne
  have hG : ∀ j W, resC wB w.heap.size (.int .i64 qk) (.string qn) j W → Fr (fun x => x = w.heap.size) wB W := fun _ _ h => h.g
  have hGs : ∀ W, Fr (fun x => x = w.heap.size) wB W → wB.heap.size ≤ W.heap.size := fun _ h => h.size
  have hd : (qc == 1) = false := by simp [hc]
  replace B0B := Lib.hid B0B
  clear BB
  refine wp_region_allL [isV (.agg #[.int .i64 qk, .string qn]), isV (.int .i64 qc), isV (.bool false), isV (.bool false), isV undef, isV undef, isV undef, isV undef, isV undef, isV undef, isV (.bool false), isV (undef), isV (.bool false)] [false, false, false, false, false, false, false, false, false, false, false, true, false] [true, true, true, true, false, false, false, false, false, false, true, true, true] 1 (resC wB w.heap.size (.int .i64 qk) (.string qn)) (fun _ _ => True) (by kernel_rfl) (by kernel_rfl) ?_ ?_ ?_ ?_ ?_ (by decide) ?_ ?_ ?_ ?_ ?_
  ·intro o ho d hd; simp only [List.mem_cons, List.not_mem_nil, or_false] at ho; rcases ho with rfl | rfl | rfl | rfl | rfl | rfl | rfl | rfl | rfl | rfl | rfl | rfl | rfl <;> (cases hd <;> simp)
  ·intro x hx
   simp only [List.mem_cons, List.not_mem_nil, or_false] at hx
   rcases hx with rfl | rfl | rfl | rfl | rfl | rfl | rfl | rfl | rfl | rfl | rfl | rfl | rfl
   ·exact isV_mono _
   ·exact isV_mono _
   ·exact isV_mono _
   ·exact isV_mono _
   ·exact isV_mono _
   ·exact isV_mono _
   ·exact isV_mono _
   ·exact isV_mono _
   ·exact isV_mono _
   ·exact isV_mono _
   ·exact isV_mono _
   ·exact isV_mono _
   ·exact isV_mono _
  ·intro x hx v W W' h hs
   simp only [List.mem_cons, List.not_mem_nil, or_false] at hx
   rcases hx with rfl | rfl | rfl | rfl | rfl | rfl | rfl | rfl | rfl | rfl | rfl | rfl | rfl
   ·exact h
   ·exact h
   ·exact h
   ·exact h
   ·exact h
   ·exact h
   ·exact h
   ·exact h
   ·exact h
   ·exact h
   ·exact h
   ·exact h
   ·exact h
  ·exact resC.mono
  ·intro k o ho
   rcases k with _ | _ | _ | _ | _ | _ | _ | _ | _ | _ | _ | _ | _ | k
   all_goals (first | (simp at ho; done) | skip)
   all_goals simp only [List.getElem?_cons_zero, List.getElem?_cons_succ, Option.some.injEq] at ho
   all_goals subst ho
   all_goals refine ⟨fun h => ?_, fun g b h v W hv => ?_⟩
   all_goals first | rfl | (cases h; done) | (cases h; obtain rfl : v = Value.bool _ := hv; rfl) | (cases h; obtain rfl : v = undef := hv; rfl)
  ·intro k hk h W
   rcases k with _ | _ | _ | _ | _ | _ | _ | _ | _ | _ | _ | _ | _ | k
   all_goals first | (exact rfl) | (cases h; done) | (simp at hk; done) | (simp at hk; omega)
  ·exact resC.start
  ·intro k o ho hu hg a' W jc hjc hW0 hoff hdep
   have hW := hG jc _ hW0
   have hbs := hGs _ hW
   have H6 := hoff 6 (by simp)
   have H7 := hoff 7 (by simp)
   have H4 := hoff 4 (by simp)
   simp only [Act.eval] at H6 H7 H4
   rcases k with _ | _ | _ | _ | _ | _ | _ | _ | _ | _ | _ | _ | _ | k
   all_goals (first | (simp at ho; done) | skip)
   all_goals (first | (exact absurd hu (by decide)) | skip)
   all_goals (first | (exact absurd hg (by decide)) | skip)
   all_goals simp only [List.getElem?_cons_zero, List.getElem?_cons_succ, Option.some.injEq] at ho
   all_goals subst ho
   ·unfold opGives
    simp [execOp, Act.eval, go_sem, givesUpon, *]
    exact ⟨Fr.refl _ _, rfl⟩
   ·unfold opGives
    simp [execOp, Act.eval, H7, go_sem, givesUpon]
    exact ⟨Fr.refl _ _, rfl⟩
   ·have D21 : a'.eval (.tmp 21) = .int .i64 qc := hdep ⟨1, .data⟩ (by simp) rfl _ 21 rfl rfl
    simp only [Act.eval] at D21
    unfold opGives
    simp [execOp, Act.eval, D21, go_sem, givesUpon]
    exact ⟨Fr.refl _ _, by show Value.bool _ = _; rw [hd]⟩
   ·have D22 : a'.eval (.tmp 22) = .bool false := hdep ⟨2, .data⟩ (by simp) rfl _ 22 rfl rfl
    simp only [Act.eval] at D22
    unfold opGives
    simp [execOp, Act.eval, D22, go_sem, givesUpon]
    exact ⟨Fr.refl _ _, rfl⟩
   ·have D23 : a'.eval (.tmp 23) = .bool false := hdep ⟨3, .data⟩ (by simp) rfl _ 23 rfl rfl
    have D29 : a'.eval (.tmp 29) = undef := hdep ⟨9, .data⟩ (by simp) rfl _ 29 rfl rfl
    simp only [Act.eval] at D23 D29
    unfold opGives
    simp [execOp, Act.eval, go_sem, givesUpon, D23, D29]
    exact ⟨Fr.refl _ _, rfl⟩
   ·have D30 : a'.eval (.tmp 30) = .bool false := hdep ⟨10, .data⟩ (by simp) rfl _ 30 rfl rfl
    simp only [Act.eval] at D30
    unfold opGives
    simp [execOp, Act.eval, D30, go_sem, givesUpon]
    exact ⟨Fr.refl _ _, rfl⟩
  ·intro k o ho hu a' W jc hjc hW0 hoff hdep
   have hW := hG jc _ hW0
   have hbs := hGs _ hW
   have H6 := hoff 6 (by simp)
   have H7 := hoff 7 (by simp)
   have H4 := hoff 4 (by simp)
   simp only [Act.eval] at H6 H7 H4
   rcases k with _ | _ | _ | _ | _ | _ | _ | _ | _ | _ | _ | _ | _ | k
   all_goals (first | (simp at ho; done) | skip)
   all_goals (first | (exact absurd hu (by decide)) | skip)
   all_goals simp only [List.getElem?_cons_zero, List.getElem?_cons_succ, Option.some.injEq] at ho
   all_goals subst ho
   ·have D20 : a'.eval (.tmp 20) = .agg #[.int .i64 qk, .string qn] := hdep ⟨0, .data⟩ (by simp) rfl _ 20 rfl rfl
    simp only [Act.eval] at D20
    obtain ⟨c0, c1, cf, cl⟩ := resC.cells B0B.out hjc hW0
    unfold opGives
    simp [execOp, Act.eval, go_sem, givesUpon, *]
    exact ⟨resC.put B0B.out hjc hW0, rfl⟩
  intro vs WR hWR hv
  have e0 : vs 0 = _ := hv 0 (by decide)
  have e1 : vs 1 = _ := hv 1 (by decide)
  have e2 : vs 2 = _ := hv 2 (by decide)
  have e3 : vs 3 = _ := hv 3 (by decide)
  have e4 : vs 4 = _ := hv 4 (by decide)
  have e5 : vs 5 = _ := hv 5 (by decide)
  have e6 : vs 6 = _ := hv 6 (by decide)
  have e7 : vs 7 = _ := hv 7 (by decide)
  have e8 : vs 8 = _ := hv 8 (by decide)
  have e9 : vs 9 = _ := hv 9 (by decide)
  have e10 : vs 10 = _ := hv 10 (by decide)
  have e11 : vs 11 = _ := hv 11 (by decide)
  have e12 : vs 12 = _ := hv 12 (by decide)
  simp only [putsL, if_true, Nat.zero_add, Nat.reduceAdd, e0, e1, e2, e3, e4, e5, e6, e7, e8, e9, e10, e11, e12]
  simp only [Act.put, List.setIfInBounds_toArray, List.set_cons_zero, List.set_cons_succ]
  clear e0 e1 e2 e3 e4 e5 e6 e7 e8 e9 e10 e11 e12 hv
  obtain ⟨hfE, r0, r1⟩ := resC.done hWR
  clear KB hG hGs
  go_wp2_with fail
  refine bodyPost_ret (v := .tuple #[.agg #[.int .i64 qk, .string qn], .bool false]) (by simp [results, Tryz.results85, go_sem, *]) rfl ?_
  have hfF : Fr No w WR := hfB.trans hfE (fun b hb e => by omega)
  exact ⟨⟨⟨qk, qn⟩, rfl, .inl (by first | rfl | trivial)⟩, (hlg.keep hfF).mono (by omega), hfF.of0⟩
end Go.Proofs.YtbalicnnlfennaaGreat

namespace Go.Proofs.YtbalicnnlfennaaGreat
open Go.RowKit

theorem McS.obj {K : McP} {n : Nat} {s : St} {m : MLay} {w : World} (h : McS K n s m w) {i : Nat} (hi : i < s.heap.length) : ∃ g c vf, m.vh = .slice (some ⟨g, 0, none⟩) s.heap.length c ∧ s.heap.length ≤ c ∧ c ≤ maxLen ∧ s.heap[i].of_.name.size ≤ maxLen ∧ ValRow w vf s.heap[i].fields ∧
  ∀ W, Fr No w W → W.cell? ⟨g, i * 3, none⟩ = some (.int .i64 s.heap[i].of_.keeper) ∧ W.cell? ⟨g, i * 3 + 1, none⟩ = some (.string s.heap[i].of_.name) ∧ W.cell? ⟨g, i * 3 + 2, none⟩ = some vf ∧ g < W.heap.size := by
 have hl := h.hels.length
 obtain ⟨g, c, cur, hv, h1, h2, hb, _, _, _⟩ := h.hrow.at_ (by omega)
 have hk : i < m.ko.length := by omega
 obtain ⟨e1, e2, e3⟩ := h.hels.get i hk hi
 have hc := fun j (hj : j < 3) => h.hrow.cell hv (j := i * 3 + j) (by
  have : (i + 1) * 3 ≤ s.heap.length * 3 := Nat.mul_le_mul_right _ hi
  omega)
 have hf := fun j (hj : j < 3) => flatW_get objL.len m.ko i hk j hj
 have c0 := (hc 0 (by decide)).trans (hf 0 (by decide))
 have c1 := (hc 1 (by decide)).trans (hf 1 (by decide))
 have c2 := (hc 2 (by decide)).trans (hf 2 (by decide))
 rw [Nat.add_zero] at c0
 refine ⟨g, c, m.ko[i].vf, hv, h1, h2, e2, e3, fun W hW => ⟨?_, ?_, ?_, (hb.keep hW).lt⟩⟩
 ·rw [← e1]; exact hW.keep0 c0
 ·rw [← e1]; exact hW.keep0 c1
 ·exact hW.keep0 c2

set_option maxRecDepth 100000 in
set_option maxHeartbeats 4000000 in
theorem object_ok (K : McP) (n : Nat) (s : St) (m : MLay) (w : World) (_ : McE K) (h : McS K n s m w) (v : Val) (top : Ref) (_ : s.heap.length ≤ 100) (hv : v.kind = 2 → ∃ i : Nat, v.n = i ∧ i < s.heap.length) :
  Calls Tryz.prog 88 #[.pointer (some ⟨K.mb, 0, none⟩), .agg #[.int .i64 v.kind, .int .i64 v.n], .agg #[.int .i64 top.keeper, .string top.name]] w (Gives (.int .i64 (objM K.p s.heap v top)) w) := by
 obtain ⟨vk, vn⟩ := v
 dsimp only at hv ⊢
 obtain ⟨wA, hwA⟩ : ∃ wA, wA = ((w.alloc (.cells #[.int .i64 vk, .int .i64 vn] 40)).alloc (.cells #[.int .i64 top.keeper, .string top.name] 54)) := ⟨_, rfl⟩
 have hfA : Fr No w wA := hwA ▸ frc
 have K0 := (hwA ▸ bxc : Bx wA w.heap.size 40 #[.int .i64 vk, .int .i64 vn]).r2
 have K1 := (hwA ▸ bxc : Bx wA (w.heap.size + 1) 54 #[.int .i64 top.keeper, .string top.name]).r2
 unfold objM
 dsimp only
 by_cases h3 : vk = 3
 ·subst h3
  rw [if_pos rfl]
  clear h
  go_enter Tryz.func88, Tryz.ntmps88
  go_wp2
  go_ret
  exact ⟨rfl, frc⟩
 rw [if_neg h3]
 by_cases h2 : vk = 2
 ·subst h2
  rw [if_pos rfl]
  obtain ⟨i, rfl, hi⟩ := hv rfl
  obtain ⟨g, c, vf, hvh, q1, q2, hnm, _, KO⟩ := h.obj hi
  have hgd : s.heap.getD ((i : Int)).toNat noObj = s.heap[i] := getD_nat hi noObj
  rw [hgd]
  obtain ⟨gg, hg1, _⟩ := h.lg
  have HU := fun W (hW : Fr No w W) => under_ok K.l K.bl n K.p gg s.heap[i].of_ top W (hg1.keep hW) hnm
  clear hg1
  have KM := h.cells
  rw [hvh] at KM
  unfold maxLen at q2
  have KOA := fun W (hW : Fr No wA W) => KO W (hfA.trans0 hW)
  have KMA := fun W (hW : Fr No wA W) => KM W (hfA.trans0 hW)
  have HUA := fun W (hW : Fr No wA W) => HU W (hfA.trans0 hW)
  generalize s.heap[i] = o at *
  obtain ⟨⟨ok, on⟩, of⟩ := o
  dsimp only at *
  generalize s.heap.length = len at *
  generalize hU : underK K.p ⟨ok, on⟩ top = U at *
  clear h KO KM hvh hgd hU HU
  cases U
  all_goals
   go_enter Tryz.func88, Tryz.ntmps88
   go_wp2_with fail
   rw [← hwA]
   replace hwA := Lib.hid hwA
   (refine wp_region_fr (X := No) (by kernel_rfl) (by kernel_rfl) ?_)
   (repeat (first | (go_big_quiet_skip; (try simp only [Act.put, List.setIfInBounds_toArray, List.set_cons_zero, List.set_cons_succ])) | (go_big_quiet_want; (apply Exists.intro; refine ⟨fun W hW => ?_, ?_⟩); (focus (go_simp; (try simp only [↓IntWalk.iteOmega]); (try simp only [reduceIte]); first | done | exact rfl | exact ⟨trivial, rfl⟩ | exact ⟨rfl, rfl⟩ | (go_at_call 91; exact (HUA W hW).mono (fun _ _ h => ⟨h.1, hW.trans0 h.2⟩)))); go_big_quiet_on; (try simp only [Act.put, List.setIfInBounds_toArray, List.set_cons_zero, List.set_cons_succ])))); refine wpQuiet_nil ?_
   intro w1 hf1
   clear KOA KMA HUA
   go_wp2_with fail
   go_ret
   exact ⟨by simp, hfA.trans0 hf1⟩
 ·rw [if_neg h2]
  clear h hv
  have hd1 : (vk == 2) = false := by simp [h2]
  have hd2 : (vk != 2) = true := by simp [h2]
  have hd3 : decide (vk = 2) = false := by simp [h2]
  go_enter Tryz.func88, Tryz.ntmps88
  go_wp2_with fail
  rw [← hwA]
  replace hwA := Lib.hid hwA
  (refine wp_region_fr (X := No) (by kernel_rfl) (by kernel_rfl) ?_)
  (repeat (first | (go_big_quiet_skip; (try simp only [Act.put, List.setIfInBounds_toArray, List.set_cons_zero, List.set_cons_succ])) | (go_big_quiet_want; (apply Exists.intro; refine ⟨fun W hW => ?_, ?_⟩); (focus (go_simp; (try simp only [↓IntWalk.iteOmega]); (try simp only [reduceIte]); first | done | exact rfl | exact ⟨trivial, rfl⟩ | exact ⟨rfl, rfl⟩ | fail)); go_big_quiet_on; (try simp only [Act.put, List.setIfInBounds_toArray, List.set_cons_zero, List.set_cons_succ])))); refine wpQuiet_nil ?_
  intro w1 hf1
  go_wp2_with fail
  go_ret
  exact ⟨rfl, hfA.trans0 hf1⟩
end Go.Proofs.YtbalicnnlfennaaGreat

namespace Go.Proofs.YtbalicnnlfennaaGreat
open Go.RowKit

set_option maxRecDepth 100000 in
set_option maxHeartbeats 4000000 in
theorem doNil_ok (K : McP) (E : McE K) (n : Nat) (s : St) (fs : List Cal) (f : Cal) (m : MLay) (ks : List KC) (k : KC) (w : World) (h : McT K n s fs f m ks k w) (hst : f.stack.length ≤ 100) (h0 : 0 ≤ f.pc) (h1 : f.pc < 1000) (i : Ins) :
  Calls Tryz.prog 58 #[.pointer (some ⟨K.mb, 0, none⟩), insV i] w (OpPost K n (match popV f.stack with
   | none => s.ends 10
   | some (v, r) => if v.kind = 2 ∨ v.kind = 3 then (if v.kind = 3 then jumpM K.p s fs (f.left r) i.a else nextM K.p s fs (f.left r)) else s.ends 10) m w) := by
 obtain ⟨op, ia, nm, mbr⟩ := i
 try dsimp only at *
 have HP := fun W (hW : Fr No w W) => popObject_ok K E n s fs f m ks k W (h.keep E hW) hst
 unfold PopObj at HP
 obtain ⟨wA, hwA⟩ : ∃ wA, wA = (w.alloc (.cells #[.int .i64 op, .int .i64 ia, .string nm, .string mbr] 27)) := ⟨_, rfl⟩
 have hfA : Fr No w wA := hwA ▸ frc
 have B0 := (hwA ▸ bxc : Bx wA w.heap.size 27 #[.int .i64 op, .int .i64 ia, .string nm, .string mbr])
 rcases popV_cases f.stack with ⟨hs, q1, _⟩ | ⟨ys, x, hs, q1, _⟩
 ·rw [q1] at HP ⊢
  dsimp only at HP ⊢
  have hE := fun W (hW : Fr No w W) => ((h.keep E hW).ends 10 (by decide) (Fr.refl No W)).mono (show n ≤ n by omega)
  clear h hs q1
  go_enter Tryz.func58, Tryz.ntmps58
  go_wp2_with (go_at_call 90; rw [← hwA]; refine (HP _ hfA).mono ?_; rintro e w2 ⟨rfl, hf2⟩; have hfE : Fr No w w2 := hfA.trans0 hf2)
  go_ret
  exact ⟨rfl, (hE _ frc).from frc⟩
 ·rw [q1] at HP ⊢
  dsimp only at HP ⊢
  have hno : ¬ K.own m w.heap.size := fun hx => by
   rcases hx with hx | hx
   ·have := E.bl_lt; have := h.st.anchor.size; omega
   ·have := h.st.lt hx; omega
  clear h hs q1
  obtain ⟨xk, xn⟩ := x
  dsimp only at *
  by_cases k3 : xk = 3
  ·subst k3
   simp only [decide_true, or_true, if_true] at HP ⊢
   go_enter Tryz.func58, Tryz.ntmps58
   go_wp2_with (first
    | (go_at_call 90; rw [← hwA]; refine (HP _ hfA).mono ?_; rintro e w2 ⟨rfl, hO⟩; obtain ⟨b0, b1, b2, b3, bf, bl⟩ := (B0.keepX (McOk.fr hO) hno).r4 _ (Fr.refl _ _); replace hO := Lib.hid hO)
    | (go_at_call 89; obtain ⟨m2, ks2, k2, hT2, hk2, hB2, hf2⟩ := hO.out; have HJ := fun W (hW : Fr No w2 W) => jump_ok K E n _ fs _ m2 ks2 k2 W (hT2.keep E hW) ia; refine (HJ _ frc).mono ?_; rintro e w3 ⟨rfl, hO3⟩))
   go_ret
   exact ⟨rfl, ((hO3.from frc).then hB2 hf2).from hfA⟩
  by_cases k2 : xk = 2
  ·subst k2
   simp only [decide_true, true_or, if_true] at HP ⊢
   rw [if_neg (by decide)]
   go_enter Tryz.func58, Tryz.ntmps58
   go_wp2_with (first
    | (go_at_call 90; rw [← hwA]; refine (HP _ hfA).mono ?_; rintro e w2 ⟨rfl, hO⟩; obtain ⟨b0, b1, b2, b3, bf, bl⟩ := (B0.keepX (McOk.fr hO) hno).r4 _ (Fr.refl _ _); replace hO := Lib.hid hO)
    | (go_at_call 83; obtain ⟨m2, ks2, k2, hT2, hk2, hB2, hf2⟩ := hO.out; have HN := fun W (hW : Fr No w2 W) => next_ok K E n _ fs _ m2 ks2 k2 W (hT2.keep E hW) h0 h1; refine (HN _ frc).mono ?_; rintro e w3 ⟨rfl, hO3⟩))
   go_ret
   exact ⟨rfl, ((hO3.from frc).then hB2 hf2).from hfA⟩
  ·have hd : ¬ (xk = 2 ∨ xk = 3) := by omega
   rw [if_neg hd]
   rw [decide_eq_false hd] at HP
   go_enter Tryz.func58, Tryz.ntmps58
   go_wp2_with (go_at_call 90; rw [← hwA]; refine (HP _ hfA).mono ?_; rintro e w2 ⟨rfl, hO⟩; obtain ⟨b0, b1, b2, b3, bf, bl⟩ := (B0.keepX (McOk.fr hO) hno).r4 _ (Fr.refl _ _); replace hO := Lib.hid hO)
   go_ret
   exact ⟨rfl, ((hO.out.ends 10 (by decide)).to E frc).from hfA⟩
end Go.Proofs.YtbalicnnlfennaaGreat
