/- The program's own machine: what it takes for a thing; classes by name; what becomes of a thing. -/
import Derived.Test.YtbalicnnlfennaaGreatCK1
import Derived.Test.YtbalicnnlfennaaGreatCK2
namespace Go.Proofs.YtbalicnnlfennaaGreat
open Go.RowKit

def resC (wB : World) (b : Nat) (u v : Value) (j : Nat) (W : World) : Prop := (j = 0 ∧ Fr No wB W) ∨ (j = 1 ∧ Fr (fun x => x = b) wB W ∧ W.cell? ⟨b, 0, none⟩ = some u ∧ W.cell? ⟨b, 1, none⟩ = some v)
section
variable {wB : World} {b : Nat} {u v : Value}
theorem resC.mono : ∀ j W W', resC wB b u v j W → Fr No W W' → resC wB b u v j W' := fun j W W' h hf => by
 rcases h with ⟨h1, h2⟩ | ⟨h1, h2, h3, h4⟩
 ·exact .inl ⟨h1, h2.trans0 hf⟩
 ·exact .inr ⟨h1, h2.trans0 hf, hf.keep0 h3, hf.keep0 h4⟩
theorem resC.g {j : Nat} {W : World} (h : resC wB b u v j W) : Fr (fun x => x = b) wB W := by
 rcases h with ⟨h1, h2⟩ | ⟨h1, h2, h3, h4⟩
 ·exact h2.of0
 ·exact h2
theorem resC.start : resC wB b u v 0 wB.drew := .inl ⟨rfl, (Fr.refl No wB).drew⟩
theorem resC.cells {t : TypeId} {u0 v0 : Value} (hB : Bx wB b t #[u0, v0]) {j : Nat} (hj : j < 1) {W : World} (h : resC wB b u v j W) : W.cell? ⟨b, 0, none⟩ = some u0 ∧ W.cell? ⟨b, 1, none⟩ = some v0 ∧ (∀ i, W.frozen? ⟨b, i, none⟩ = false) ∧ b < W.heap.size := by
 rcases h with ⟨h1, h2⟩ | ⟨h1, _⟩
 ·have := hB.keep h2
  exact ⟨this.c2.1, this.c2.2, fun i => this.frozen i, this.lt⟩
 ·omega
theorem resC.put {t : TypeId} {u0 v0 : Value} (hB : Bx wB b t #[u0, v0]) {j : Nat} (hj : j < 1) {W : World} (h : resC wB b u v j W) : resC wB b u v (j + 1) ((W.setCell ⟨b, 0, none⟩ u).setCell ⟨b, 1, none⟩ v) := by
 rcases h with ⟨rfl, h2⟩ | ⟨h1, _⟩
 ·have hb := ((hB.keep h2).set_ 0 u).set_ 1 v
  exact .inr ⟨rfl, h2.of0.same ((Fr.one _ _ _ _).same (Fr.one _ _ _ _)), hb.c2.1, hb.c2.2⟩
 ·omega
theorem resC.done {W : World} (h : resC wB b u v 1 W) : Fr (fun x => x = b) wB W ∧ W.cell? ⟨b, 0, none⟩ = some u ∧ W.cell? ⟨b, 1, none⟩ = some v := by
 rcases h with ⟨h1, _⟩ | ⟨_, h⟩
 ·omega
 ·exact h
theorem Bx.rB {w0 : World} {g : Nat} {t : TypeId} {c0 c1 : Value} (h : Bx w0 g t #[c0, c1]) (hg : g ≠ b) : ∀ W, Fr (fun x => x = b) w0 W → W.cell? ⟨g, 0, none⟩ = some c0 ∧ W.cell? ⟨g, 1, none⟩ = some c1 ∧ (∀ i, W.frozen? ⟨g, i, none⟩ = false) ∧ g < W.heap.size := fun W hW => by
 have := h.keepX hW hg
 exact ⟨this.c2.1, this.c2.2, fun i => this.frozen i, this.lt⟩
end
def PopObj (K : McP) (n : Nat) (s : St) (fs : List Cal) (f : Cal) (m : MLay) (c : Nat) (w : World) (e : Ending) (w' : World) : Prop :=
 match popV f.stack with
 | none => e = .returned (.tuple #[.agg #[.int .i64 0, .int .i64 0], .bool false]) ∧ Fr No w w'
 | some (v, r) => e = .returned (.tuple #[.agg #[.int .i64 v.kind, .int .i64 v.n], .bool (decide (v.kind = 2 ∨ v.kind = 3))]) ∧ McOk K n c s fs (f.left r) m w w'

set_option maxRecDepth 100000 in
set_option maxHeartbeats 4000000 in
theorem popObject_ok (K : McP) (E : McE K) (n : Nat) (s : St) (fs : List Cal) (f : Cal) (m : MLay) (ks : List KC) (k : KC) (w : World) (h : McT K n s fs f m ks k w) (hst : f.stack.length ≤ 100) :
  Calls Tryz.prog 90 #[.pointer (some ⟨K.mb, 0, none⟩)] w (PopObj K n s fs f m k.c w) := by
 have HT := fun W (hW : Fr No w W) => top_ok K n s fs f m ks k W (h.keep E hW)
 have HP := fun W (hW : Fr No w W) => pop_ok K E n s fs f m ks k W (h.keep E hW) hst
 have hZ := fun b (hb : b ∈ mcB K m) => h.st.lt hb
 have hw0 := h.st.anchor.size
 unfold PopPost at HP
 unfold PopObj
 obtain ⟨wA, hwA⟩ : ∃ wA, wA = (w.alloc (.cells #[.int .i64 0, .int .i64 0] 40)) := ⟨_, rfl⟩
 have hfA : Fr No w wA := hwA ▸ frc
 have B0 := (hwA ▸ bxc : Bx wA w.heap.size 40 #[.int .i64 0, .int .i64 0])
 have hsA : w.heap.size < wA.heap.size := B0.lt
 have hno : ¬ K.own m w.heap.size := fun hx => by
  rcases hx with hx | hx
  ·have := E.bl_lt; omega
  ·have := hZ _ hx; omega
 rcases popV_cases f.stack with ⟨hs, q1, _⟩ | ⟨ys, x, hs, q1, _⟩
 ·rw [q1] at HP ⊢
  dsimp only at HP ⊢
  clear h hs q1
  go_enter Tryz.func90, Tryz.ntmps90
  go_wp2_with (first
   | (go_at_call 62; rw [← hwA]; refine (HT _ hfA).mono ?_; rintro e w1 ⟨rfl, hf1⟩)
   | (go_at_call 82; refine (HP _ (hfA.trans0 hf1)).mono ?_; rintro e w2 ⟨rfl, hf2⟩; have hfE : Fr No w w2 := (hfA.trans0 hf1).trans0 hf2))
  have B2 := (B0.keep hf1).keep hf2
  obtain ⟨wB, hwB⟩ : ∃ wB, wB = (w2.alloc (.cells #[.int .i64 0, .int .i64 0] 40)) := ⟨_, rfl⟩
  rw [← hwB]
  have hfB : Fr No w2 wB := hwB ▸ frc
  have BB : Bx wB w2.heap.size 40 #[.int .i64 0, .int .i64 0] := hwB ▸ bxc
  have B2B := B2.keep hfB
  have KB := BB.rB (b := w.heap.size) (by have := B2.lt; omega)
  have hG : ∀ j W, resC wB w.heap.size (.int .i64 0) (.int .i64 0) j W → Fr (fun x => x = w.heap.size) wB W := fun _ _ h => h.g
  have hGs : ∀ W, Fr (fun x => x = w.heap.size) wB W → wB.heap.size ≤ W.heap.size := fun _ h => h.size
  replace B2B := Lib.hid B2B
  replace hwA := Lib.hid hwA
  replace hwB := Lib.hid hwB
  clear HT HP B2 BB
  refine wp_region_allL [isV (.agg #[.int .i64 0, .int .i64 0]), isV (.bool false), isV (.bool false), isV undef, isV undef, isV undef, isV undef, isV undef, isV undef, isV undef, isV undef, isV (.bool false), isV (undef), isV (.bool false)] [false, false, false, false, false, false, false, false, false, false, false, false, true, false] [true, true, true, false, false, false, false, false, false, false, false, true, true, true] 1 (resC wB w.heap.size (.int .i64 0) (.int .i64 0)) (fun _ _ => True) (by kernel_rfl) (by kernel_rfl) ?_ ?_ ?_ ?_ ?_ (by decide) ?_ ?_ ?_ ?_ ?_
  ·intro o ho d hd; simp only [List.mem_cons, List.not_mem_nil, or_false] at ho; rcases ho with rfl | rfl | rfl | rfl | rfl | rfl | rfl | rfl | rfl | rfl | rfl | rfl | rfl | rfl <;> (cases hd <;> simp)
  ·intro x hx
   simp only [List.mem_cons, List.not_mem_nil, or_false] at hx
   rcases hx with rfl | rfl | rfl | rfl | rfl | rfl | rfl | rfl | rfl | rfl | rfl | rfl | rfl | rfl
   ·exact isV_mono _
   ·exact isV_mono _
   ·exact isV_mono _
   ·exact isV_mono _
   ·exact isV_mono _
   ·exact isV_mono _
   ·exact isV_mono _
   ·exact isV_mono _
   ·exact isV_mono _
   ·exact isV_mono _
   ·exact isV_mono _
   ·exact isV_mono _
   ·exact isV_mono _
   ·exact isV_mono _
  ·intro x hx v W W' h hs
   simp only [List.mem_cons, List.not_mem_nil, or_false] at hx
   rcases hx with rfl | rfl | rfl | rfl | rfl | rfl | rfl | rfl | rfl | rfl | rfl | rfl | rfl | rfl
   ·exact h
   ·exact h
   ·exact h
   ·exact h
   ·exact h
   ·exact h
   ·exact h
   ·exact h
   ·exact h
   ·exact h
   ·exact h
   ·exact h
   ·exact h
   ·exact h
  ·exact resC.mono
  ·intro k o ho
   rcases k with _ | _ | _ | _ | _ | _ | _ | _ | _ | _ | _ | _ | _ | _ | k
   all_goals (first | (simp at ho; done) | skip)
   all_goals simp only [List.getElem?_cons_zero, List.getElem?_cons_succ, Option.some.injEq] at ho
   all_goals subst ho
   all_goals refine ⟨fun h => ?_, fun g b h v W hv => ?_⟩
   all_goals first | rfl | (cases h; done) | (cases h; obtain rfl : v = Value.bool _ := hv; rfl) | (cases h; obtain rfl : v = undef := hv; rfl)
  ·intro k hk h W
   rcases k with _ | _ | _ | _ | _ | _ | _ | _ | _ | _ | _ | _ | _ | _ | k
   all_goals first | (exact rfl) | (cases h; done) | (simp at hk; done) | (simp at hk; omega)
  ·exact resC.start
  ·intro k o ho hu hg a' W jc hjc hW0 hoff hdep
   have hW := hG jc _ hW0
   have hbs := hGs _ hW
   have H4 := hoff 4 (by simp)
   have H5 := hoff 5 (by simp)
   have H2 := hoff 2 (by simp)
   simp only [Act.eval] at H4 H5 H2
   rcases k with _ | _ | _ | _ | _ | _ | _ | _ | _ | _ | _ | _ | _ | _ | k
   all_goals (first | (simp at ho; done) | skip)
   all_goals (first | (exact absurd hu (by decide)) | skip)
   all_goals (first | (exact absurd hg (by decide)) | skip)
   all_goals simp only [List.getElem?_cons_zero, List.getElem?_cons_succ, Option.some.injEq] at ho
   all_goals subst ho
   ·unfold opGives
    simp [execOp, Act.eval, go_sem, givesUpon, *]
    exact ⟨Fr.refl _ _, rfl⟩
   ·unfold opGives
    simp [execOp, Act.eval, H5, go_sem, givesUpon]
    exact ⟨Fr.refl _ _, rfl⟩
   ·have D15 : a'.eval (.tmp 15) = .bool false := hdep ⟨1, .data⟩ (by simp) rfl _ 15 rfl rfl
    simp only [Act.eval] at D15
    unfold opGives
    simp [execOp, Act.eval, D15, go_sem, givesUpon]
    exact ⟨Fr.refl _ _, rfl⟩
   ·have D16 : a'.eval (.tmp 16) = .bool false := hdep ⟨2, .data⟩ (by simp) rfl _ 16 rfl rfl
    have D24 : a'.eval (.tmp 24) = undef := hdep ⟨10, .data⟩ (by simp) rfl _ 24 rfl rfl
    simp only [Act.eval] at D16 D24
    unfold opGives
    simp [execOp, Act.eval, go_sem, givesUpon, D16, D24]
    exact ⟨Fr.refl _ _, rfl⟩
   ·have D25 : a'.eval (.tmp 25) = .bool false := hdep ⟨11, .data⟩ (by simp) rfl _ 25 rfl rfl
    simp only [Act.eval] at D25
    unfold opGives
    simp [execOp, Act.eval, D25, go_sem, givesUpon]
    exact ⟨Fr.refl _ _, rfl⟩
  ·intro k o ho hu a' W jc hjc hW0 hoff hdep
   have hW := hG jc _ hW0
   have hbs := hGs _ hW
   have H4 := hoff 4 (by simp)
   have H5 := hoff 5 (by simp)
   have H2 := hoff 2 (by simp)
   simp only [Act.eval] at H4 H5 H2
   rcases k with _ | _ | _ | _ | _ | _ | _ | _ | _ | _ | _ | _ | _ | _ | k
   all_goals (first | (simp at ho; done) | skip)
   all_goals (first | (exact absurd hu (by decide)) | skip)
   all_goals simp only [List.getElem?_cons_zero, List.getElem?_cons_succ, Option.some.injEq] at ho
   all_goals subst ho
   ·have D14 : a'.eval (.tmp 14) = .agg #[.int .i64 0, .int .i64 0] := hdep ⟨0, .data⟩ (by simp) rfl _ 14 rfl rfl
    simp only [Act.eval] at D14
    obtain ⟨c0, c1, cf, cl⟩ := resC.cells B2B.out hjc hW0
    unfold opGives
    simp [execOp, Act.eval, go_sem, givesUpon, *]
    exact ⟨resC.put B2B.out hjc hW0, rfl⟩
  intro vs WR hWR hv
  have e0 : vs 0 = _ := hv 0 (by decide)
  have e1 : vs 1 = _ := hv 1 (by decide)
  have e2 : vs 2 = _ := hv 2 (by decide)
  have e3 : vs 3 = _ := hv 3 (by decide)
  have e4 : vs 4 = _ := hv 4 (by decide)
  have e5 : vs 5 = _ := hv 5 (by decide)
  have e6 : vs 6 = _ := hv 6 (by decide)
  have e7 : vs 7 = _ := hv 7 (by decide)
  have e8 : vs 8 = _ := hv 8 (by decide)
  have e9 : vs 9 = _ := hv 9 (by decide)
  have e10 : vs 10 = _ := hv 10 (by decide)
  have e11 : vs 11 = _ := hv 11 (by decide)
  have e12 : vs 12 = _ := hv 12 (by decide)
  have e13 : vs 13 = _ := hv 13 (by decide)
  simp only [putsL, if_true, Nat.zero_add, Nat.reduceAdd, e0, e1, e2, e3, e4, e5, e6, e7, e8, e9, e10, e11, e12, e13]
  simp only [Act.put, List.setIfInBounds_toArray, List.set_cons_zero, List.set_cons_succ]
  clear e0 e1 e2 e3 e4 e5 e6 e7 e8 e9 e10 e11 e12 e13 hv
  obtain ⟨hfR, r0, r1⟩ := resC.done hWR
  clear KB hG hGs
  go_wp2_with fail
  refine bodyPost_ret (v := .tuple #[.agg #[.int .i64 0, .int .i64 0], .bool false]) (by simp [results, Tryz.results90, go_sem, *]) rfl ?_
  exact ⟨rfl, (hfE.trans0 hfB).trans hfR (fun b hb e => by omega)⟩
 ·rw [q1] at HP ⊢
  dsimp only at HP ⊢
  clear h hs q1
  obtain ⟨xk, xn⟩ := x
  dsimp only at *
  by_cases k2 : xk = 2
  ·subst k2
   simp only [decide_true, true_or]
   go_enter Tryz.func90, Tryz.ntmps90
   go_wp2_with (first
    | (go_at_call 62; rw [← hwA]; refine (HT _ hfA).mono ?_; rintro e w1 ⟨rfl, hf1⟩)
    | (go_at_call 82; refine (HP _ (hfA.trans0 hf1)).mono ?_; rintro e w2 ⟨rfl, hO⟩; replace hO := Lib.hid hO))
   have hf01 := hfA.trans0 hf1
   have B2 := (B0.keep hf1).keepX (McOk.fr hO.out) hno
   obtain ⟨wB, hwB⟩ : ∃ wB, wB = (w2.alloc (.cells #[.int .i64 2, .int .i64 xn] 40)) := ⟨_, rfl⟩
   rw [← hwB]
   have hfB : Fr No w2 wB := hwB ▸ frc
   have BB : Bx wB w2.heap.size 40 #[.int .i64 2, .int .i64 xn] := hwB ▸ bxc
   have B2B := B2.keep hfB
   have KB := BB.rB (b := w.heap.size) (by have := B2.lt; omega)
   have hG : ∀ j W, resC wB w.heap.size (.int .i64 2) (.int .i64 xn) j W → Fr (fun x => x = w.heap.size) wB W := fun _ _ h => h.g
   have hGs : ∀ W, Fr (fun x => x = w.heap.size) wB W → wB.heap.size ≤ W.heap.size := fun _ h => h.size
   replace B2B := Lib.hid B2B
   replace hwA := Lib.hid hwA
   replace hwB := Lib.hid hwB
   clear HT HP B2 BB
   refine wp_region_allL [isV (.agg #[.int .i64 2, .int .i64 xn]), isV (.bool true), isV (.bool true), isV (.pointer (some ⟨w2.heap.size, 0, none⟩)), isV (.int .i64 2), isV (.bool true), isV (.bool true), isV undef, isV undef, isV undef, isV (.bool true), isV (.bool true), isV (undef), isV (.bool true)] [false, false, false, false, false, false, false, false, false, false, false, false, true, false] [true, true, true, true, true, true, true, false, false, false, true, true, true, true] 1 (resC wB w.heap.size (.int .i64 2) (.int .i64 xn)) (fun _ _ => True) (by kernel_rfl) (by kernel_rfl) ?_ ?_ ?_ ?_ ?_ (by decide) ?_ ?_ ?_ ?_ ?_
   ·intro o ho d hd; simp only [List.mem_cons, List.not_mem_nil, or_false] at ho; rcases ho with rfl | rfl | rfl | rfl | rfl | rfl | rfl | rfl | rfl | rfl | rfl | rfl | rfl | rfl <;> (cases hd <;> simp)
   ·intro x hx
    simp only [List.mem_cons, List.not_mem_nil, or_false] at hx
    rcases hx with rfl | rfl | rfl | rfl | rfl | rfl | rfl | rfl | rfl | rfl | rfl | rfl | rfl | rfl
    ·exact isV_mono _
    ·exact isV_mono _
    ·exact isV_mono _
    ·exact isV_mono _
    ·exact isV_mono _
    ·exact isV_mono _
    ·exact isV_mono _
    ·exact isV_mono _
    ·exact isV_mono _
    ·exact isV_mono _
    ·exact isV_mono _
    ·exact isV_mono _
    ·exact isV_mono _
    ·exact isV_mono _
   ·intro x hx v W W' h hs
    simp only [List.mem_cons, List.not_mem_nil, or_false] at hx
    rcases hx with rfl | rfl | rfl | rfl | rfl | rfl | rfl | rfl | rfl | rfl | rfl | rfl | rfl | rfl
    ·exact h
    ·exact h
    ·exact h
    ·exact h
    ·exact h
    ·exact h
    ·exact h
    ·exact h
    ·exact h
    ·exact h
    ·exact h
    ·exact h
    ·exact h
    ·exact h
   ·exact resC.mono
   ·intro k o ho
    rcases k with _ | _ | _ | _ | _ | _ | _ | _ | _ | _ | _ | _ | _ | _ | k
    all_goals (first | (simp at ho; done) | skip)
    all_goals simp only [List.getElem?_cons_zero, List.getElem?_cons_succ, Option.some.injEq] at ho
    all_goals subst ho
    all_goals refine ⟨fun h => ?_, fun g b h v W hv => ?_⟩
    all_goals first | rfl | (cases h; done) | (cases h; obtain rfl : v = Value.bool _ := hv; rfl) | (cases h; obtain rfl : v = undef := hv; rfl)
   ·intro k hk h W
    rcases k with _ | _ | _ | _ | _ | _ | _ | _ | _ | _ | _ | _ | _ | _ | k
    all_goals first | (exact rfl) | (cases h; done) | (simp at hk; done) | (simp at hk; omega)
   ·exact resC.start
   ·intro k o ho hu hg a' W jc hjc hW0 hoff hdep
    have hW := hG jc _ hW0
    have hbs := hGs _ hW
    have H4 := hoff 4 (by simp)
    have H5 := hoff 5 (by simp)
    have H2 := hoff 2 (by simp)
    simp only [Act.eval] at H4 H5 H2
    rcases k with _ | _ | _ | _ | _ | _ | _ | _ | _ | _ | _ | _ | _ | _ | k
    all_goals (first | (simp at ho; done) | skip)
    all_goals (first | (exact absurd hu (by decide)) | skip)
    all_goals (first | (exact absurd hg (by decide)) | skip)
    all_goals simp only [List.getElem?_cons_zero, List.getElem?_cons_succ, Option.some.injEq] at ho
    all_goals subst ho
    ·unfold opGives
     simp [execOp, Act.eval, go_sem, givesUpon, *]
     exact ⟨Fr.refl _ _, rfl⟩
    ·unfold opGives
     simp [execOp, Act.eval, H5, go_sem, givesUpon]
     exact ⟨Fr.refl _ _, rfl⟩
    ·have D15 : a'.eval (.tmp 15) = .bool true := hdep ⟨1, .data⟩ (by simp) rfl _ 15 rfl rfl
     simp only [Act.eval] at D15
     unfold opGives
     simp [execOp, Act.eval, D15, go_sem, givesUpon]
     exact ⟨Fr.refl _ _, rfl⟩
    ·unfold opGives
     simp [execOp, Act.eval, H4, go_sem, givesUpon]
     exact ⟨Fr.refl _ _, rfl⟩
    ·have D17 : a'.eval (.tmp 17) = .pointer (some ⟨w2.heap.size, 0, none⟩) := hdep ⟨3, .data⟩ (by simp) rfl _ 17 rfl rfl
     simp only [Act.eval] at D17
     unfold opGives
     simp [execOp, Act.eval, go_sem, givesUpon, *]
     exact ⟨Fr.refl _ _, rfl⟩
    ·have D18 : a'.eval (.tmp 18) = .int .i64 2 := hdep ⟨4, .data⟩ (by simp) rfl _ 18 rfl rfl
     simp only [Act.eval] at D18
     unfold opGives
     simp [execOp, Act.eval, D18, go_sem, givesUpon]
     exact ⟨Fr.refl _ _, rfl⟩
    ·have D19 : a'.eval (.tmp 19) = .bool true := hdep ⟨5, .data⟩ (by simp) rfl _ 19 rfl rfl
     simp only [Act.eval] at D19
     unfold opGives
     simp [execOp, Act.eval, D19, go_sem, givesUpon]
     exact ⟨Fr.refl _ _, rfl⟩
    ·have D20 : a'.eval (.tmp 20) = .bool true := hdep ⟨6, .data⟩ (by simp) rfl _ 20 rfl rfl
     have D23 : a'.eval (.tmp 23) = undef := hdep ⟨9, .data⟩ (by simp) rfl _ 23 rfl rfl
     simp only [Act.eval] at D20 D23
     unfold opGives
     simp [execOp, Act.eval, go_sem, givesUpon, D20, D23]
     exact ⟨Fr.refl _ _, rfl⟩
    ·have D16 : a'.eval (.tmp 16) = .bool true := hdep ⟨2, .data⟩ (by simp) rfl _ 16 rfl rfl
     have D24 : a'.eval (.tmp 24) = .bool true := hdep ⟨10, .data⟩ (by simp) rfl _ 24 rfl rfl
     simp only [Act.eval] at D16 D24
     unfold opGives
     simp [execOp, Act.eval, go_sem, givesUpon, D16, D24]
     exact ⟨Fr.refl _ _, rfl⟩
    ·have D25 : a'.eval (.tmp 25) = .bool true := hdep ⟨11, .data⟩ (by simp) rfl _ 25 rfl rfl
     simp only [Act.eval] at D25
     unfold opGives
     simp [execOp, Act.eval, D25, go_sem, givesUpon]
     exact ⟨Fr.refl _ _, rfl⟩
   ·intro k o ho hu a' W jc hjc hW0 hoff hdep
    have hW := hG jc _ hW0
    have hbs := hGs _ hW
    have H4 := hoff 4 (by simp)
    have H5 := hoff 5 (by simp)
    have H2 := hoff 2 (by simp)
    simp only [Act.eval] at H4 H5 H2
    rcases k with _ | _ | _ | _ | _ | _ | _ | _ | _ | _ | _ | _ | _ | _ | k
    all_goals (first | (simp at ho; done) | skip)
    all_goals (first | (exact absurd hu (by decide)) | skip)
    all_goals simp only [List.getElem?_cons_zero, List.getElem?_cons_succ, Option.some.injEq] at ho
    all_goals subst ho
    ·have D14 : a'.eval (.tmp 14) = .agg #[.int .i64 2, .int .i64 xn] := hdep ⟨0, .data⟩ (by simp) rfl _ 14 rfl rfl
     simp only [Act.eval] at D14
     obtain ⟨c0, c1, cf, cl⟩ := resC.cells B2B.out hjc hW0
     unfold opGives
     simp [execOp, Act.eval, go_sem, givesUpon, *]
     exact ⟨resC.put B2B.out hjc hW0, rfl⟩
   intro vs WR hWR hv
   have e0 : vs 0 = _ := hv 0 (by decide)
   have e1 : vs 1 = _ := hv 1 (by decide)
   have e2 : vs 2 = _ := hv 2 (by decide)
   have e3 : vs 3 = _ := hv 3 (by decide)
   have e4 : vs 4 = _ := hv 4 (by decide)
   have e5 : vs 5 = _ := hv 5 (by decide)
   have e6 : vs 6 = _ := hv 6 (by decide)
   have e7 : vs 7 = _ := hv 7 (by decide)
   have e8 : vs 8 = _ := hv 8 (by decide)
   have e9 : vs 9 = _ := hv 9 (by decide)
   have e10 : vs 10 = _ := hv 10 (by decide)
   have e11 : vs 11 = _ := hv 11 (by decide)
   have e12 : vs 12 = _ := hv 12 (by decide)
   have e13 : vs 13 = _ := hv 13 (by decide)
   simp only [putsL, if_true, Nat.zero_add, Nat.reduceAdd, e0, e1, e2, e3, e4, e5, e6, e7, e8, e9, e10, e11, e12, e13]
   simp only [Act.put, List.setIfInBounds_toArray, List.set_cons_zero, List.set_cons_succ]
   clear e0 e1 e2 e3 e4 e5 e6 e7 e8 e9 e10 e11 e12 e13 hv
   obtain ⟨hfR, r0, r1⟩ := resC.done hWR
   clear KB hG hGs
   go_wp2_with fail
   refine bodyPost_ret (v := .tuple #[.agg #[.int .i64 2, .int .i64 xn], .bool true]) (by simp [results, Tryz.results90, go_sem, *]) rfl ?_
   exact ⟨rfl, ((hO.out.to E hfB).from hf1).out E hfA hfR (fun b hb => by subst hb; exact ⟨Nat.le_refl _, hsA⟩) hZ hw0⟩
  have hd2 : (xk == 2) = false := by simp [k2]
  by_cases k3 : xk = 3
  ·subst k3
   simp only [decide_true, or_true]
   go_enter Tryz.func90, Tryz.ntmps90
   go_wp2_with (first
    | (go_at_call 62; rw [← hwA]; refine (HT _ hfA).mono ?_; rintro e w1 ⟨rfl, hf1⟩)
    | (go_at_call 82; refine (HP _ (hfA.trans0 hf1)).mono ?_; rintro e w2 ⟨rfl, hO⟩; replace hO := Lib.hid hO))
   have hf01 := hfA.trans0 hf1
   have B2 := (B0.keep hf1).keepX (McOk.fr hO.out) hno
   obtain ⟨wB, hwB⟩ : ∃ wB, wB = (w2.alloc (.cells #[.int .i64 3, .int .i64 xn] 40)) := ⟨_, rfl⟩
   rw [← hwB]
   have hfB : Fr No w2 wB := hwB ▸ frc
   have BB : Bx wB w2.heap.size 40 #[.int .i64 3, .int .i64 xn] := hwB ▸ bxc
   have B2B := B2.keep hfB
   have KB := BB.rB (b := w.heap.size) (by have := B2.lt; omega)
   have hG : ∀ j W, resC wB w.heap.size (.int .i64 3) (.int .i64 xn) j W → Fr (fun x => x = w.heap.size) wB W := fun _ _ h => h.g
   have hGs : ∀ W, Fr (fun x => x = w.heap.size) wB W → wB.heap.size ≤ W.heap.size := fun _ h => h.size
   replace B2B := Lib.hid B2B
   replace hwA := Lib.hid hwA
   replace hwB := Lib.hid hwB
   clear HT HP B2 BB
   refine wp_region_allL [isV (.agg #[.int .i64 3, .int .i64 xn]), isV (.bool true), isV (.bool true), isV (.pointer (some ⟨w2.heap.size, 0, none⟩)), isV (.int .i64 3), isV (.bool false), isV (.bool false), isV (.pointer (some ⟨w2.heap.size, 0, none⟩)), isV (.int .i64 3), isV (.bool true), isV (.bool true), isV (.bool true), isV (undef), isV (.bool true)] [false, false, false, false, false, false, false, false, false, false, false, false, true, false] [true, true, true, true, true, true, true, true, true, true, true, true, true, true] 1 (resC wB w.heap.size (.int .i64 3) (.int .i64 xn)) (fun _ _ => True) (by kernel_rfl) (by kernel_rfl) ?_ ?_ ?_ ?_ ?_ (by decide) ?_ ?_ ?_ ?_ ?_
   ·intro o ho d hd; simp only [List.mem_cons, List.not_mem_nil, or_false] at ho; rcases ho with rfl | rfl | rfl | rfl | rfl | rfl | rfl | rfl | rfl | rfl | rfl | rfl | rfl | rfl <;> (cases hd <;> simp)
   ·intro x hx
    simp only [List.mem_cons, List.not_mem_nil, or_false] at hx
    rcases hx with rfl | rfl | rfl | rfl | rfl | rfl | rfl | rfl | rfl | rfl | rfl | rfl | rfl | rfl
    ·exact isV_mono _
    ·exact isV_mono _
    ·exact isV_mono _
    ·exact isV_mono _
    ·exact isV_mono _
    ·exact isV_mono _
    ·exact isV_mono _
    ·exact isV_mono _
    ·exact isV_mono _
    ·exact isV_mono _
    ·exact isV_mono _
    ·exact isV_mono _
    ·exact isV_mono _
    ·exact isV_mono _
   ·intro x hx v W W' h hs
    simp only [List.mem_cons, List.not_mem_nil, or_false] at hx
    rcases hx with rfl | rfl | rfl | rfl | rfl | rfl | rfl | rfl | rfl | rfl | rfl | rfl | rfl | rfl
    ·exact h
    ·exact h
    ·exact h
    ·exact h
    ·exact h
    ·exact h
    ·exact h
    ·exact h
    ·exact h
    ·exact h
    ·exact h
    ·exact h
    ·exact h
    ·exact h
   ·exact resC.mono
   ·intro k o ho
    rcases k with _ | _ | _ | _ | _ | _ | _ | _ | _ | _ | _ | _ | _ | _ | k
    all_goals (first | (simp at ho; done) | skip)
    all_goals simp only [List.getElem?_cons_zero, List.getElem?_cons_succ, Option.some.injEq] at ho
    all_goals subst ho
    all_goals refine ⟨fun h => ?_, fun g b h v W hv => ?_⟩
    all_goals first | rfl | (cases h; done) | (cases h; obtain rfl : v = Value.bool _ := hv; rfl) | (cases h; obtain rfl : v = undef := hv; rfl)
   ·intro k hk h W; exfalso; revert h; revert hk; revert k; decide
   ·exact resC.start
   ·intro k o ho hu hg a' W jc hjc hW0 hoff hdep
    have hW := hG jc _ hW0
    have hbs := hGs _ hW
    have H4 := hoff 4 (by simp)
    have H5 := hoff 5 (by simp)
    have H2 := hoff 2 (by simp)
    simp only [Act.eval] at H4 H5 H2
    rcases k with _ | _ | _ | _ | _ | _ | _ | _ | _ | _ | _ | _ | _ | _ | k
    all_goals (first | (simp at ho; done) | skip)
    all_goals (first | (exact absurd hu (by decide)) | skip)
    all_goals (first | (exact absurd hg (by decide)) | skip)
    all_goals simp only [List.getElem?_cons_zero, List.getElem?_cons_succ, Option.some.injEq] at ho
    all_goals subst ho
    ·unfold opGives
     simp [execOp, Act.eval, go_sem, givesUpon, *]
     exact ⟨Fr.refl _ _, rfl⟩
    ·unfold opGives
     simp [execOp, Act.eval, H5, go_sem, givesUpon]
     exact ⟨Fr.refl _ _, rfl⟩
    ·have D15 : a'.eval (.tmp 15) = .bool true := hdep ⟨1, .data⟩ (by simp) rfl _ 15 rfl rfl
     simp only [Act.eval] at D15
     unfold opGives
     simp [execOp, Act.eval, D15, go_sem, givesUpon]
     exact ⟨Fr.refl _ _, rfl⟩
    ·unfold opGives
     simp [execOp, Act.eval, H4, go_sem, givesUpon]
     exact ⟨Fr.refl _ _, rfl⟩
    ·have D17 : a'.eval (.tmp 17) = .pointer (some ⟨w2.heap.size, 0, none⟩) := hdep ⟨3, .data⟩ (by simp) rfl _ 17 rfl rfl
     simp only [Act.eval] at D17
     unfold opGives
     simp [execOp, Act.eval, go_sem, givesUpon, *]
     exact ⟨Fr.refl _ _, rfl⟩
    ·have D18 : a'.eval (.tmp 18) = .int .i64 3 := hdep ⟨4, .data⟩ (by simp) rfl _ 18 rfl rfl
     simp only [Act.eval] at D18
     unfold opGives
     simp [execOp, Act.eval, D18, go_sem, givesUpon]
     exact ⟨Fr.refl _ _, rfl⟩
    ·have D19 : a'.eval (.tmp 19) = .bool false := hdep ⟨5, .data⟩ (by simp) rfl _ 19 rfl rfl
     simp only [Act.eval] at D19
     unfold opGives
     simp [execOp, Act.eval, D19, go_sem, givesUpon]
     exact ⟨Fr.refl _ _, rfl⟩
    ·unfold opGives
     simp [execOp, Act.eval, H4, go_sem, givesUpon]
     exact ⟨Fr.refl _ _, rfl⟩
    ·have D21 : a'.eval (.tmp 21) = .pointer (some ⟨w2.heap.size, 0, none⟩) := hdep ⟨7, .data⟩ (by simp) rfl _ 21 rfl rfl
     simp only [Act.eval] at D21
     unfold opGives
     simp [execOp, Act.eval, go_sem, givesUpon, *]
     exact ⟨Fr.refl _ _, rfl⟩
    ·have D22 : a'.eval (.tmp 22) = .int .i64 3 := hdep ⟨8, .data⟩ (by simp) rfl _ 22 rfl rfl
     simp only [Act.eval] at D22
     unfold opGives
     simp [execOp, Act.eval, D22, go_sem, givesUpon]
     exact ⟨Fr.refl _ _, rfl⟩
    ·have D20 : a'.eval (.tmp 20) = .bool false := hdep ⟨6, .data⟩ (by simp) rfl _ 20 rfl rfl
     have D23 : a'.eval (.tmp 23) = .bool true := hdep ⟨9, .data⟩ (by simp) rfl _ 23 rfl rfl
     simp only [Act.eval] at D20 D23
     unfold opGives
     simp [execOp, Act.eval, go_sem, givesUpon, D20, D23]
     exact ⟨Fr.refl _ _, rfl⟩
    ·have D16 : a'.eval (.tmp 16) = .bool true := hdep ⟨2, .data⟩ (by simp) rfl _ 16 rfl rfl
     have D24 : a'.eval (.tmp 24) = .bool true := hdep ⟨10, .data⟩ (by simp) rfl _ 24 rfl rfl
     simp only [Act.eval] at D16 D24
     unfold opGives
     simp [execOp, Act.eval, go_sem, givesUpon, D16, D24]
     exact ⟨Fr.refl _ _, rfl⟩
    ·have D25 : a'.eval (.tmp 25) = .bool true := hdep ⟨11, .data⟩ (by simp) rfl _ 25 rfl rfl
     simp only [Act.eval] at D25
     unfold opGives
     simp [execOp, Act.eval, D25, go_sem, givesUpon]
     exact ⟨Fr.refl _ _, rfl⟩
   ·intro k o ho hu a' W jc hjc hW0 hoff hdep
    have hW := hG jc _ hW0
    have hbs := hGs _ hW
    have H4 := hoff 4 (by simp)
    have H5 := hoff 5 (by simp)
    have H2 := hoff 2 (by simp)
    simp only [Act.eval] at H4 H5 H2
    rcases k with _ | _ | _ | _ | _ | _ | _ | _ | _ | _ | _ | _ | _ | _ | k
    all_goals (first | (simp at ho; done) | skip)
    all_goals (first | (exact absurd hu (by decide)) | skip)
    all_goals simp only [List.getElem?_cons_zero, List.getElem?_cons_succ, Option.some.injEq] at ho
    all_goals subst ho
    ·have D14 : a'.eval (.tmp 14) = .agg #[.int .i64 3, .int .i64 xn] := hdep ⟨0, .data⟩ (by simp) rfl _ 14 rfl rfl
     simp only [Act.eval] at D14
     obtain ⟨c0, c1, cf, cl⟩ := resC.cells B2B.out hjc hW0
     unfold opGives
     simp [execOp, Act.eval, go_sem, givesUpon, *]
     exact ⟨resC.put B2B.out hjc hW0, rfl⟩
   intro vs WR hWR hv
   have e0 : vs 0 = _ := hv 0 (by decide)
   have e1 : vs 1 = _ := hv 1 (by decide)
   have e2 : vs 2 = _ := hv 2 (by decide)
   have e3 : vs 3 = _ := hv 3 (by decide)
   have e4 : vs 4 = _ := hv 4 (by decide)
   have e5 : vs 5 = _ := hv 5 (by decide)
   have e6 : vs 6 = _ := hv 6 (by decide)
   have e7 : vs 7 = _ := hv 7 (by decide)
   have e8 : vs 8 = _ := hv 8 (by decide)
   have e9 : vs 9 = _ := hv 9 (by decide)
   have e10 : vs 10 = _ := hv 10 (by decide)
   have e11 : vs 11 = _ := hv 11 (by decide)
   have e12 : vs 12 = _ := hv 12 (by decide)
   have e13 : vs 13 = _ := hv 13 (by decide)
   simp only [putsL, if_true, Nat.zero_add, Nat.reduceAdd, e0, e1, e2, e3, e4, e5, e6, e7, e8, e9, e10, e11, e12, e13]
   simp only [Act.put, List.setIfInBounds_toArray, List.set_cons_zero, List.set_cons_succ]
   clear e0 e1 e2 e3 e4 e5 e6 e7 e8 e9 e10 e11 e12 e13 hv
   obtain ⟨hfR, r0, r1⟩ := resC.done hWR
   clear KB hG hGs
   go_wp2_with fail
   refine bodyPost_ret (v := .tuple #[.agg #[.int .i64 3, .int .i64 xn], .bool true]) (by simp [results, Tryz.results90, go_sem, *]) rfl ?_
   exact ⟨rfl, ((hO.out.to E hfB).from hf1).out E hfA hfR (fun b hb => by subst hb; exact ⟨Nat.le_refl _, hsA⟩) hZ hw0⟩
  ·rw [decide_eq_false (show ¬ (xk = 2 ∨ xk = 3) by omega)]
   have hd3 : (xk == 3) = false := by simp [k3]
   go_enter Tryz.func90, Tryz.ntmps90
   go_wp2_with (first
    | (go_at_call 62; rw [← hwA]; refine (HT _ hfA).mono ?_; rintro e w1 ⟨rfl, hf1⟩)
    | (go_at_call 82; refine (HP _ (hfA.trans0 hf1)).mono ?_; rintro e w2 ⟨rfl, hO⟩; replace hO := Lib.hid hO))
   have hf01 := hfA.trans0 hf1
   have B2 := (B0.keep hf1).keepX (McOk.fr hO.out) hno
   obtain ⟨wB, hwB⟩ : ∃ wB, wB = (w2.alloc (.cells #[.int .i64 xk, .int .i64 xn] 40)) := ⟨_, rfl⟩
   rw [← hwB]
   have hfB : Fr No w2 wB := hwB ▸ frc
   have BB : Bx wB w2.heap.size 40 #[.int .i64 xk, .int .i64 xn] := hwB ▸ bxc
   have B2B := B2.keep hfB
   have KB := BB.rB (b := w.heap.size) (by have := B2.lt; omega)
   have hG : ∀ j W, resC wB w.heap.size (.int .i64 xk) (.int .i64 xn) j W → Fr (fun x => x = w.heap.size) wB W := fun _ _ h => h.g
   have hGs : ∀ W, Fr (fun x => x = w.heap.size) wB W → wB.heap.size ≤ W.heap.size := fun _ h => h.size
   replace B2B := Lib.hid B2B
   replace hwA := Lib.hid hwA
   replace hwB := Lib.hid hwB
   clear HT HP B2 BB
   refine wp_region_allL [isV (.agg #[.int .i64 xk, .int .i64 xn]), isV (.bool true), isV (.bool true), isV (.pointer (some ⟨w2.heap.size, 0, none⟩)), isV (.int .i64 xk), isV (.bool false), isV (.bool false), isV (.pointer (some ⟨w2.heap.size, 0, none⟩)), isV (.int .i64 xk), isV (.bool false), isV (.bool false), isV (.bool false), isV (undef), isV (.bool false)] [false, false, false, false, false, false, false, false, false, false, false, false, true, false] [true, true, true, true, true, true, true, true, true, true, true, true, true, true] 1 (resC wB w.heap.size (.int .i64 xk) (.int .i64 xn)) (fun _ _ => True) (by kernel_rfl) (by kernel_rfl) ?_ ?_ ?_ ?_ ?_ (by decide) ?_ ?_ ?_ ?_ ?_
   ·intro o ho d hd; simp only [List.mem_cons, List.not_mem_nil, or_false] at ho; rcases ho with rfl | rfl | rfl | rfl | rfl | rfl | rfl | rfl | rfl | rfl | rfl | rfl | rfl | rfl <;> (cases hd <;> simp)
   ·intro x hx
    simp only [List.mem_cons, List.not_mem_nil, or_false] at hx
    rcases hx with rfl | rfl | rfl | rfl | rfl | rfl | rfl | rfl | rfl | rfl | rfl | rfl | rfl | rfl
    ·exact isV_mono _
    ·exact isV_mono _
    ·exact isV_mono _
    ·exact isV_mono _
    ·exact isV_mono _
    ·exact isV_mono _
    ·exact isV_mono _
    ·exact isV_mono _
    ·exact isV_mono _
    ·exact isV_mono _
    ·exact isV_mono _
    ·exact isV_mono _
    ·exact isV_mono _
    ·exact isV_mono _
   ·intro x hx v W W' h hs
    simp only [List.mem_cons, List.not_mem_nil, or_false] at hx
    rcases hx with rfl | rfl | rfl | rfl | rfl | rfl | rfl | rfl | rfl | rfl | rfl | rfl | rfl | rfl
    ·exact h
    ·exact h
    ·exact h
    ·exact h
    ·exact h
    ·exact h
    ·exact h
    ·exact h
    ·exact h
    ·exact h
    ·exact h
    ·exact h
    ·exact h
    ·exact h
   ·exact resC.mono
   ·intro k o ho
    rcases k with _ | _ | _ | _ | _ | _ | _ | _ | _ | _ | _ | _ | _ | _ | k
    all_goals (first | (simp at ho; done) | skip)
    all_goals simp only [List.getElem?_cons_zero, List.getElem?_cons_succ, Option.some.injEq] at ho
    all_goals subst ho
    all_goals refine ⟨fun h => ?_, fun g b h v W hv => ?_⟩
    all_goals first | rfl | (cases h; done) | (cases h; obtain rfl : v = Value.bool _ := hv; rfl) | (cases h; obtain rfl : v = undef := hv; rfl)
   ·intro k hk h W; exfalso; revert h; revert hk; revert k; decide
   ·exact resC.start
   ·intro k o ho hu hg a' W jc hjc hW0 hoff hdep
    have hW := hG jc _ hW0
    have hbs := hGs _ hW
    have H4 := hoff 4 (by simp)
    have H5 := hoff 5 (by simp)
    have H2 := hoff 2 (by simp)
    simp only [Act.eval] at H4 H5 H2
    rcases k with _ | _ | _ | _ | _ | _ | _ | _ | _ | _ | _ | _ | _ | _ | k
    all_goals (first | (simp at ho; done) | skip)
    all_goals (first | (exact absurd hu (by decide)) | skip)
    all_goals (first | (exact absurd hg (by decide)) | skip)
    all_goals simp only [List.getElem?_cons_zero, List.getElem?_cons_succ, Option.some.injEq] at ho
    all_goals subst ho
    ·unfold opGives
     simp [execOp, Act.eval, go_sem, givesUpon, *]
     exact ⟨Fr.refl _ _, rfl⟩
    ·unfold opGives
     simp [execOp, Act.eval, H5, go_sem, givesUpon]
     exact ⟨Fr.refl _ _, rfl⟩
    ·have D15 : a'.eval (.tmp 15) = .bool true := hdep ⟨1, .data⟩ (by simp) rfl _ 15 rfl rfl
     simp only [Act.eval] at D15
     unfold opGives
     simp [execOp, Act.eval, D15, go_sem, givesUpon]
     exact ⟨Fr.refl _ _, rfl⟩
    ·unfold opGives
     simp [execOp, Act.eval, H4, go_sem, givesUpon]
     exact ⟨Fr.refl _ _, rfl⟩
    ·have D17 : a'.eval (.tmp 17) = .pointer (some ⟨w2.heap.size, 0, none⟩) := hdep ⟨3, .data⟩ (by simp) rfl _ 17 rfl rfl
     simp only [Act.eval] at D17
     unfold opGives
     simp [execOp, Act.eval, go_sem, givesUpon, *]
     exact ⟨Fr.refl _ _, rfl⟩
    ·have D18 : a'.eval (.tmp 18) = .int .i64 xk := hdep ⟨4, .data⟩ (by simp) rfl _ 18 rfl rfl
     simp only [Act.eval] at D18
     unfold opGives
     simp [execOp, Act.eval, D18, go_sem, givesUpon]
     exact ⟨Fr.refl _ _, by show Value.bool _ = _; rw [hd2]⟩
    ·have D19 : a'.eval (.tmp 19) = .bool false := hdep ⟨5, .data⟩ (by simp) rfl _ 19 rfl rfl
     simp only [Act.eval] at D19
     unfold opGives
     simp [execOp, Act.eval, D19, go_sem, givesUpon]
     exact ⟨Fr.refl _ _, rfl⟩
    ·unfold opGives
     simp [execOp, Act.eval, H4, go_sem, givesUpon]
     exact ⟨Fr.refl _ _, rfl⟩
    ·have D21 : a'.eval (.tmp 21) = .pointer (some ⟨w2.heap.size, 0, none⟩) := hdep ⟨7, .data⟩ (by simp) rfl _ 21 rfl rfl
     simp only [Act.eval] at D21
     unfold opGives
     simp [execOp, Act.eval, go_sem, givesUpon, *]
     exact ⟨Fr.refl _ _, rfl⟩
    ·have D22 : a'.eval (.tmp 22) = .int .i64 xk := hdep ⟨8, .data⟩ (by simp) rfl _ 22 rfl rfl
     simp only [Act.eval] at D22
     unfold opGives
     simp [execOp, Act.eval, D22, go_sem, givesUpon]
     exact ⟨Fr.refl _ _, by show Value.bool _ = _; rw [hd3]⟩
    ·have D20 : a'.eval (.tmp 20) = .bool false := hdep ⟨6, .data⟩ (by simp) rfl _ 20 rfl rfl
     have D23 : a'.eval (.tmp 23) = .bool false := hdep ⟨9, .data⟩ (by simp) rfl _ 23 rfl rfl
     simp only [Act.eval] at D20 D23
     unfold opGives
     simp [execOp, Act.eval, go_sem, givesUpon, D20, D23]
     exact ⟨Fr.refl _ _, rfl⟩
    ·have D16 : a'.eval (.tmp 16) = .bool true := hdep ⟨2, .data⟩ (by simp) rfl _ 16 rfl rfl
     have D24 : a'.eval (.tmp 24) = .bool false := hdep ⟨10, .data⟩ (by simp) rfl _ 24 rfl rfl
     simp only [Act.eval] at D16 D24
     unfold opGives
     simp [execOp, Act.eval, go_sem, givesUpon, D16, D24]
     exact ⟨Fr.refl _ _, rfl⟩
    ·have D25 : a'.eval (.tmp 25) = .bool false := hdep ⟨11, .data⟩ (by simp) rfl _ 25 rfl rfl
     simp only [Act.eval] at D25
     unfold opGives
     simp [execOp, Act.eval, D25, go_sem, givesUpon]
     exact ⟨Fr.refl _ _, rfl⟩
   ·intro k o ho hu a' W jc hjc hW0 hoff hdep
    have hW := hG jc _ hW0
    have hbs := hGs _ hW
    have H4 := hoff 4 (by simp)
    have H5 := hoff 5 (by simp)
    have H2 := hoff 2 (by simp)
    simp only [Act.eval] at H4 H5 H2
    rcases k with _ | _ | _ | _ | _ | _ | _ | _ | _ | _ | _ | _ | _ | _ | k
    all_goals (first | (simp at ho; done) | skip)
    all_goals (first | (exact absurd hu (by decide)) | skip)
    all_goals simp only [List.getElem?_cons_zero, List.getElem?_cons_succ, Option.some.injEq] at ho
    all_goals subst ho
    ·have D14 : a'.eval (.tmp 14) = .agg #[.int .i64 xk, .int .i64 xn] := hdep ⟨0, .data⟩ (by simp) rfl _ 14 rfl rfl
     simp only [Act.eval] at D14
     obtain ⟨c0, c1, cf, cl⟩ := resC.cells B2B.out hjc hW0
     unfold opGives
     simp [execOp, Act.eval, go_sem, givesUpon, *]
     exact ⟨resC.put B2B.out hjc hW0, rfl⟩
   intro vs WR hWR hv
   have e0 : vs 0 = _ := hv 0 (by decide)
   have e1 : vs 1 = _ := hv 1 (by decide)
   have e2 : vs 2 = _ := hv 2 (by decide)
   have e3 : vs 3 = _ := hv 3 (by decide)
   have e4 : vs 4 = _ := hv 4 (by decide)
   have e5 : vs 5 = _ := hv 5 (by decide)
   have e6 : vs 6 = _ := hv 6 (by decide)
   have e7 : vs 7 = _ := hv 7 (by decide)
   have e8 : vs 8 = _ := hv 8 (by decide)
   have e9 : vs 9 = _ := hv 9 (by decide)
   have e10 : vs 10 = _ := hv 10 (by decide)
   have e11 : vs 11 = _ := hv 11 (by decide)
   have e12 : vs 12 = _ := hv 12 (by decide)
   have e13 : vs 13 = _ := hv 13 (by decide)
   simp only [putsL, if_true, Nat.zero_add, Nat.reduceAdd, e0, e1, e2, e3, e4, e5, e6, e7, e8, e9, e10, e11, e12, e13]
   simp only [Act.put, List.setIfInBounds_toArray, List.set_cons_zero, List.set_cons_succ]
   clear e0 e1 e2 e3 e4 e5 e6 e7 e8 e9 e10 e11 e12 e13 hv
   obtain ⟨hfR, r0, r1⟩ := resC.done hWR
   clear KB hG hGs
   go_wp2_with fail
   refine bodyPost_ret (v := .tuple #[.agg #[.int .i64 xk, .int .i64 xn], .bool false]) (by simp [results, Tryz.results90, go_sem, *]) rfl ?_
   exact ⟨rfl, ((hO.out.to E hfB).from hf1).out E hfA hfR (fun b hb => by subst hb; exact ⟨Nat.le_refl _, hsA⟩) hZ hw0⟩
end Go.Proofs.YtbalicnnlfennaaGreat
