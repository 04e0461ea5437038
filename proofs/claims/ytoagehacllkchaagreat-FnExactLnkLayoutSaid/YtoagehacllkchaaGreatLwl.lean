/- The law's walk: the program's LnkLayout is the reference's, in its own memory, and the keepers stay as they were. -/
import Derived.Test.YtoagehacllkchaaGreatLyp
import Derived.Test.YtoagehacllkchaaGreatMkp
import Derived.Test.YtoagehacllkchaaGreatLeq
import Derived.Test.YtoagehacllkchaaGreatEql
import Derived.Test.YtoagehacllkchaaGreatPlb
import Derived.Test.YtoagehacllkchaaGreatTn
import Derived.Test.YtoagehacllkchaaGreatToR
namespace Go.Proofs.YtoagehacllkchaaGreat
open Go.RowKit

theorem layS_len (p : Plan) (r : Ref) : (layS p r).length ≤ 18 := by
  unfold layS
  by_cases hp : lodB p = true
  · rw [if_pos hp]
    unfold layB
    split
    · unfold layK layL
      rw [layGo_len]
      have h1 := fldsOf_len hp (rs := (chainK p r).reverse) (fun x hx => chainK_here hp r x (by simpa using hx))
      have h2 := chainK_len hp r
      rw [List.length_reverse] at h1
      omega
    · simp
  · rw [if_neg hp]; simp
theorem rwB.le {F : List LFld} {b1 b0 : Nat} {v : Value} {w : World} (h : rwB F b1 v w) (hb : b0 ≤ b1) : rwB F b0 v w := by
  obtain ⟨A, c, g, h1, h2, h3, h4⟩ := h
  exact ⟨A, c, g, h1, h2, Nat.le_trans hb h3, h4⟩
def slF (F : List LFld) : Value → World → Prop := fun v W => ∃ A c, v = .slice A F.length c ∧ Sl No W 5 LFldC (.slice A F.length c) F
theorem slF_mono (F : List LFld) : MonP (slF F) := fun _ _ _ ⟨A, c, h1, h2⟩ hf => ⟨A, c, h1, h2.keep hf (fun _ h => h.elim) (fun _ _ _ h => h)⟩
theorem slF_of {F : List LFld} {v : Value} {w : World} (h : Sl No w 5 LFldC v F) : slF F v w := by
  obtain ⟨A, c, rfl, _, _⟩ := h.form
  exact ⟨A, c, rfl, h⟩

set_option maxRecDepth 100000 in
set_option maxHeartbeats 8000000 in
theorem law_layout (X : Nat → Prop) (p : Plan) (r : Ref) (cs : List Value) (w : World) (h : PlanC X w cs p) (hr : r.name.size ≤ maxLen) (wk : (Lit.int .i64 r.keeper).wf = true) :
    Calls Tryz.prog 8 #[.agg cs.toArray, .agg #[.int .i64 r.keeper, .string r.name]] w (BoolFr true w) := by
  obtain ⟨rk, rn⟩ := r
  dsimp only at hr wk ⊢
  have HZ := fun W (hW : Fr No w W) => szPlan_go X p cs 1048576 W (by obtain ⟨vk, rfl, h⟩ := h; exact ⟨vk, rfl, h.keep hW (fun _ h => h.elim) (fun _ _ _ h => h.keep hW (fun _ h => h.elim))⟩) (by omega) (by omega)
  have HN := fun W (hW : Fr No w W) (hs : szPlan p ≤ 1048576) => toNPlan_go X p cs W (by obtain ⟨vk, rfl, h⟩ := h; exact ⟨vk, rfl, h.keep hW (fun _ h => h.elim) (fun _ _ _ h => h.keep hW (fun _ h => h.elim))⟩) hs
  have HZR := fun left W (h0 : 0 ≤ left) (h1 : left ≤ 1048576) => szRef_go ⟨rk, rn⟩ [.int .i64 rk, .string rn] left W ⟨rfl, hr⟩ h0 h1
  have HTR := fun W => toRef_go ⟨rk, rn⟩ [.int .i64 rk, .string rn] W ⟨rfl, hr⟩
  obtain ⟨vk, rfl, hk⟩ := h
  obtain ⟨A, cap, rfl, _, _⟩ := hk.form
  clear hk
  obtain ⟨wA, hwA⟩ : ∃ wA, wA = ((w.alloc (.cells #[.slice A p.keepers.length cap] 24)).alloc (.cells #[.int .i64 rk, .string rn] 26)) := ⟨_, rfl⟩
  have hfA : Fr No w wA := hwA ▸ frc
  have K0 := (hwA ▸ bxc : Bx wA w.heap.size 24 #[.slice A p.keepers.length cap]).r1
  have K1 := (hwA ▸ bxc : Bx wA (w.heap.size + 1) 26 #[.int .i64 rk, .string rn]).r2
  go_enter Tryz.func8, Tryz.ntmps8
  go_wp2_with fail
  rw [← hwA]
  replace hwA := Lib.hid hwA
  refine (HZ _ hfA).mono ?_
  rintro e w1 ⟨n1, rfl, hn1, hf1⟩
  have q1 : Fr No wA w1 := frc
  by_cases hneg : n1 < 0
  · go_wp2
    go_ret
    exact .mk rfl frc
  have hn1' := hn1.out
  go_wp2_with fail
  refine (HZR n1 w1 (by omega) (by omega)).mono ?_
  rintro e w2 ⟨n2, rfl, hn2, hf2⟩
  have q2 : Fr No wA w2 := frc
  by_cases hneg2 : n2 < 0
  · go_wp2
    go_ret
    exact .mk rfl frc
  have hsz : szPlan p ≤ 1048576 := by omega
  have HN := fun W hW => HN W hW hsz
  have HT := fun W hW => (HN W hW).mono (R' := ToPost PlanC p W) fun _ _ ⟨x, h1, h2, h3, _⟩ => ⟨x, h1, h2, h3⟩
  have HS := fun (X : Nat → Prop) v W h => s_lnklayout X p v ⟨rk, rn⟩ W h hr
  have HI := fun v W h => lnkLayout_ok p v ⟨rk, rn⟩ W h hr wk
  have hL18 := layS_len p ⟨rk, rn⟩
  generalize layS p ⟨rk, rn⟩ = L at *
  unfold SLayPost at HS
  unfold LaysPost at HI
  clear hn1 hn2 hn1' HZ HZR hf1 hf2 q1
  go_wp2_with fail
  refine wp_region_monL 5 [isV (.agg #[.slice A p.keepers.length cap]), planB p w2.heap.size, isV (.agg #[.int .i64 rk, .string rn]), isV (.agg #[.int .i64 rk, .string rn]), slF L] [false, false, false, false, false] [false, false, false, false, false] ?_ (by kernel_rfl) (by kernel_rfl) ?_ ?_ ?_ ?_
  · intro x hx hb v W h
    simp only [List.zip_cons_cons, List.zip_nil_left, List.mem_cons, List.not_mem_nil, or_false] at hx
    rcases hx with rfl | rfl | rfl | rfl | rfl <;> first | (cases hb; done) | exact atB_bk h
  · intro o ho d hd; simp only [List.take_succ_cons, List.take_zero, List.mem_cons, List.not_mem_nil, or_false] at ho; rcases ho with rfl | rfl | rfl | rfl | rfl <;> (cases hd; simp)
  · intro x hx
    simp only [List.mem_cons, List.not_mem_nil, or_false] at hx
    rcases hx with rfl | rfl | rfl | rfl | rfl
    · exact isV_mono _
    · exact planB_mono _ _
    · exact isV_mono _
    · exact isV_mono _
    · exact slF_mono _
  · intro k o ho a' W hW hoff hdep
    have q9 : Fr No wA W := q2.trans0 hW
    have hbs := hW.size
    have H2 := hoff 2 (by simp)
    have H3 := hoff 3 (by simp)
    simp only [Act.eval] at H2 H3
    simp only [List.take_succ_cons, List.take_zero] at ho hdep
    rcases k with _ | _ | _ | _ | _ | k
    all_goals (first | (simp at ho; done) | skip)
    all_goals simp only [List.getElem?_cons_zero, List.getElem?_cons_succ, Option.some.injEq] at ho
    all_goals subst ho
    · refine ⟨fun h => absurd h (by decide), fun _ => ?_⟩
      unfold opGives
      simp [execOp, Act.eval, go_sem, givesUpon, *]
      exact ⟨Fr.refl _ _, rfl⟩
    · have D23 : a'.eval (.tmp 23) = .agg #[.slice A p.keepers.length cap] := hdep ⟨0, .data⟩ (by simp) rfl _ 23 rfl rfl
      simp only [Act.eval] at D23
      refine ⟨fun h => absurd h (by decide), fun _ => ?_⟩
      unfold opGives
      simp [Act.eval, D23, go_sem, givesUpon]
      exact (HT _ (hfA.trans0 q9)).mono fun e w' h => let ⟨v, h1, h2, h3⟩ := planB_of h hbs; ⟨v, h1, h2, h3⟩
    · refine ⟨fun h => absurd h (by decide), fun _ => ?_⟩
      unfold opGives
      simp [execOp, Act.eval, go_sem, givesUpon, *]
      exact ⟨Fr.refl _ _, rfl⟩
    · have D25 : a'.eval (.tmp 25) = .agg #[.int .i64 rk, .string rn] := hdep ⟨2, .data⟩ (by simp) rfl _ 25 rfl rfl
      simp only [Act.eval] at D25
      refine ⟨fun h => absurd h (by decide), fun _ => ?_⟩
      unfold opGives
      simp [Act.eval, D25, go_sem, givesUpon]
      exact (HTR _).mono fun e w' h => ⟨_, h.1, h.2, rfl⟩
    · obtain ⟨vk, D24, hk⟩ : (planB p w2.heap.size) (a'.eval (.tmp 24)) W := hdep ⟨1, .data⟩ (by simp) rfl _ 24 rfl rfl
      have D26 : a'.eval (.tmp 26) = .agg #[.int .i64 rk, .string rn] := hdep ⟨3, .data⟩ (by simp) rfl _ 26 rfl rfl
      simp only [Act.eval] at D24 D26
      refine ⟨fun h => absurd h (by decide), fun _ => ?_⟩
      unfold opGives
      simp [Act.eval, D24, D26, go_sem, givesUpon]
      exact (HS _ _ _ hk).mono fun e w' ⟨v, h1, h2, h3⟩ => ⟨v, h1, h3, slF_of h2⟩
  intro vs W3 hW3 hv hne
  have e0 : vs 0 = _ := hv 0 (by omega)
  obtain ⟨vkR1, e1, hkR1⟩ := hv 1 (by omega)
  have e2 : vs 2 = _ := hv 2 (by omega)
  have e3 : vs 3 = _ := hv 3 (by omega)
  obtain ⟨AsR4, csR4, e4, hsR4⟩ := hv 4 (by omega)
  simp only [List.take_succ_cons, List.take_zero, List.drop_succ_cons, List.drop_zero, putsL, if_true, Nat.zero_add, Nat.reduceAdd, e0, e1, e2, e3, e4]
  simp only [Act.put, List.setIfInBounds_toArray, List.set_cons_zero, List.set_cons_succ]
  clear e0 e1 e2 e3 e4 hv
  clear hne hkR1
  have q3 : Fr No wA W3 := q2.trans0 hW3
  have hnm := lfld_names hsR4
  go_wp2_with fail
  refine (HN _ (hfA.trans0 q3)).mono ?_
  rintro e w5 ⟨cs5, rfl, ⟨vx, rfl, hx⟩, hf5, hnf⟩
  obtain ⟨Ax, cx, rfl, _, _⟩ := hx.form
  have q5 : Fr No wA w5 := q3.trans0 hf5
  obtain ⟨w6, hw6⟩ : ∃ w6, w6 = w5.alloc (.cells #[.slice Ax p.keepers.length cx] 32) := ⟨_, rfl⟩
  have hf6 : Fr No w5 w6 := hw6 ▸ (Fr.refl No w5).alloc _
  have hBx : Bx w6 w5.heap.size 32 #[.slice Ax p.keepers.length cx] := hw6 ▸ Bx.new_ rfl
  have hxN := (hx.weaken (Y := No) (fun _ h => h.elim) (fun _ _ _ h => h.weaken (fun _ h => h.elim))).keep (R' := KprC No w6) hf6 (fun _ h => h.elim) (fun _ _ _ h => h.keep hf6 (fun _ h => h.elim))
  have hxP := (hx.oldX (by decide) (fun _ _ _ h => h.oldX)).keep (R' := KprC (fun b => b < W3.heap.size ∨ w5.heap.size ≤ b) w6) hf6 (fun _ h => h.elim) (fun _ _ _ h => h.keep hf6 (fun _ h => h.elim))
  have hun : Unf W3.heap.size w5.heap.size w6 := ⟨hf6.size, fun b o h1 h2 => by rw [hf6.frozen o h2]; exact hnf.free b o h1⟩
  have q6 : Fr No wA w6 := q5.trans0 hf6
  have t6 : Fr No W3 w6 := hf5.trans0 hf6
  have KX := hBx.r1
  have lx := hBx.lt
  have s3 := q3.size
  have s5 := hf5.size
  clear hx hnf
  go_wp2_with fail
  rw [← hw6]
  clear hw6
  refine wp_region_monL 4 [isV (.agg #[.slice Ax p.keepers.length cx]), isV (.agg #[.int .i64 rk, .string rn]), isV (.agg #[.int .i64 rk, .string rn]), rwB L w6.heap.size] [false, false, false, false] [false, false, false, false] ?_ (by kernel_rfl) (by kernel_rfl) ?_ ?_ ?_ ?_
  · intro x hx hb v W h
    simp only [List.zip_cons_cons, List.zip_nil_left, List.mem_cons, List.not_mem_nil, or_false] at hx
    rcases hx with rfl | rfl | rfl | rfl <;> first | (cases hb; done) | exact atB_bk h
  · intro o ho d hd; simp only [List.take_succ_cons, List.take_zero, List.mem_cons, List.not_mem_nil, or_false] at ho; rcases ho with rfl | rfl | rfl | rfl <;> (cases hd; simp)
  · intro x hx
    simp only [List.mem_cons, List.not_mem_nil, or_false] at hx
    rcases hx with rfl | rfl | rfl | rfl
    · exact isV_mono _
    · exact isV_mono _
    · exact isV_mono _
    · exact rwB_mono _ _
  · intro k o ho a' W hW hoff hdep
    have q9 : Fr No wA W := q6.trans0 hW
    have hbs := hW.size
    have H7 := hoff 7 (by simp)
    have H3 := hoff 3 (by simp)
    simp only [Act.eval] at H7 H3
    simp only [List.take_succ_cons, List.take_zero] at ho hdep
    rcases k with _ | _ | _ | _ | k
    all_goals (first | (simp at ho; done) | skip)
    all_goals simp only [List.getElem?_cons_zero, List.getElem?_cons_succ, Option.some.injEq] at ho
    all_goals subst ho
    · refine ⟨fun h => absurd h (by decide), fun _ => ?_⟩
      unfold opGives
      simp [execOp, Act.eval, go_sem, givesUpon, *]
      exact ⟨Fr.refl _ _, rfl⟩
    · refine ⟨fun h => absurd h (by decide), fun _ => ?_⟩
      unfold opGives
      simp [execOp, Act.eval, go_sem, givesUpon, *]
      exact ⟨Fr.refl _ _, rfl⟩
    · have D31 : a'.eval (.tmp 31) = .agg #[.int .i64 rk, .string rn] := hdep ⟨1, .data⟩ (by simp) rfl _ 31 rfl rfl
      simp only [Act.eval] at D31
      refine ⟨fun h => absurd h (by decide), fun _ => ?_⟩
      unfold opGives
      simp [Act.eval, D31, go_sem, givesUpon]
      exact (HTR _).mono fun e w' h => ⟨_, h.1, h.2, rfl⟩
    · have D30 : a'.eval (.tmp 30) = .agg #[.slice Ax p.keepers.length cx] := hdep ⟨0, .data⟩ (by simp) rfl _ 30 rfl rfl
      have D32 : a'.eval (.tmp 32) = .agg #[.int .i64 rk, .string rn] := hdep ⟨2, .data⟩ (by simp) rfl _ 32 rfl rfl
      simp only [Act.eval] at D30 D32
      refine ⟨fun h => absurd h (by decide), fun _ => ?_⟩
      unfold opGives
      simp [Act.eval, D30, D32, go_sem, givesUpon]
      exact (HI _ _ (hxN.keep (R' := KprC No W) hW (fun _ h => h.elim) (fun _ _ _ h => h.keep hW (fun _ h => h.elim)))).mono fun e w' ⟨v, h1, h2, h3⟩ => ⟨v, h1, h3, (rwB_of h2).le hbs⟩
  intro vs W7 hW7 hv hne
  have e0 : vs 0 = _ := hv 0 (by omega)
  have e1 : vs 1 = _ := hv 1 (by omega)
  have e2 : vs 2 = _ := hv 2 (by omega)
  obtain ⟨AgR3, cgR3, ggR3, e3, hcgR3, hggR3, hrwR3⟩ := hv 3 (by omega)
  simp only [List.take_succ_cons, List.take_zero, List.drop_succ_cons, List.drop_zero, putsL, if_true, Nat.zero_add, Nat.reduceAdd, e0, e1, e2, e3]
  simp only [Act.put, List.setIfInBounds_toArray, List.set_cons_zero, List.set_cons_succ]
  clear e0 e1 e2 e3 hv
  clear hne
  have q7 : Fr No wA W7 := q6.trans0 hW7
  have hgl : w5.heap.size ≤ ggR3 ∧ W3.heap.size ≤ ggR3 := by omega
  go_wp2_with fail
  refine (eqLFldS_go No No _ _ L W7 (hrwR3.sl (fun h => h) hcgR3 (by unfold maxLen; omega) hnm) (hsR4.keep (R' := LFldC) (t6.trans0 hW7) (fun _ h => h.elim) (fun _ _ _ h => h))).mono ?_
  rintro e w8 ⟨rfl, hf8⟩
  have q8 : Fr No wA w8 := q7.trans0 hf8
  have p8 : Fr No w6 w8 := hW7.trans0 hf8
  have hrw8 := hrwR3.keep hf8 (fun h => h)
  clear hrwR3
  go_wp2_with fail
  refine wp_region_monL 4 [isV (.agg #[.slice Ax p.keepers.length cx]), isV (.agg #[.slice A p.keepers.length cap]), planB p w8.heap.size, isV (.bool true)] [false, false, false, false] [false, false, false, false] ?_ (by kernel_rfl) (by kernel_rfl) ?_ ?_ ?_ ?_
  · intro x hx hb v W h
    simp only [List.zip_cons_cons, List.zip_nil_left, List.mem_cons, List.not_mem_nil, or_false] at hx
    rcases hx with rfl | rfl | rfl | rfl <;> first | (cases hb; done) | exact atB_bk h
  · intro o ho d hd; simp only [List.take_succ_cons, List.take_zero, List.mem_cons, List.not_mem_nil, or_false] at ho; rcases ho with rfl | rfl | rfl | rfl <;> (cases hd; simp)
  · intro x hx
    simp only [List.mem_cons, List.not_mem_nil, or_false] at hx
    rcases hx with rfl | rfl | rfl | rfl
    · exact isV_mono _
    · exact isV_mono _
    · exact planB_mono _ _
    · exact isV_mono _
  · intro k o ho a' W hW hoff hdep
    have q9 : Fr No wA W := q8.trans0 hW
    have p9 : Fr No w6 W := p8.trans0 hW
    have hbs := hW.size
    have H7 := hoff 7 (by simp)
    have H2 := hoff 2 (by simp)
    simp only [Act.eval] at H7 H2
    simp only [List.take_succ_cons, List.take_zero] at ho hdep
    rcases k with _ | _ | _ | _ | k
    all_goals (first | (simp at ho; done) | skip)
    all_goals simp only [List.getElem?_cons_zero, List.getElem?_cons_succ, Option.some.injEq] at ho
    all_goals subst ho
    · refine ⟨fun h => absurd h (by decide), fun _ => ?_⟩
      unfold opGives
      simp [execOp, Act.eval, go_sem, givesUpon, *]
      exact ⟨Fr.refl _ _, rfl⟩
    · refine ⟨fun h => absurd h (by decide), fun _ => ?_⟩
      unfold opGives
      simp [execOp, Act.eval, go_sem, givesUpon, *]
      exact ⟨Fr.refl _ _, rfl⟩
    · have D39 : a'.eval (.tmp 39) = .agg #[.slice A p.keepers.length cap] := hdep ⟨1, .data⟩ (by simp) rfl _ 39 rfl rfl
      simp only [Act.eval] at D39
      refine ⟨fun h => absurd h (by decide), fun _ => ?_⟩
      unfold opGives
      simp [Act.eval, D39, go_sem, givesUpon]
      exact (HT _ (hfA.trans0 q9)).mono fun e w' h => let ⟨v, h1, h2, h3⟩ := planB_of h hbs; ⟨v, h1, h2, h3⟩
    · have D38 : a'.eval (.tmp 38) = .agg #[.slice Ax p.keepers.length cx] := hdep ⟨0, .data⟩ (by simp) rfl _ 38 rfl rfl
      obtain ⟨vk, D40, hk⟩ : (planB p w8.heap.size) (a'.eval (.tmp 40)) W := hdep ⟨2, .data⟩ (by simp) rfl _ 40 rfl rfl
      simp only [Act.eval] at D38 D40
      refine ⟨fun h => absurd h (by decide), fun _ => ?_⟩
      unfold opGives
      simp [Act.eval, D38, D40, go_sem, givesUpon]
      exact (eqPlan_go _ _ p _ _ W ⟨_, rfl, hxN.keep (R' := KprC No W) p9 (fun _ h => h.elim) (fun _ _ _ h => h.keep p9 (fun _ h => h.elim))⟩ ⟨_, rfl, hk⟩).mono fun e w' h => ⟨_, h.1, h.2, rfl⟩
  intro vs W9 hW9 hv hne
  have e0 : vs 0 = _ := hv 0 (by omega)
  have e1 : vs 1 = _ := hv 1 (by omega)
  obtain ⟨vkR2, e2, hkR2⟩ := hv 2 (by omega)
  have e3 : vs 3 = _ := hv 3 (by omega)
  simp only [List.take_succ_cons, List.take_zero, List.drop_succ_cons, List.drop_zero, putsL, if_true, Nat.zero_add, Nat.reduceAdd, e0, e1, e2, e3]
  simp only [Act.put, List.setIfInBounds_toArray, List.set_cons_zero, List.set_cons_succ]
  clear e0 e1 e2 e3 hv
  clear hne hkR2
  have q9 : Fr No wA W9 := q8.trans0 hW9
  have p9 : Fr No w6 W9 := p8.trans0 hW9
  have hrw9 := hrw8.keep hW9 (fun h => h)
  obtain ⟨n1, hn1, HM⟩ := markPlan_go W3.heap.size w5.heap.size p _ W9 (hxP.keep p9 (fun _ h => h.elim) (fun _ _ _ h => h.keep p9 (fun _ h => h.elim))) (hun.tw (X := No) (Tw.of0 p9)) hsz
  clear hxP hun hrw8
  go_wp2_with fail
  refine HM.mono ?_
  rintro e w10 ⟨rfl, hT⟩
  have q10 : Fr No wA w10 := q9.trans hT.fr (fun b hb h => by omega)
  have t10 : Fr No W3 w10 := (t6.trans0 p9).trans hT.fr (fun b hb h => by omega)
  have hrw10 := hrw9.keep hT.fr (by omega)
  clear HM hT hrw9 KX
  go_wp2_with fail
  refine (eqLFldS_go No No _ _ L w10 (hrw10.sl (fun h => h) hcgR3 (by unfold maxLen; omega) hnm) (hsR4.keep (R' := LFldC) t10 (fun _ h => h.elim) (fun _ _ _ h => h))).mono ?_
  rintro e w11 ⟨rfl, hf11⟩
  have hrw11 := hrw10.keep hf11 (fun h => h)
  have q11 : Fr No wA w11 := q10.trans0 hf11
  have t11 : Fr No W3 w11 := t10.trans0 hf11
  clear hrw10
  go_wp2_with fail
  refine (markLnkFieldS_go _ ggR3 0 L.length cgR3 1 w11 hcgR3 (by omega) (fun h => hrw11.at_ h) hrw11.sorts (by omega) (by omega)).mono ?_
  rintro e w12 ⟨rfl, hm⟩
  have q12 : Fr No wA w12 := q11.trans hm.tw.fr (fun b hb h => by omega)
  have t12 : Fr No W3 w12 := t11.trans hm.tw.fr (fun b hb h => by omega)
  have hrw12 := hrw11.marked hm
  clear hm hrw11
  go_wp2_with fail
  refine (heldLnkFieldS_go _ ggR3 0 L.length cgR3 1 w12 hcgR3 (by omega) (fun h => (hrw12.at_ h).1) hrw12.cells (by omega) (by omega)).mono ?_
  rintro e w13 ⟨rfl, hf13⟩
  have q13 : Fr No wA w13 := q12.trans0 hf13
  have hrw13 := hrw12.keep hf13 (fun h => h)
  clear hrw12
  go_wp2_with fail
  refine wp_region_monL 5 [isV (.agg #[.slice A p.keepers.length cap]), planB p w13.heap.size, isV (.agg #[.int .i64 rk, .string rn]), isV (.agg #[.int .i64 rk, .string rn]), slF L] [false, false, false, false, false] [false, false, false, false, false] ?_ (by kernel_rfl) (by kernel_rfl) ?_ ?_ ?_ ?_
  · intro x hx hb v W h
    simp only [List.zip_cons_cons, List.zip_nil_left, List.mem_cons, List.not_mem_nil, or_false] at hx
    rcases hx with rfl | rfl | rfl | rfl | rfl <;> first | (cases hb; done) | exact atB_bk h
  · intro o ho d hd; simp only [List.take_succ_cons, List.take_zero, List.mem_cons, List.not_mem_nil, or_false] at ho; rcases ho with rfl | rfl | rfl | rfl | rfl <;> (cases hd; simp)
  · intro x hx
    simp only [List.mem_cons, List.not_mem_nil, or_false] at hx
    rcases hx with rfl | rfl | rfl | rfl | rfl
    · exact isV_mono _
    · exact planB_mono _ _
    · exact isV_mono _
    · exact isV_mono _
    · exact slF_mono _
  · intro k o ho a' W hW hoff hdep
    have q9 : Fr No wA W := q13.trans0 hW
    have hbs := hW.size
    have H2 := hoff 2 (by simp)
    have H3 := hoff 3 (by simp)
    simp only [Act.eval] at H2 H3
    simp only [List.take_succ_cons, List.take_zero] at ho hdep
    rcases k with _ | _ | _ | _ | _ | k
    all_goals (first | (simp at ho; done) | skip)
    all_goals simp only [List.getElem?_cons_zero, List.getElem?_cons_succ, Option.some.injEq] at ho
    all_goals subst ho
    · refine ⟨fun h => absurd h (by decide), fun _ => ?_⟩
      unfold opGives
      simp [execOp, Act.eval, go_sem, givesUpon, *]
      exact ⟨Fr.refl _ _, rfl⟩
    · have D65 : a'.eval (.tmp 65) = .agg #[.slice A p.keepers.length cap] := hdep ⟨0, .data⟩ (by simp) rfl _ 65 rfl rfl
      simp only [Act.eval] at D65
      refine ⟨fun h => absurd h (by decide), fun _ => ?_⟩
      unfold opGives
      simp [Act.eval, D65, go_sem, givesUpon]
      exact (HT _ (hfA.trans0 q9)).mono fun e w' h => let ⟨v, h1, h2, h3⟩ := planB_of h hbs; ⟨v, h1, h2, h3⟩
    · refine ⟨fun h => absurd h (by decide), fun _ => ?_⟩
      unfold opGives
      simp [execOp, Act.eval, go_sem, givesUpon, *]
      exact ⟨Fr.refl _ _, rfl⟩
    · have D67 : a'.eval (.tmp 67) = .agg #[.int .i64 rk, .string rn] := hdep ⟨2, .data⟩ (by simp) rfl _ 67 rfl rfl
      simp only [Act.eval] at D67
      refine ⟨fun h => absurd h (by decide), fun _ => ?_⟩
      unfold opGives
      simp [Act.eval, D67, go_sem, givesUpon]
      exact (HTR _).mono fun e w' h => ⟨_, h.1, h.2, rfl⟩
    · obtain ⟨vk, D66, hk⟩ : (planB p w13.heap.size) (a'.eval (.tmp 66)) W := hdep ⟨1, .data⟩ (by simp) rfl _ 66 rfl rfl
      have D68 : a'.eval (.tmp 68) = .agg #[.int .i64 rk, .string rn] := hdep ⟨3, .data⟩ (by simp) rfl _ 68 rfl rfl
      simp only [Act.eval] at D66 D68
      refine ⟨fun h => absurd h (by decide), fun _ => ?_⟩
      unfold opGives
      simp [Act.eval, D66, D68, go_sem, givesUpon]
      exact (HI _ _ (hk.weaken (Y := No) (fun _ h => h.elim) (fun _ _ _ h => h.weaken (fun _ h => h.elim)))).mono fun e w' ⟨v, h1, h2, h3⟩ => ⟨v, h1, h3, slF_of ((flds_sl h2 hnm).weaken (Y := No) (fun _ h => h.elim) (fun _ _ _ h => h))⟩
  intro vs W14 hW14 hv hne
  have e0 : vs 0 = _ := hv 0 (by omega)
  obtain ⟨vkR1, e1, hkR1⟩ := hv 1 (by omega)
  have e2 : vs 2 = _ := hv 2 (by omega)
  have e3 : vs 3 = _ := hv 3 (by omega)
  obtain ⟨AzR4, czR4, e4, hzR4⟩ := hv 4 (by omega)
  simp only [List.take_succ_cons, List.take_zero, List.drop_succ_cons, List.drop_zero, putsL, if_true, Nat.zero_add, Nat.reduceAdd, e0, e1, e2, e3, e4]
  simp only [Act.put, List.setIfInBounds_toArray, List.set_cons_zero, List.set_cons_succ]
  clear e0 e1 e2 e3 e4 hv
  clear hne hkR1
  go_wp2_with fail
  refine (eqLFldS_go No No _ _ L W14 hzR4 (hsR4.keep (R' := LFldC) ((t12.trans0 hf13).trans0 hW14) (fun _ h => h.elim) (fun _ _ _ h => h))).mono ?_
  rintro e w15 ⟨rfl, hf15⟩
  have hrw15 := (hrw13.keep hW14 (fun h => h)).keep hf15 (fun h => h)
  go_wp2_with fail
  refine (heldLnkFieldS_go _ ggR3 0 L.length cgR3 1 w15 hcgR3 (by omega) (fun h => (hrw15.at_ h).1) hrw15.cells (by omega) (by omega)).mono ?_
  rintro e w16 ⟨rfl, hf16⟩
  have q16 : Fr No w w16 := hfA.trans0 (((q13.trans0 hW14).trans0 hf15).trans0 hf16)
  go_wp2
  go_ret
  exact .mk rfl q16
end Go.Proofs.YtoagehacllkchaaGreat
