/- The law's walk: the program's VmOk is the reference's, and the keepers and the run stay as they were. -/
import Derived.Test.YthdibgikjekneaaGreatVso
import Derived.Test.YthdibgikjekneaaGreatSzV
import Derived.Test.YthdibgikjekneaaGreatEqV
import Derived.Test.YthdibgikjekneaaGreatEql
import Derived.Test.YthdibgikjekneaaGreatPlb
import Derived.Test.YthdibgikjekneaaGreatTn
namespace Go.Proofs.YthdibgikjekneaaGreat
open Go.RowKit

def stV (s : St) (base : Nat) : Value → World → Prop := fun v W => ∃ cs, v = .agg cs.toArray ∧ StC (fun b => b < base) W cs s
theorem stV_mono (s : St) (base : Nat) : MonP (stV s base) := fun _ _ _ ⟨cs, h1, h2⟩ hf => ⟨cs, h1, h2.keep hf (fun _ h => h.elim)⟩
theorem stV_of {s : St} {W w' : World} {e : Ending} {base : Nat} (h : ToPost StC s W e w') (hb : base ≤ W.heap.size) : ∃ v, e = .returned v ∧ Fr No W w' ∧ stV s base v w' := by
  obtain ⟨cs, h1, h2, h3⟩ := h
  exact ⟨_, h1, h3, cs, rfl, h2.weaken (fun b hb' => Nat.lt_of_lt_of_le hb' hb)⟩

set_option maxRecDepth 100000 in
set_option maxHeartbeats 8000000 in
theorem law_vmOk (p : Plan) (s : St) (cs scs : List Value) (w : World) (h : PlanC No w cs p) (hs : StC No w scs s) (hwf : ∀ o ∈ s.heap, (Lit.int .i64 o.of_.keeper).wf = true) (hwg : ∀ f ∈ s.frames, (Lit.int .i64 f.of_.of_.keeper).wf = true) :
    Calls Tryz.prog 7 #[.agg cs.toArray, .agg scs.toArray] w (BoolFr true w) := by
  have hpk := fun W (hW : Fr No w W) => (by obtain ⟨vk, rfl, h⟩ := h; exact ⟨vk, rfl, h.keep hW (fun _ h => h.elim) (fun _ _ _ h => h.keep hW (fun _ h => h.elim))⟩ : PlanC No W cs p)
  have hsk := fun W (hW : Fr No w W) => hs.keep hW (fun _ h => h.elim)
  have HZ := fun W (hW : Fr No w W) => szPlan_go No p cs 1048576 W (hpk W hW) (by omega) (by omega)
  have HT := fun W (hW : Fr No w W) (hs : szPlan p ≤ 1048576) => toPlan_go No p cs W (hpk W hW) hs
  have HZS := fun left W (hW : Fr No w W) (h0 : 0 ≤ left) (h1 : left ≤ 1048576) => szSt_go No s scs left W (hsk W hW) h0 h1
  have HTS := fun W (hW : Fr No w W) (hz : szSt s ≤ 1048576) => toSt_go No s scs W (hsk W hW) hz
  clear hpk hsk
  obtain ⟨vf, vh, vo, rfl, hf, hh, ho⟩ := hs
  obtain ⟨Af, cf, rfl, _, _⟩ := hf.form
  obtain ⟨Ah, ch, rfl, _, _⟩ := hh.form
  obtain ⟨Ao, co, rfl, _, _⟩ := ho.form
  obtain ⟨pvk, rfl, hk⟩ := h
  obtain ⟨A, cap, rfl, _, _⟩ := hk.form
  clear hk hf hh ho
  obtain ⟨wA, hwA⟩ : ∃ wA, wA = ((w.alloc (.cells #[.slice A p.keepers.length cap] 24)).alloc (.cells #[.int .i64 s.status, .slice Af s.frames.length cf, .slice Ah s.heap.length ch, .slice Ao s.outs.length co, .int .i64 s.back.kind, .int .i64 s.back.n] 66)) := ⟨_, rfl⟩
  have hfA : Fr No w wA := hwA ▸ frc
  have K0 := (hwA ▸ bxc : Bx wA w.heap.size 24 #[.slice A p.keepers.length cap]).r1
  have K1 := (hwA ▸ bxc : Bx wA (w.heap.size + 1) 66 #[.int .i64 s.status, .slice Af s.frames.length cf, .slice Ah s.heap.length ch, .slice Ao s.outs.length co, .int .i64 s.back.kind, .int .i64 s.back.n]).r6
  go_enter Tryz.func7, Tryz.ntmps7
  go_wp2_with fail
  rw [← hwA]
  replace hwA := Lib.hid hwA
  refine (HZ _ hfA).mono ?_
  rintro e w1 ⟨n1, rfl, hn1, hf1⟩
  have q1 : Fr No wA w1 := frc
  by_cases hneg : n1 < 0
  · go_wp2
    go_ret
    exact .mk rfl frc
  have hn1' := hn1.out
  obtain ⟨x0, x1, x2, x3, x4, x5, _, xl⟩ := K1 _ q1
  go_wp2_with fail
  refine (HZS n1 w1 (hfA.trans0 q1) (by omega) (by omega)).mono ?_
  rintro e w2 ⟨n2, rfl, hn2, hf2⟩
  have q2 : Fr No wA w2 := frc
  clear x0 x1 x2 x3 x4 x5 xl
  by_cases hneg2 : n2 < 0
  · go_wp2
    go_ret
    exact .mk rfl frc
  have hn2' := hn2.out
  have hsz : szPlan p ≤ 1048576 := by omega
  have hszo : szSt s ≤ 1048576 := by omega
  have HT := fun W hW => HT W hW hsz
  have HTS := fun W hW => HTS W hW hszo
  have HS := fun (X Y : Nat → Prop) pv cs W h hs => s_vmOk X Y p pv s cs W h hs
  have HI := fun pv cs W h hs => vmOk_ok p s cs pv W h hs hwf hwg
  generalize stS p s = R at *
  clear hn1 hn2 hn1' hn2' HZ HZS hsz hszo hf1 hf2 q1 hwf hwg
  have hG : ∀ (m : Nat) W, Fr No w2 W → Fr No w2 W := fun _ _ h => h
  have hGs : ∀ W, Fr No w2 W → w2.heap.size ≤ W.heap.size := fun _ h => h.size
  have K0' := fun W (h : Fr No w2 W) => K0 W (q2.trans0 h)
  have K1' := fun W (h : Fr No w2 W) => K1 W (q2.trans0 h)
  go_wp2_with fail
  refine wp_region_allL [isV (.agg #[.slice A p.keepers.length cap]), planB p w2.heap.size, isV (.agg #[.int .i64 s.status, .slice Af s.frames.length cf, .slice Ah s.heap.length ch, .slice Ao s.outs.length co, .int .i64 s.back.kind, .int .i64 s.back.n]), stV s w2.heap.size, isV (.bool R), isV (.bool R)] [false, false, false, false, false, false] [true, true, true, true, true, true] 0 (fun _ W => Fr No w2 W) (fun _ _ => False) (by kernel_rfl) (by kernel_rfl) ?_ ?_ ?_ ?_ ?_ (by decide) ?_ ?_ ?_ ?_ ?_
  · intro o ho d hd; simp only [List.mem_cons, List.not_mem_nil, or_false] at ho; rcases ho with rfl | rfl | rfl | rfl | rfl | rfl <;> (cases hd <;> simp)
  · intro x hx
    simp only [List.mem_cons, List.not_mem_nil, or_false] at hx
    rcases hx with rfl | rfl | rfl | rfl | rfl | rfl
    · exact isV_mono _
    · exact planB_mono _ _
    · exact isV_mono _
    · exact stV_mono _ _
    · exact isV_mono _
    · exact isV_mono _
  · intro x hx v W W' h hs
    simp only [List.mem_cons, List.not_mem_nil, or_false] at hx
    rcases hx with rfl | rfl | rfl | rfl | rfl | rfl
    · exact h
    · exact hs.elim
    · exact h
    · exact hs.elim
    · exact h
    · exact h
  · exact fun _ _ _ h hf => h.trans0 hf
  · intro k o ho
    rcases k with _ | _ | _ | _ | _ | _ | k
    all_goals (first | (simp at ho; done) | skip)
    all_goals simp only [List.getElem?_cons_zero, List.getElem?_cons_succ, Option.some.injEq] at ho
    all_goals subst ho
    all_goals refine ⟨fun h => ?_, fun g b h v W hv => ?_⟩
    all_goals first | rfl | (cases h; done) | (cases h; obtain rfl : v = Value.bool _ := hv; rfl)
  · intro k hk h W; exfalso; revert h; revert hk; revert k; decide
  · exact (Fr.refl _ _).drew
  · intro k o ho hu hg a' W jc hjc hW0 hoff hdep
    have hW := hG jc _ hW0
    have hbs := hGs _ hW
    have H2 := hoff 2 (by simp)
    have H3 := hoff 3 (by simp)
    simp only [Act.eval] at H2 H3
    rcases k with _ | _ | _ | _ | _ | _ | k
    all_goals (first | (simp at ho; done) | skip)
    all_goals (first | (exact absurd hu (by decide)) | skip)
    all_goals (first | (exact absurd hg (by decide)) | skip)
    all_goals simp only [List.getElem?_cons_zero, List.getElem?_cons_succ, Option.some.injEq] at ho
    all_goals subst ho
    · unfold opGives
      simp [execOp, Act.eval, go_sem, givesUpon, *]
      exact ⟨Fr.refl _ _, rfl⟩
    · have D20 : a'.eval (.tmp 20) = .agg #[.slice A p.keepers.length cap] := hdep ⟨0, .data⟩ (by simp) rfl _ 20 rfl rfl
      simp only [Act.eval] at D20
      unfold opGives
      simp [Act.eval, D20, go_sem, givesUpon]
      exact (HT _ (hfA.trans0 (q2.trans0 hW))).mono fun e w' h => let ⟨v, h1, h2, h3⟩ := planB_of h hbs; ⟨v, h1, h2, h3⟩
    · unfold opGives
      simp [execOp, Act.eval, go_sem, givesUpon, *]
      exact ⟨Fr.refl _ _, rfl⟩
    · have D22 : a'.eval (.tmp 22) = .agg #[.int .i64 s.status, .slice Af s.frames.length cf, .slice Ah s.heap.length ch, .slice Ao s.outs.length co, .int .i64 s.back.kind, .int .i64 s.back.n] := hdep ⟨2, .data⟩ (by simp) rfl _ 22 rfl rfl
      simp only [Act.eval] at D22
      unfold opGives
      simp [Act.eval, D22, go_sem, givesUpon]
      exact (HTS _ (hfA.trans0 (q2.trans0 hW))).mono fun e w' h => let ⟨v, h1, h2, h3⟩ := stV_of h hbs; ⟨v, h1, h2, h3⟩
    · obtain ⟨vkp, D21, hk⟩ : (planB p w2.heap.size) (a'.eval (.tmp 21)) W := hdep ⟨1, .data⟩ (by simp) rfl _ 21 rfl rfl
      obtain ⟨csS, D23, hS9⟩ : (stV s w2.heap.size) (a'.eval (.tmp 23)) W := hdep ⟨3, .data⟩ (by simp) rfl _ 23 rfl rfl
      simp only [Act.eval] at D21 D23
      unfold opGives
      simp [Act.eval, D21, D23, go_sem, givesUpon]
      exact (HS _ _ _ _ _ hk hS9).mono fun e w' h => ⟨_, h.1, h.2, rfl⟩
    · have D24 : a'.eval (.tmp 24) = .bool R := hdep ⟨4, .data⟩ (by simp) rfl _ 24 rfl rfl
      simp only [Act.eval] at D24
      unfold opGives
      simp [execOp, Act.eval, D24, go_sem, givesUpon]
      exact ⟨Fr.refl _ _, rfl⟩
  · intro k o ho hu a' W jc hjc hW0 hoff hdep
    have hW := hG jc _ hW0
    have hbs := hGs _ hW
    have H2 := hoff 2 (by simp)
    have H3 := hoff 3 (by simp)
    simp only [Act.eval] at H2 H3
    rcases k with _ | _ | _ | _ | _ | _ | k
    all_goals (first | (simp at ho; done) | skip)
    all_goals (first | (exact absurd hu (by decide)) | skip)
    all_goals simp only [List.getElem?_cons_zero, List.getElem?_cons_succ, Option.some.injEq] at ho
    all_goals subst ho
    all_goals (first | done | (simp at ho; done))
  intro vs WR hWR hv
  have e0 : vs 0 = _ := hv 0 (by decide)
  obtain ⟨vkpR1, e1, hkR1⟩ := hv 1 (by decide)
  have e2 : vs 2 = _ := hv 2 (by decide)
  obtain ⟨csSR3, e3, hS9R3⟩ := hv 3 (by decide)
  have e4 : vs 4 = _ := hv 4 (by decide)
  have e5 : vs 5 = _ := hv 5 (by decide)
  simp only [putsL, if_true, Nat.zero_add, Nat.reduceAdd, e0, e1, e2, e3, e4, e5]
  simp only [Act.put, List.setIfInBounds_toArray, List.set_cons_zero, List.set_cons_succ]
  clear e0 e1 e2 e3 e4 e5 hv
  clear hkR1 hS9R3 hG hGs K0' K1'
  have q4 : Fr No wA WR := q2.trans0 hWR
  go_wp2_with fail
  refine (HT _ (hfA.trans0 q4)).mono ?_
  rintro e w5 ⟨cs5, rfl, ⟨vx, rfl, hx⟩, hf5⟩
  obtain ⟨Ax, cx, rfl, _, _⟩ := hx.form
  have q5 : Fr No wA w5 := q4.trans0 hf5
  obtain ⟨w6, hw6⟩ : ∃ w6, w6 = w5.alloc (.cells #[.slice Ax p.keepers.length cx] 32) := ⟨_, rfl⟩
  have hf6 : Fr No w5 w6 := hw6 ▸ (Fr.refl No w5).alloc _
  have hBx : Bx w6 w5.heap.size 32 #[.slice Ax p.keepers.length cx] := hw6 ▸ Bx.new_ rfl
  have hx6 := (hx.weaken (Y := No) (fun _ h => h.elim) (fun _ _ _ h => h.weaken (fun _ h => h.elim))).keep (R' := KprC No w6) hf6 (fun _ h => h.elim) (fun _ _ _ h => h.keep hf6 (fun _ h => h.elim))
  have q6 : Fr No wA w6 := q5.trans0 hf6
  obtain ⟨x0, x1, x2, x3, x4, x5, _, xl⟩ := K1 _ q6
  clear hx
  go_wp2_with fail
  rw [← hw6]
  clear hw6
  refine (HTS _ (hfA.trans0 q6)).mono ?_
  rintro e w7 ⟨csS, rfl, hS7, hf7⟩
  have q7 : Fr No wA w7 := q6.trans0 hf7
  have hSN := hS7.weaken (Y := No) (fun _ h => h.elim)
  clear hS7 x0 x1 x2 x3 x4 x5 xl
  obtain ⟨vf2, vh2, vo2, rfl, hf2, hh2, ho2⟩ := hSN
  obtain ⟨Bf, df, rfl, _, _⟩ := hf2.form
  obtain ⟨Bh, dh, rfl, _, _⟩ := hh2.form
  obtain ⟨Bo, do', rfl, _, _⟩ := ho2.form
  have hSN : StC No w7 [.int .i64 s.status, .slice Bf s.frames.length df, .slice Bh s.heap.length dh, .slice Bo s.outs.length do', .int .i64 s.back.kind, .int .i64 s.back.n] s := ⟨_, _, _, rfl, hf2, hh2, ho2⟩
  clear hf2 hh2 ho2
  have hx7 := hx6.keep (R' := KprC No w7) hf7 (fun _ h => h.elim) (fun _ _ _ h => h.keep hf7 (fun _ h => h.elim))
  have BX7 := hBx.keep hf7
  obtain ⟨w8, hw8⟩ : ∃ w8, w8 = w7.alloc (.cells #[.int .i64 s.status, .slice Bf s.frames.length df, .slice Bh s.heap.length dh, .slice Bo s.outs.length do', .int .i64 s.back.kind, .int .i64 s.back.n] 71) := ⟨_, rfl⟩
  have hf8 : Fr No w7 w8 := hw8 ▸ (Fr.refl No w7).alloc _
  have BS8 : Bx w8 w7.heap.size 71 #[.int .i64 s.status, .slice Bf s.frames.length df, .slice Bh s.heap.length dh, .slice Bo s.outs.length do', .int .i64 s.back.kind, .int .i64 s.back.n] := hw8 ▸ Bx.new_ rfl
  have q8 : Fr No wA w8 := q7.trans0 hf8
  have hx8 := hx7.keep (R' := KprC No w8) hf8 (fun _ h => h.elim) (fun _ _ _ h => h.keep hf8 (fun _ h => h.elim))
  have hS8 := hSN.keep hf8 (fun _ h => h.elim)
  have KX := (BX7.keep hf8).r1
  have KS := BS8.r6
  have a0 := BX7.c1
  have al := BX7.lt
  clear hx6 hx7 hSN BX7 BS8 hBx
  go_wp2_with fail
  rw [← hw8]
  clear hw8
  refine (HI _ _ _ hx8 hS8).mono ?_
  rintro e w9 ⟨rfl, hf9⟩
  have q9 : Fr No wA w9 := q8.trans0 hf9
  have hbb : (R != R) = false := by cases R <;> rfl
  have hx9 := hx8.keep (R' := KprC No w9) hf9 (fun _ h => h.elim) (fun _ _ _ h => h.keep hf9 (fun _ h => h.elim))
  have hS9 := hS8.keep hf9 (fun _ h => h.elim)
  have KX' := fun W (h : Fr No w9 W) => KX W (hf9.trans0 h)
  have KS' := fun W (h : Fr No w9 W) => KS W (hf9.trans0 h)
  have K0' := fun W (h : Fr No w9 W) => K0 W (q9.trans0 h)
  have hG : ∀ (m : Nat) W, Fr No w9 W → Fr No w9 W := fun _ _ h => h
  have hGs : ∀ W, Fr No w9 W → w9.heap.size ≤ W.heap.size := fun _ h => h.size
  clear hx8 hS8 a0 al KX KS
  go_wp2_with fail
  refine wp_region_allL [isV (.agg #[.slice Ax p.keepers.length cx]), isV (.agg #[.slice A p.keepers.length cap]), planB p w9.heap.size, isV (.bool true), isV (.bool false)] [false, false, false, false, false] [true, true, true, true, true] 0 (fun _ W => Fr No w9 W) (fun _ _ => False) (by kernel_rfl) (by kernel_rfl) ?_ ?_ ?_ ?_ ?_ (by decide) ?_ ?_ ?_ ?_ ?_
  · intro o ho d hd; simp only [List.mem_cons, List.not_mem_nil, or_false] at ho; rcases ho with rfl | rfl | rfl | rfl | rfl <;> (cases hd <;> simp)
  · intro x hx
    simp only [List.mem_cons, List.not_mem_nil, or_false] at hx
    rcases hx with rfl | rfl | rfl | rfl | rfl
    · exact isV_mono _
    · exact isV_mono _
    · exact planB_mono _ _
    · exact isV_mono _
    · exact isV_mono _
  · intro x hx v W W' h hs
    simp only [List.mem_cons, List.not_mem_nil, or_false] at hx
    rcases hx with rfl | rfl | rfl | rfl | rfl
    · exact h
    · exact h
    · exact hs.elim
    · exact h
    · exact h
  · exact fun _ _ _ h hf => h.trans0 hf
  · intro k o ho
    rcases k with _ | _ | _ | _ | _ | k
    all_goals (first | (simp at ho; done) | skip)
    all_goals simp only [List.getElem?_cons_zero, List.getElem?_cons_succ, Option.some.injEq] at ho
    all_goals subst ho
    all_goals refine ⟨fun h => ?_, fun g b h v W hv => ?_⟩
    all_goals first | rfl | (cases h; done) | (cases h; obtain rfl : v = Value.bool _ := hv; rfl)
  · intro k hk h W; exfalso; revert h; revert hk; revert k; decide
  · exact (Fr.refl _ _).drew
  · intro k o ho hu hg a' W jc hjc hW0 hoff hdep
    have hW := hG jc _ hW0
    have hbs := hGs _ hW
    have H7 := hoff 7 (by simp)
    have H2 := hoff 2 (by simp)
    simp only [Act.eval] at H7 H2
    rcases k with _ | _ | _ | _ | _ | k
    all_goals (first | (simp at ho; done) | skip)
    all_goals (first | (exact absurd hu (by decide)) | skip)
    all_goals (first | (exact absurd hg (by decide)) | skip)
    all_goals simp only [List.getElem?_cons_zero, List.getElem?_cons_succ, Option.some.injEq] at ho
    all_goals subst ho
    · unfold opGives
      simp [execOp, Act.eval, go_sem, givesUpon, *]
      exact ⟨Fr.refl _ _, rfl⟩
    · unfold opGives
      simp [execOp, Act.eval, go_sem, givesUpon, *]
      exact ⟨Fr.refl _ _, rfl⟩
    · have D36 : a'.eval (.tmp 36) = .agg #[.slice A p.keepers.length cap] := hdep ⟨1, .data⟩ (by simp) rfl _ 36 rfl rfl
      simp only [Act.eval] at D36
      unfold opGives
      simp [Act.eval, D36, go_sem, givesUpon]
      exact (HT _ (hfA.trans0 (q9.trans0 hW))).mono fun e w' h => let ⟨v, h1, h2, h3⟩ := planB_of h hbs; ⟨v, h1, h2, h3⟩
    · have D35 : a'.eval (.tmp 35) = .agg #[.slice Ax p.keepers.length cx] := hdep ⟨0, .data⟩ (by simp) rfl _ 35 rfl rfl
      obtain ⟨vkp, D37, hk⟩ : (planB p w9.heap.size) (a'.eval (.tmp 37)) W := hdep ⟨2, .data⟩ (by simp) rfl _ 37 rfl rfl
      simp only [Act.eval] at D35 D37
      unfold opGives
      simp [Act.eval, D35, D37, go_sem, givesUpon]
      exact (eqPlan_go _ _ p _ _ W ⟨_, rfl, hx9.keep (R' := KprC No W) hW (fun _ h => h.elim) (fun _ _ _ h => h.keep hW (fun _ h => h.elim))⟩ ⟨_, rfl, hk⟩).mono fun e w' h => ⟨_, h.1, h.2, rfl⟩
    · have D38 : a'.eval (.tmp 38) = .bool true := hdep ⟨3, .data⟩ (by simp) rfl _ 38 rfl rfl
      simp only [Act.eval] at D38
      unfold opGives
      simp [execOp, Act.eval, D38, go_sem, givesUpon]
      exact ⟨Fr.refl _ _, rfl⟩
  · intro k o ho hu a' W jc hjc hW0 hoff hdep
    have hW := hG jc _ hW0
    have hbs := hGs _ hW
    have H7 := hoff 7 (by simp)
    have H2 := hoff 2 (by simp)
    simp only [Act.eval] at H7 H2
    rcases k with _ | _ | _ | _ | _ | k
    all_goals (first | (simp at ho; done) | skip)
    all_goals (first | (exact absurd hu (by decide)) | skip)
    all_goals simp only [List.getElem?_cons_zero, List.getElem?_cons_succ, Option.some.injEq] at ho
    all_goals subst ho
    all_goals (first | done | (simp at ho; done))
  intro vs WR hWR hv
  have e0 : vs 0 = _ := hv 0 (by decide)
  have e1 : vs 1 = _ := hv 1 (by decide)
  obtain ⟨vkpR2, e2, hkR2⟩ := hv 2 (by decide)
  have e3 : vs 3 = _ := hv 3 (by decide)
  have e4 : vs 4 = _ := hv 4 (by decide)
  simp only [putsL, if_true, Nat.zero_add, Nat.reduceAdd, e0, e1, e2, e3, e4]
  simp only [Act.put, List.setIfInBounds_toArray, List.set_cons_zero, List.set_cons_succ]
  clear e0 e1 e2 e3 e4 hv
  clear hG hGs K0' KX' hkR2 hx9
  obtain ⟨w10, hw10⟩ : ∃ w10, w10 = WR := ⟨_, rfl⟩
  rw [← hw10] at hWR ⊢
  clear hw10
  have q10 : Fr No wA w10 := q9.trans0 hWR
  have hS10 := hS9.keep hWR (fun _ h => h.elim)
  have K1' := fun W (h : Fr No w10 W) => K1 W (q10.trans0 h)
  have KS'' := fun W (h : Fr No w10 W) => KS' W (hWR.trans0 h)
  have hG : ∀ (m : Nat) W, Fr No w10 W → Fr No w10 W := fun _ _ h => h
  have hGs : ∀ W, Fr No w10 W → w10.heap.size ≤ W.heap.size := fun _ h => h.size
  clear hS9 KS' hWR
  go_wp2_with fail
  refine wp_region_allL [isV (.agg #[.int .i64 s.status, .slice Bf s.frames.length df, .slice Bh s.heap.length dh, .slice Bo s.outs.length do', .int .i64 s.back.kind, .int .i64 s.back.n]), isV (.agg #[.int .i64 s.status, .slice Af s.frames.length cf, .slice Ah s.heap.length ch, .slice Ao s.outs.length co, .int .i64 s.back.kind, .int .i64 s.back.n]), stV s w10.heap.size, isV (.bool true), isV (.bool false)] [false, false, false, false, false] [true, true, true, true, true] 0 (fun _ W => Fr No w10 W) (fun _ _ => False) (by kernel_rfl) (by kernel_rfl) ?_ ?_ ?_ ?_ ?_ (by decide) ?_ ?_ ?_ ?_ ?_
  · intro o ho d hd; simp only [List.mem_cons, List.not_mem_nil, or_false] at ho; rcases ho with rfl | rfl | rfl | rfl | rfl <;> (cases hd <;> simp)
  · intro x hx
    simp only [List.mem_cons, List.not_mem_nil, or_false] at hx
    rcases hx with rfl | rfl | rfl | rfl | rfl
    · exact isV_mono _
    · exact isV_mono _
    · exact stV_mono _ _
    · exact isV_mono _
    · exact isV_mono _
  · intro x hx v W W' h hs
    simp only [List.mem_cons, List.not_mem_nil, or_false] at hx
    rcases hx with rfl | rfl | rfl | rfl | rfl
    · exact h
    · exact h
    · exact hs.elim
    · exact h
    · exact h
  · exact fun _ _ _ h hf => h.trans0 hf
  · intro k o ho
    rcases k with _ | _ | _ | _ | _ | k
    all_goals (first | (simp at ho; done) | skip)
    all_goals simp only [List.getElem?_cons_zero, List.getElem?_cons_succ, Option.some.injEq] at ho
    all_goals subst ho
    all_goals refine ⟨fun h => ?_, fun g b h v W hv => ?_⟩
    all_goals first | rfl | (cases h; done) | (cases h; obtain rfl : v = Value.bool _ := hv; rfl)
  · intro k hk h W; exfalso; revert h; revert hk; revert k; decide
  · exact (Fr.refl _ _).drew
  · intro k o ho hu hg a' W jc hjc hW0 hoff hdep
    have hW := hG jc _ hW0
    have hbs := hGs _ hW
    have H8 := hoff 8 (by simp)
    have H3 := hoff 3 (by simp)
    simp only [Act.eval] at H8 H3
    rcases k with _ | _ | _ | _ | _ | k
    all_goals (first | (simp at ho; done) | skip)
    all_goals (first | (exact absurd hu (by decide)) | skip)
    all_goals (first | (exact absurd hg (by decide)) | skip)
    all_goals simp only [List.getElem?_cons_zero, List.getElem?_cons_succ, Option.some.injEq] at ho
    all_goals subst ho
    · unfold opGives
      simp [execOp, Act.eval, go_sem, givesUpon, *]
      exact ⟨Fr.refl _ _, rfl⟩
    · unfold opGives
      simp [execOp, Act.eval, go_sem, givesUpon, *]
      exact ⟨Fr.refl _ _, rfl⟩
    · have D41 : a'.eval (.tmp 41) = .agg #[.int .i64 s.status, .slice Af s.frames.length cf, .slice Ah s.heap.length ch, .slice Ao s.outs.length co, .int .i64 s.back.kind, .int .i64 s.back.n] := hdep ⟨1, .data⟩ (by simp) rfl _ 41 rfl rfl
      simp only [Act.eval] at D41
      unfold opGives
      simp [Act.eval, D41, go_sem, givesUpon]
      exact (HTS _ (hfA.trans0 (q10.trans0 hW))).mono fun e w' h => let ⟨v, h1, h2, h3⟩ := stV_of h hbs; ⟨v, h1, h2, h3⟩
    · have D40 : a'.eval (.tmp 40) = .agg #[.int .i64 s.status, .slice Bf s.frames.length df, .slice Bh s.heap.length dh, .slice Bo s.outs.length do', .int .i64 s.back.kind, .int .i64 s.back.n] := hdep ⟨0, .data⟩ (by simp) rfl _ 40 rfl rfl
      obtain ⟨csT, D42, hT9⟩ : (stV s w10.heap.size) (a'.eval (.tmp 42)) W := hdep ⟨2, .data⟩ (by simp) rfl _ 42 rfl rfl
      simp only [Act.eval] at D40 D42
      unfold opGives
      simp [Act.eval, D40, D42, go_sem, givesUpon]
      exact (eqSt_go No _ s _ _ W (hS10.keep hW (fun _ h => h.elim)) hT9).mono fun e w' h => ⟨_, h.1, h.2, rfl⟩
    · have D43 : a'.eval (.tmp 43) = .bool true := hdep ⟨3, .data⟩ (by simp) rfl _ 43 rfl rfl
      simp only [Act.eval] at D43
      unfold opGives
      simp [execOp, Act.eval, D43, go_sem, givesUpon]
      exact ⟨Fr.refl _ _, rfl⟩
  · intro k o ho hu a' W jc hjc hW0 hoff hdep
    have hW := hG jc _ hW0
    have hbs := hGs _ hW
    have H8 := hoff 8 (by simp)
    have H3 := hoff 3 (by simp)
    simp only [Act.eval] at H8 H3
    rcases k with _ | _ | _ | _ | _ | k
    all_goals (first | (simp at ho; done) | skip)
    all_goals (first | (exact absurd hu (by decide)) | skip)
    all_goals simp only [List.getElem?_cons_zero, List.getElem?_cons_succ, Option.some.injEq] at ho
    all_goals subst ho
    all_goals (first | done | (simp at ho; done))
  intro vs WR hWR hv
  have e0 : vs 0 = _ := hv 0 (by decide)
  have e1 : vs 1 = _ := hv 1 (by decide)
  obtain ⟨csTR2, e2, hT9R2⟩ := hv 2 (by decide)
  have e3 : vs 3 = _ := hv 3 (by decide)
  have e4 : vs 4 = _ := hv 4 (by decide)
  simp only [putsL, if_true, Nat.zero_add, Nat.reduceAdd, e0, e1, e2, e3, e4]
  simp only [Act.put, List.setIfInBounds_toArray, List.set_cons_zero, List.set_cons_succ]
  clear e0 e1 e2 e3 e4 hv
  clear hG hGs K1' KS'' hT9R2 hS10
  go_wp2
  go_ret
  exact .mk rfl (hfA.trans0 (q10.trans0 hWR))
end Go.Proofs.YthdibgikjekneaaGreat
