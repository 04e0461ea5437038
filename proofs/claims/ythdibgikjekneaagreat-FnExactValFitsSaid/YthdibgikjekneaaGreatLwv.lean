/- The law's walk: the program's ValFits is the reference's, and the keepers and the things stay as they were. -/
import Derived.Test.YthdibgikjekneaaGreatVpf
import Derived.Test.YthdibgikjekneaaGreatVsl
import Derived.Test.YthdibgikjekneaaGreatSzV
import Derived.Test.YthdibgikjekneaaGreatEqV
import Derived.Test.YthdibgikjekneaaGreatEql
import Derived.Test.YthdibgikjekneaaGreatPlb
import Derived.Test.YthdibgikjekneaaGreatTn
import Derived.Test.YthdibgikjekneaaGreatToR
namespace Go.Proofs.YthdibgikjekneaaGreat
open Go.RowKit

def objsB (hs : List Obj) (base : Nat) : Value → World → Prop := fun v W => ∃ A c, v = .slice A hs.length c ∧ Sl (fun b => b < base) W 3 (ObjC (fun b => b < base) W) (.slice A hs.length c) hs
theorem objsB_mono (hs : List Obj) (base : Nat) : MonP (objsB hs base) := fun _ _ _ ⟨A, c, h1, h2⟩ hf => ⟨A, c, h1, h2.keep hf (fun _ h => h.elim) (fun _ _ _ h => h.keep hf (fun _ h => h.elim))⟩
theorem objsB_of {hs : List Obj} {W w' : World} {e : Ending} {base : Nat} (h : ToSPost 3 ObjC hs W e w') (hb : base ≤ W.heap.size) : ∃ v, e = .returned v ∧ Fr No W w' ∧ objsB hs base v w' := by
  obtain ⟨v, h1, h2, h3⟩ := h
  have h4 := h2.weaken (Y := fun b => b < base) (fun b hb' => Nat.lt_of_lt_of_le hb' hb) (fun _ _ _ h => h.weaken (Y := fun b => b < base) (fun b hb' => Nat.lt_of_lt_of_le hb' hb))
  obtain ⟨A, c, rfl, _, _⟩ := h4.form
  exact ⟨_, h1, h3, A, c, rfl, h4⟩

set_option maxRecDepth 100000 in
set_option maxHeartbeats 8000000 in
theorem law_valFits (p : Plan) (k : Int) (hs : List Obj) (v : Val) (t : Tag) (cs : List Value) (u : Value) (w : World) (h : PlanC No w cs p) (hu : Sl No w 3 (ObjC No w) u hs) (hwf : ∀ o ∈ hs, (Lit.int .i64 o.of_.keeper).wf = true) (ht : t.name.size ≤ maxLen) :
    Calls Tryz.prog 6 #[.agg cs.toArray, .int .i64 k, u, .agg #[.int .i64 v.kind, .int .i64 v.n], .agg #[.int .i64 t.kind, .string t.name]] w (BoolFr true w) := by
  obtain ⟨tk, tn⟩ := t
  obtain ⟨vk, vn⟩ := v
  dsimp only at ht ⊢
  have hpk := fun W (hW : Fr No w W) => (by obtain ⟨vk, rfl, h⟩ := h; exact ⟨vk, rfl, h.keep hW (fun _ h => h.elim) (fun _ _ _ h => h.keep hW (fun _ h => h.elim))⟩ : PlanC No W cs p)
  have hok := fun W (hW : Fr No w W) => hu.keep (R' := ObjC No W) hW (fun _ h => h.elim) (fun _ _ _ h => h.keep hW (fun _ h => h.elim))
  have HZ := fun W (hW : Fr No w W) => szPlan_go No p cs 1048576 W (hpk W hW) (by omega) (by omega)
  have HT := fun W (hW : Fr No w W) (hs : szPlan p ≤ 1048576) => toPlan_go No p cs W (hpk W hW) hs
  have HZO := fun left W (hW : Fr No w W) (h0 : 0 ≤ left) (h1 : left ≤ 1048576) => szObjS_go No u hs left W (hok W hW) h0 h1
  have HTO := fun W (hW : Fr No w W) (hz : szL szObj hs ≤ 1048576) => toObjS_go No u hs W (hok W hW) hz
  have HZT := fun left W (h0 : 0 ≤ left) (h1 : left ≤ 1048576) => szTag_go ⟨tk, tn⟩ [.int .i64 tk, .string tn] left W ⟨rfl, ht⟩ h0 h1
  have HTT := fun W => toTag_go ⟨tk, tn⟩ [.int .i64 tk, .string tn] W ⟨rfl, ht⟩
  have HTV := fun W => toVal_go ⟨vk, vn⟩ [.int .i64 vk, .int .i64 vn] W rfl
  obtain ⟨Au, cu, rfl, _, _⟩ := hu.form
  clear hpk hok hu
  obtain ⟨pvk, rfl, hk⟩ := h
  obtain ⟨A, cap, rfl, _, _⟩ := hk.form
  clear hk
  obtain ⟨wA, hwA⟩ : ∃ wA, wA = (((w.alloc (.cells #[.slice A p.keepers.length cap] 24)).alloc (.cells #[.int .i64 vk, .int .i64 vn] 49)).alloc (.cells #[.int .i64 tk, .string tn] 51)) := ⟨_, rfl⟩
  have hfA : Fr No w wA := hwA ▸ frc
  have K0 := (hwA ▸ bxc : Bx wA w.heap.size 24 #[.slice A p.keepers.length cap]).r1
  have K1 := (hwA ▸ bxc : Bx wA (w.heap.size + 1) 49 #[.int .i64 vk, .int .i64 vn]).r2
  have K2 := (hwA ▸ bxc : Bx wA (w.heap.size + 2) 51 #[.int .i64 tk, .string tn]).r2
  go_enter Tryz.func6, Tryz.ntmps6
  go_wp2_with fail
  rw [← hwA]
  replace hwA := Lib.hid hwA
  refine (HZ _ hfA).mono ?_
  rintro e w1 ⟨n1, rfl, hn1, hf1⟩
  have q1 : Fr No wA w1 := frc
  by_cases hneg : n1 < 0
  · go_wp2
    go_ret
    exact .mk rfl frc
  have hn1' := hn1.out
  go_wp2_with fail
  refine (HZO n1 w1 (hfA.trans0 q1) (by omega) (by omega)).mono ?_
  rintro e w2 ⟨n2, rfl, hn2, hf2⟩
  have q2 : Fr No wA w2 := frc
  by_cases hneg2 : n2 < 0
  · go_wp2
    go_ret
    exact .mk rfl frc
  have hn2' := hn2.out
  go_wp2_with fail
  refine (HZT n2 w2 (by omega) (by omega)).mono ?_
  rintro e w3 ⟨n3, rfl, hn3, hf3⟩
  have q3 : Fr No wA w3 := frc
  by_cases hneg3 : n3 < 0
  · go_wp2
    go_ret
    exact .mk rfl frc
  have hsz : szPlan p ≤ 1048576 := by omega
  have hszo : szL szObj hs ≤ 1048576 := by omega
  have HT := fun W hW => HT W hW hsz
  have HTO := fun W hW => HTO W hW hszo
  have HS := fun (X Y : Nat → Prop) pv u W h hh => s_valFits X Y p k pv u hs ⟨vk, vn⟩ ⟨tk, tn⟩ W h hh ht
  have HI := fun pv u W h hh => valFits_ok p k u hs ⟨vk, vn⟩ ⟨tk, tn⟩ pv W h hh hwf ht
  generalize valFitsS p k hs ⟨vk, vn⟩ ⟨tk, tn⟩ = R at *
  clear hn1 hn2 hn3 hn1' hn2' HZ HZO HZT hsz hszo hf1 hf2 hf3 q1 q2 hwf
  have hG : ∀ (m : Nat) W, Fr No w3 W → Fr No w3 W := fun _ _ h => h
  have hGs : ∀ W, Fr No w3 W → w3.heap.size ≤ W.heap.size := fun _ h => h.size
  have K0' := fun W (h : Fr No w3 W) => K0 W (q3.trans0 h)
  have K1' := fun W (h : Fr No w3 W) => K1 W (q3.trans0 h)
  have K2' := fun W (h : Fr No w3 W) => K2 W (q3.trans0 h)
  go_wp2_with fail
  refine wp_region_allL [isV (.agg #[.slice A p.keepers.length cap]), planB p w3.heap.size, isV (.int .i64 k), isV (.slice Au hs.length cu), objsB hs w3.heap.size, isV (.agg #[.int .i64 vk, .int .i64 vn]), isV (.agg #[.int .i64 vk, .int .i64 vn]), isV (.agg #[.int .i64 tk, .string tn]), isV (.agg #[.int .i64 tk, .string tn]), isV (.bool R), isV (.bool R)] [false, false, false, false, false, false, false, false, false, false, false] [true, true, true, true, true, true, true, true, true, true, true] 0 (fun _ W => Fr No w3 W) (fun _ _ => False) (by kernel_rfl) (by kernel_rfl) ?_ ?_ ?_ ?_ ?_ (by decide) ?_ ?_ ?_ ?_ ?_
  · intro o ho d hd; simp only [List.mem_cons, List.not_mem_nil, or_false] at ho; rcases ho with rfl | rfl | rfl | rfl | rfl | rfl | rfl | rfl | rfl | rfl | rfl <;> (cases hd <;> simp)
  · intro x hx
    simp only [List.mem_cons, List.not_mem_nil, or_false] at hx
    rcases hx with rfl | rfl | rfl | rfl | rfl | rfl | rfl | rfl | rfl | rfl | rfl
    · exact isV_mono _
    · exact planB_mono _ _
    · exact isV_mono _
    · exact isV_mono _
    · exact objsB_mono _ _
    · exact isV_mono _
    · exact isV_mono _
    · exact isV_mono _
    · exact isV_mono _
    · exact isV_mono _
    · exact isV_mono _
  · intro x hx v W W' h hs
    simp only [List.mem_cons, List.not_mem_nil, or_false] at hx
    rcases hx with rfl | rfl | rfl | rfl | rfl | rfl | rfl | rfl | rfl | rfl | rfl
    · exact h
    · exact hs.elim
    · exact h
    · exact h
    · exact hs.elim
    · exact h
    · exact h
    · exact h
    · exact h
    · exact h
    · exact h
  · exact fun _ _ _ h hf => h.trans0 hf
  · intro k o ho
    rcases k with _ | _ | _ | _ | _ | _ | _ | _ | _ | _ | _ | k
    all_goals (first | (simp at ho; done) | skip)
    all_goals simp only [List.getElem?_cons_zero, List.getElem?_cons_succ, Option.some.injEq] at ho
    all_goals subst ho
    all_goals refine ⟨fun h => ?_, fun g b h v W hv => ?_⟩
    all_goals first | rfl | (cases h; done) | (cases h; obtain rfl : v = Value.bool _ := hv; rfl)
  · intro k hk h W; exfalso; revert h; revert hk; revert k; decide
  · exact (Fr.refl _ _).drew
  · intro k o ho hu hg a' W jc hjc hW0 hoff hdep
    have hW := hG jc _ hW0
    have hbs := hGs _ hW
    have H5 := hoff 5 (by simp)
    have H1 := hoff 1 (by simp)
    have H2 := hoff 2 (by simp)
    have H8 := hoff 8 (by simp)
    have H9 := hoff 9 (by simp)
    simp only [Act.eval] at H5 H1 H2 H8 H9
    rcases k with _ | _ | _ | _ | _ | _ | _ | _ | _ | _ | _ | k
    all_goals (first | (simp at ho; done) | skip)
    all_goals (first | (exact absurd hu (by decide)) | skip)
    all_goals (first | (exact absurd hg (by decide)) | skip)
    all_goals simp only [List.getElem?_cons_zero, List.getElem?_cons_succ, Option.some.injEq] at ho
    all_goals subst ho
    · unfold opGives
      simp [execOp, Act.eval, go_sem, givesUpon, *]
      exact ⟨Fr.refl _ _, rfl⟩
    · have D31 : a'.eval (.tmp 31) = .agg #[.slice A p.keepers.length cap] := hdep ⟨0, .data⟩ (by simp) rfl _ 31 rfl rfl
      simp only [Act.eval] at D31
      unfold opGives
      simp [Act.eval, D31, go_sem, givesUpon]
      exact (HT _ (hfA.trans0 (q3.trans0 hW))).mono fun e w' h => let ⟨v, h1, h2, h3⟩ := planB_of h hbs; ⟨v, h1, h2, h3⟩
    · unfold opGives
      simp [execOp, Act.eval, H1, go_sem, givesUpon]
      exact ⟨Fr.refl _ _, rfl⟩
    · unfold opGives
      simp [execOp, Act.eval, H2, go_sem, givesUpon]
      exact ⟨Fr.refl _ _, rfl⟩
    · have D34 : a'.eval (.tmp 34) = .slice Au hs.length cu := hdep ⟨3, .data⟩ (by simp) rfl _ 34 rfl rfl
      simp only [Act.eval] at D34
      unfold opGives
      simp [Act.eval, D34, go_sem, givesUpon]
      exact (HTO _ (hfA.trans0 (q3.trans0 hW))).mono fun e w' h => let ⟨v, h1, h2, h3⟩ := objsB_of h hbs; ⟨v, h1, h2, h3⟩
    · unfold opGives
      simp [execOp, Act.eval, go_sem, givesUpon, *]
      exact ⟨Fr.refl _ _, rfl⟩
    · have D36 : a'.eval (.tmp 36) = .agg #[.int .i64 vk, .int .i64 vn] := hdep ⟨5, .data⟩ (by simp) rfl _ 36 rfl rfl
      simp only [Act.eval] at D36
      unfold opGives
      simp [Act.eval, D36, go_sem, givesUpon]
      exact (HTV _).mono fun e w' h => ⟨_, h.1, h.2, rfl⟩
    · unfold opGives
      simp [execOp, Act.eval, go_sem, givesUpon, *]
      exact ⟨Fr.refl _ _, rfl⟩
    · have D38 : a'.eval (.tmp 38) = .agg #[.int .i64 tk, .string tn] := hdep ⟨7, .data⟩ (by simp) rfl _ 38 rfl rfl
      simp only [Act.eval] at D38
      unfold opGives
      simp [Act.eval, D38, go_sem, givesUpon]
      exact (HTT _).mono fun e w' h => ⟨_, h.1, h.2, rfl⟩
    · obtain ⟨vkp, D32, hk⟩ : (planB p w3.heap.size) (a'.eval (.tmp 32)) W := hdep ⟨1, .data⟩ (by simp) rfl _ 32 rfl rfl
      have D33 : a'.eval (.tmp 33) = .int .i64 k := hdep ⟨2, .data⟩ (by simp) rfl _ 33 rfl rfl
      obtain ⟨Ao, co, D35, ho9⟩ : (objsB hs w3.heap.size) (a'.eval (.tmp 35)) W := hdep ⟨4, .data⟩ (by simp) rfl _ 35 rfl rfl
      have D37 : a'.eval (.tmp 37) = .agg #[.int .i64 vk, .int .i64 vn] := hdep ⟨6, .data⟩ (by simp) rfl _ 37 rfl rfl
      have D39 : a'.eval (.tmp 39) = .agg #[.int .i64 tk, .string tn] := hdep ⟨8, .data⟩ (by simp) rfl _ 39 rfl rfl
      simp only [Act.eval] at D32 D33 D35 D37 D39
      unfold opGives
      simp [Act.eval, D32, D33, D35, D37, D39, go_sem, givesUpon]
      exact (HS _ _ _ _ _ hk ho9).mono fun e w' h => ⟨_, h.1, h.2, rfl⟩
    · have D40 : a'.eval (.tmp 40) = .bool R := hdep ⟨9, .data⟩ (by simp) rfl _ 40 rfl rfl
      simp only [Act.eval] at D40
      unfold opGives
      simp [execOp, Act.eval, D40, go_sem, givesUpon]
      exact ⟨Fr.refl _ _, rfl⟩
  · intro k o ho hu a' W jc hjc hW0 hoff hdep
    have hW := hG jc _ hW0
    have hbs := hGs _ hW
    have H5 := hoff 5 (by simp)
    have H1 := hoff 1 (by simp)
    have H2 := hoff 2 (by simp)
    have H8 := hoff 8 (by simp)
    have H9 := hoff 9 (by simp)
    simp only [Act.eval] at H5 H1 H2 H8 H9
    rcases k with _ | _ | _ | _ | _ | _ | _ | _ | _ | _ | _ | k
    all_goals (first | (simp at ho; done) | skip)
    all_goals (first | (exact absurd hu (by decide)) | skip)
    all_goals simp only [List.getElem?_cons_zero, List.getElem?_cons_succ, Option.some.injEq] at ho
    all_goals subst ho
    all_goals (first | done | (simp at ho; done))
  intro vs WR hWR hv
  have e0 : vs 0 = _ := hv 0 (by decide)
  obtain ⟨vkpR1, e1, hkR1⟩ := hv 1 (by decide)
  have e2 : vs 2 = _ := hv 2 (by decide)
  have e3 : vs 3 = _ := hv 3 (by decide)
  obtain ⟨AoR4, coR4, e4, ho9R4⟩ := hv 4 (by decide)
  have e5 : vs 5 = _ := hv 5 (by decide)
  have e6 : vs 6 = _ := hv 6 (by decide)
  have e7 : vs 7 = _ := hv 7 (by decide)
  have e8 : vs 8 = _ := hv 8 (by decide)
  have e9 : vs 9 = _ := hv 9 (by decide)
  have e10 : vs 10 = _ := hv 10 (by decide)
  simp only [putsL, if_true, Nat.zero_add, Nat.reduceAdd, e0, e1, e2, e3, e4, e5, e6, e7, e8, e9, e10]
  simp only [Act.put, List.setIfInBounds_toArray, List.set_cons_zero, List.set_cons_succ]
  clear e0 e1 e2 e3 e4 e5 e6 e7 e8 e9 e10 hv
  clear hkR1 ho9R4 hG hGs K0' K1' K2'
  have q4 : Fr No wA WR := q3.trans0 hWR
  go_wp2_with fail
  refine (HT _ (hfA.trans0 q4)).mono ?_
  rintro e w5 ⟨cs5, rfl, ⟨vx, rfl, hx⟩, hf5⟩
  obtain ⟨Ax, cx, rfl, _, _⟩ := hx.form
  have q5 : Fr No wA w5 := q4.trans0 hf5
  obtain ⟨w6, hw6⟩ : ∃ w6, w6 = w5.alloc (.cells #[.slice Ax p.keepers.length cx] 32) := ⟨_, rfl⟩
  have hf6 : Fr No w5 w6 := hw6 ▸ (Fr.refl No w5).alloc _
  have hBx : Bx w6 w5.heap.size 32 #[.slice Ax p.keepers.length cx] := hw6 ▸ Bx.new_ rfl
  have hx6 := (hx.weaken (Y := No) (fun _ h => h.elim) (fun _ _ _ h => h.weaken (fun _ h => h.elim))).keep (R' := KprC No w6) hf6 (fun _ h => h.elim) (fun _ _ _ h => h.keep hf6 (fun _ h => h.elim))
  have q6 : Fr No wA w6 := q5.trans0 hf6
  clear hx
  go_wp2_with fail
  rw [← hw6]
  clear hw6
  refine (HTO _ (hfA.trans0 q6)).mono ?_
  rintro e w7 ⟨v7, rfl, hy, hf7⟩
  obtain ⟨Ay, cy, rfl, _, _⟩ := hy.form
  have q7 : Fr No wA w7 := q6.trans0 hf7
  have hx7 := hx6.keep (R' := KprC No w7) hf7 (fun _ h => h.elim) (fun _ _ _ h => h.keep hf7 (fun _ h => h.elim))
  have hy7 := hy.weaken (Y := No) (R' := ObjC No w7) (fun _ h => h.elim) (fun _ _ _ h => h.weaken (fun _ h => h.elim))
  have KX := (hBx.keep hf7).r1
  have K1' := fun W (h : Fr No w7 W) => K1 W (q7.trans0 h)
  have K2' := fun W (h : Fr No w7 W) => K2 W (q7.trans0 h)
  have hG : ∀ (m : Nat) W, Fr No w7 W → Fr No w7 W := fun _ _ h => h
  have hGs : ∀ W, Fr No w7 W → w7.heap.size ≤ W.heap.size := fun _ h => h.size
  clear hx6 hy
  go_wp2_with fail
  refine wp_region_allL [isV (.agg #[.slice Ax p.keepers.length cx]), isV (.int .i64 k), isV (.slice Ay hs.length cy), isV (.agg #[.int .i64 vk, .int .i64 vn]), isV (.agg #[.int .i64 vk, .int .i64 vn]), isV (.agg #[.int .i64 tk, .string tn]), isV (.agg #[.int .i64 tk, .string tn]), isV (.bool R), isV (.bool R)] [false, false, false, false, false, false, false, false, false] [true, true, true, true, true, true, true, true, true] 0 (fun _ W => Fr No w7 W) (fun _ _ => False) (by kernel_rfl) (by kernel_rfl) ?_ ?_ ?_ ?_ ?_ (by decide) ?_ ?_ ?_ ?_ ?_
  · intro o ho d hd; simp only [List.mem_cons, List.not_mem_nil, or_false] at ho; rcases ho with rfl | rfl | rfl | rfl | rfl | rfl | rfl | rfl | rfl <;> (cases hd <;> simp)
  · intro x hx
    simp only [List.mem_cons, List.not_mem_nil, or_false] at hx
    rcases hx with rfl | rfl | rfl | rfl | rfl | rfl | rfl | rfl | rfl
    · exact isV_mono _
    · exact isV_mono _
    · exact isV_mono _
    · exact isV_mono _
    · exact isV_mono _
    · exact isV_mono _
    · exact isV_mono _
    · exact isV_mono _
    · exact isV_mono _
  · intro x hx v W W' h hs
    simp only [List.mem_cons, List.not_mem_nil, or_false] at hx
    rcases hx with rfl | rfl | rfl | rfl | rfl | rfl | rfl | rfl | rfl
    · exact h
    · exact h
    · exact h
    · exact h
    · exact h
    · exact h
    · exact h
    · exact h
    · exact h
  · exact fun _ _ _ h hf => h.trans0 hf
  · intro k o ho
    rcases k with _ | _ | _ | _ | _ | _ | _ | _ | _ | k
    all_goals (first | (simp at ho; done) | skip)
    all_goals simp only [List.getElem?_cons_zero, List.getElem?_cons_succ, Option.some.injEq] at ho
    all_goals subst ho
    all_goals refine ⟨fun h => ?_, fun g b h v W hv => ?_⟩
    all_goals first | rfl | (cases h; done) | (cases h; obtain rfl : v = Value.bool _ := hv; rfl)
  · intro k hk h W; exfalso; revert h; revert hk; revert k; decide
  · exact (Fr.refl _ _).drew
  · intro k o ho hu hg a' W jc hjc hW0 hoff hdep
    have hW := hG jc _ hW0
    have hbs := hGs _ hW
    have H13 := hoff 13 (by simp)
    have H1 := hoff 1 (by simp)
    have H14 := hoff 14 (by simp)
    have H8 := hoff 8 (by simp)
    have H9 := hoff 9 (by simp)
    simp only [Act.eval] at H13 H1 H14 H8 H9
    rcases k with _ | _ | _ | _ | _ | _ | _ | _ | _ | k
    all_goals (first | (simp at ho; done) | skip)
    all_goals (first | (exact absurd hu (by decide)) | skip)
    all_goals (first | (exact absurd hg (by decide)) | skip)
    all_goals simp only [List.getElem?_cons_zero, List.getElem?_cons_succ, Option.some.injEq] at ho
    all_goals subst ho
    · unfold opGives
      simp [execOp, Act.eval, go_sem, givesUpon, *]
      exact ⟨Fr.refl _ _, rfl⟩
    · unfold opGives
      simp [execOp, Act.eval, H1, go_sem, givesUpon]
      exact ⟨Fr.refl _ _, rfl⟩
    · unfold opGives
      simp [execOp, Act.eval, H14, go_sem, givesUpon]
      exact ⟨Fr.refl _ _, rfl⟩
    · unfold opGives
      simp [execOp, Act.eval, go_sem, givesUpon, *]
      exact ⟨Fr.refl _ _, rfl⟩
    · have D48 : a'.eval (.tmp 48) = .agg #[.int .i64 vk, .int .i64 vn] := hdep ⟨3, .data⟩ (by simp) rfl _ 48 rfl rfl
      simp only [Act.eval] at D48
      unfold opGives
      simp [Act.eval, D48, go_sem, givesUpon]
      exact (HTV _).mono fun e w' h => ⟨_, h.1, h.2, rfl⟩
    · unfold opGives
      simp [execOp, Act.eval, go_sem, givesUpon, *]
      exact ⟨Fr.refl _ _, rfl⟩
    · have D50 : a'.eval (.tmp 50) = .agg #[.int .i64 tk, .string tn] := hdep ⟨5, .data⟩ (by simp) rfl _ 50 rfl rfl
      simp only [Act.eval] at D50
      unfold opGives
      simp [Act.eval, D50, go_sem, givesUpon]
      exact (HTT _).mono fun e w' h => ⟨_, h.1, h.2, rfl⟩
    · have D45 : a'.eval (.tmp 45) = .agg #[.slice Ax p.keepers.length cx] := hdep ⟨0, .data⟩ (by simp) rfl _ 45 rfl rfl
      have D46 : a'.eval (.tmp 46) = .int .i64 k := hdep ⟨1, .data⟩ (by simp) rfl _ 46 rfl rfl
      have D47 : a'.eval (.tmp 47) = .slice Ay hs.length cy := hdep ⟨2, .data⟩ (by simp) rfl _ 47 rfl rfl
      have D49 : a'.eval (.tmp 49) = .agg #[.int .i64 vk, .int .i64 vn] := hdep ⟨4, .data⟩ (by simp) rfl _ 49 rfl rfl
      have D51 : a'.eval (.tmp 51) = .agg #[.int .i64 tk, .string tn] := hdep ⟨6, .data⟩ (by simp) rfl _ 51 rfl rfl
      simp only [Act.eval] at D45 D46 D47 D49 D51
      unfold opGives
      simp [Act.eval, D45, D46, D47, D49, D51, go_sem, givesUpon]
      exact (HI _ _ _ (hx7.keep hW (fun _ h => h.elim) (fun _ _ _ h => h.keep hW (fun _ h => h.elim))) (hy7.keep hW (fun _ h => h.elim) (fun _ _ _ h => h.keep hW (fun _ h => h.elim)))).mono fun e w' h => ⟨_, h.1, h.2, rfl⟩
    · have D52 : a'.eval (.tmp 52) = .bool R := hdep ⟨7, .data⟩ (by simp) rfl _ 52 rfl rfl
      simp only [Act.eval] at D52
      unfold opGives
      simp [execOp, Act.eval, D52, go_sem, givesUpon]
      exact ⟨Fr.refl _ _, rfl⟩
  · intro k o ho hu a' W jc hjc hW0 hoff hdep
    have hW := hG jc _ hW0
    have hbs := hGs _ hW
    have H13 := hoff 13 (by simp)
    have H1 := hoff 1 (by simp)
    have H14 := hoff 14 (by simp)
    have H8 := hoff 8 (by simp)
    have H9 := hoff 9 (by simp)
    simp only [Act.eval] at H13 H1 H14 H8 H9
    rcases k with _ | _ | _ | _ | _ | _ | _ | _ | _ | k
    all_goals (first | (simp at ho; done) | skip)
    all_goals (first | (exact absurd hu (by decide)) | skip)
    all_goals simp only [List.getElem?_cons_zero, List.getElem?_cons_succ, Option.some.injEq] at ho
    all_goals subst ho
    all_goals (first | done | (simp at ho; done))
  intro vs WR hWR hv
  have e0 : vs 0 = _ := hv 0 (by decide)
  have e1 : vs 1 = _ := hv 1 (by decide)
  have e2 : vs 2 = _ := hv 2 (by decide)
  have e3 : vs 3 = _ := hv 3 (by decide)
  have e4 : vs 4 = _ := hv 4 (by decide)
  have e5 : vs 5 = _ := hv 5 (by decide)
  have e6 : vs 6 = _ := hv 6 (by decide)
  have e7 : vs 7 = _ := hv 7 (by decide)
  have e8 : vs 8 = _ := hv 8 (by decide)
  simp only [putsL, if_true, Nat.zero_add, Nat.reduceAdd, e0, e1, e2, e3, e4, e5, e6, e7, e8]
  simp only [Act.put, List.setIfInBounds_toArray, List.set_cons_zero, List.set_cons_succ]
  clear e0 e1 e2 e3 e4 e5 e6 e7 e8 hv
  clear hG hGs K1' K2'
  obtain ⟨W8, hW8⟩ : ∃ W8, W8 = WR := ⟨_, rfl⟩
  rw [← hW8] at hWR ⊢
  clear hW8
  have q8 : Fr No wA W8 := q7.trans0 hWR
  have hx8 := hx7.keep (R' := KprC No W8) hWR (fun _ h => h.elim) (fun _ _ _ h => h.keep hWR (fun _ h => h.elim))
  have hy8 := hy7.keep (R' := ObjC No W8) hWR (fun _ h => h.elim) (fun _ _ _ h => h.keep hWR (fun _ h => h.elim))
  have hbb : (R != R) = false := by cases R <;> rfl
  have K0' := fun W (h : Fr No W8 W) => K0 W (q8.trans0 h)
  have KX' := fun W (h : Fr No W8 W) => KX W (hWR.trans0 h)
  have hG : ∀ (m : Nat) W, Fr No W8 W → Fr No W8 W := fun _ _ h => h
  have hGs : ∀ W, Fr No W8 W → W8.heap.size ≤ W.heap.size := fun _ h => h.size
  clear hx7 hy7 hWR
  go_wp2_with fail
  refine wp_region_allL [isV (.agg #[.slice Ax p.keepers.length cx]), isV (.agg #[.slice A p.keepers.length cap]), planB p W8.heap.size, isV (.bool true), isV (.bool false)] [false, false, false, false, false] [true, true, true, true, true] 0 (fun _ W => Fr No W8 W) (fun _ _ => False) (by kernel_rfl) (by kernel_rfl) ?_ ?_ ?_ ?_ ?_ (by decide) ?_ ?_ ?_ ?_ ?_
  · intro o ho d hd; simp only [List.mem_cons, List.not_mem_nil, or_false] at ho; rcases ho with rfl | rfl | rfl | rfl | rfl <;> (cases hd <;> simp)
  · intro x hx
    simp only [List.mem_cons, List.not_mem_nil, or_false] at hx
    rcases hx with rfl | rfl | rfl | rfl | rfl
    · exact isV_mono _
    · exact isV_mono _
    · exact planB_mono _ _
    · exact isV_mono _
    · exact isV_mono _
  · intro x hx v W W' h hs
    simp only [List.mem_cons, List.not_mem_nil, or_false] at hx
    rcases hx with rfl | rfl | rfl | rfl | rfl
    · exact h
    · exact h
    · exact hs.elim
    · exact h
    · exact h
  · exact fun _ _ _ h hf => h.trans0 hf
  · intro k o ho
    rcases k with _ | _ | _ | _ | _ | k
    all_goals (first | (simp at ho; done) | skip)
    all_goals simp only [List.getElem?_cons_zero, List.getElem?_cons_succ, Option.some.injEq] at ho
    all_goals subst ho
    all_goals refine ⟨fun h => ?_, fun g b h v W hv => ?_⟩
    all_goals first | rfl | (cases h; done) | (cases h; obtain rfl : v = Value.bool _ := hv; rfl)
  · intro k hk h W; exfalso; revert h; revert hk; revert k; decide
  · exact (Fr.refl _ _).drew
  · intro k o ho hu hg a' W jc hjc hW0 hoff hdep
    have hW := hG jc _ hW0
    have hbs := hGs _ hW
    have H13 := hoff 13 (by simp)
    have H5 := hoff 5 (by simp)
    simp only [Act.eval] at H13 H5
    rcases k with _ | _ | _ | _ | _ | k
    all_goals (first | (simp at ho; done) | skip)
    all_goals (first | (exact absurd hu (by decide)) | skip)
    all_goals (first | (exact absurd hg (by decide)) | skip)
    all_goals simp only [List.getElem?_cons_zero, List.getElem?_cons_succ, Option.some.injEq] at ho
    all_goals subst ho
    · unfold opGives
      simp [execOp, Act.eval, go_sem, givesUpon, *]
      exact ⟨Fr.refl _ _, rfl⟩
    · unfold opGives
      simp [execOp, Act.eval, go_sem, givesUpon, *]
      exact ⟨Fr.refl _ _, rfl⟩
    · have D57 : a'.eval (.tmp 57) = .agg #[.slice A p.keepers.length cap] := hdep ⟨1, .data⟩ (by simp) rfl _ 57 rfl rfl
      simp only [Act.eval] at D57
      unfold opGives
      simp [Act.eval, D57, go_sem, givesUpon]
      exact (HT _ (hfA.trans0 (q8.trans0 hW))).mono fun e w' h => let ⟨v, h1, h2, h3⟩ := planB_of h hbs; ⟨v, h1, h2, h3⟩
    · have D56 : a'.eval (.tmp 56) = .agg #[.slice Ax p.keepers.length cx] := hdep ⟨0, .data⟩ (by simp) rfl _ 56 rfl rfl
      obtain ⟨vkp, D58, hk⟩ : (planB p W8.heap.size) (a'.eval (.tmp 58)) W := hdep ⟨2, .data⟩ (by simp) rfl _ 58 rfl rfl
      simp only [Act.eval] at D56 D58
      unfold opGives
      simp [Act.eval, D56, D58, go_sem, givesUpon]
      exact (eqPlan_go _ _ p _ _ W ⟨_, rfl, hx8.keep (R' := KprC No W) hW (fun _ h => h.elim) (fun _ _ _ h => h.keep hW (fun _ h => h.elim))⟩ ⟨_, rfl, hk⟩).mono fun e w' h => ⟨_, h.1, h.2, rfl⟩
    · have D59 : a'.eval (.tmp 59) = .bool true := hdep ⟨3, .data⟩ (by simp) rfl _ 59 rfl rfl
      simp only [Act.eval] at D59
      unfold opGives
      simp [execOp, Act.eval, D59, go_sem, givesUpon]
      exact ⟨Fr.refl _ _, rfl⟩
  · intro k o ho hu a' W jc hjc hW0 hoff hdep
    have hW := hG jc _ hW0
    have hbs := hGs _ hW
    have H13 := hoff 13 (by simp)
    have H5 := hoff 5 (by simp)
    simp only [Act.eval] at H13 H5
    rcases k with _ | _ | _ | _ | _ | k
    all_goals (first | (simp at ho; done) | skip)
    all_goals (first | (exact absurd hu (by decide)) | skip)
    all_goals simp only [List.getElem?_cons_zero, List.getElem?_cons_succ, Option.some.injEq] at ho
    all_goals subst ho
    all_goals (first | done | (simp at ho; done))
  intro vs WR hWR hv
  have e0 : vs 0 = _ := hv 0 (by decide)
  have e1 : vs 1 = _ := hv 1 (by decide)
  obtain ⟨vkpR2, e2, hkR2⟩ := hv 2 (by decide)
  have e3 : vs 3 = _ := hv 3 (by decide)
  have e4 : vs 4 = _ := hv 4 (by decide)
  simp only [putsL, if_true, Nat.zero_add, Nat.reduceAdd, e0, e1, e2, e3, e4]
  simp only [Act.put, List.setIfInBounds_toArray, List.set_cons_zero, List.set_cons_succ]
  clear e0 e1 e2 e3 e4 hv
  clear hG hGs K0' KX' hkR2
  have q9 : Fr No wA WR := q8.trans0 hWR
  go_wp2_with fail
  refine (HTO _ (hfA.trans0 q9)).mono ?_
  rintro e w10 ⟨v10, rfl, hz, hf10⟩
  obtain ⟨Az, cz, rfl, _, _⟩ := hz.form
  have q10 : Fr No W8 w10 := hWR.trans0 hf10
  go_wp2_with fail
  refine (eqObjS_go No (fun b => b < WR.heap.size) _ _ hs w10 (hy8.keep (R' := ObjC No w10) q10 (fun _ h => h.elim) (fun _ _ _ h => h.keep q10 (fun _ h => h.elim))) hz).mono ?_
  rintro e w11 ⟨rfl, hf11⟩
  go_wp2
  go_ret
  exact .mk rfl (((hfA.trans0 q9).trans0 hf10).trans0 hf11)
end Go.Proofs.YthdibgikjekneaaGreat
