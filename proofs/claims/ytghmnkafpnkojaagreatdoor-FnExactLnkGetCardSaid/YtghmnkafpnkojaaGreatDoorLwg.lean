/- The law's walk: the program's LnkGet is the reference's, and the keepers stay as they were. -/
import Derived.Test.YtghmnkafpnkojaaGreatDoorGet
import Derived.Test.YtghmnkafpnkojaaGreatDoorSgt
import Derived.Test.YtghmnkafpnkojaaGreatDoorLwb
namespace Go.Proofs.YtghmnkafpnkojaaGreatDoor
open Go.RowKit

set_option maxHeartbeats 2000000 in
theorem eqKndV_go (k : Int) (s : Str) (w : World) :
    Calls Tryz.prog 27 #[.agg #[.int .i64 k, .string s], .agg #[.int .i64 k, .string s]] w (BoolFr true w) := by
  go_enter Tryz.func27, Tryz.ntmps27
  go_wp2
  go_ret
  exact .mk rfl frc
set_option maxHeartbeats 2000000 in
theorem eqLnkField_go (k i d : Int) (s u : Str) (w : World) :
    Calls Tryz.prog 13 #[.agg #[.int .i64 k, .string s, .int .i64 i, .int .i64 d, .string u], .agg #[.int .i64 k, .string s, .int .i64 i, .int .i64 d, .string u]] w (BoolFr true w) := by
  obtain ⟨wA, hwA⟩ : ∃ wA, wA = ((w.alloc (.cells #[.int .i64 k, .string s, .int .i64 i, .int .i64 d, .string u] 42)).alloc (.cells #[.int .i64 k, .string s, .int .i64 i, .int .i64 d, .string u] 42)) := ⟨_, rfl⟩
  have hfA : Fr No w wA := hwA ▸ frc
  have K0 := (hwA ▸ bxc : Bx wA w.heap.size 42 #[.int .i64 k, .string s, .int .i64 i, .int .i64 d, .string u]).r5
  have K1 := (hwA ▸ bxc : Bx wA (w.heap.size + 1) 42 #[.int .i64 k, .string s, .int .i64 i, .int .i64 d, .string u]).r5
  go_enter Tryz.func13, Tryz.ntmps13
  go_wp2_with fail
  rw [← hwA]
  clear hwA
  refine (eqRefV_go k s wA).mono ?_
  rintro e w1 ⟨rfl, hf1⟩
  go_wp2_with (go_at_call 27; refine (eqKndV_go d u _).mono ?_; rintro e w2 ⟨rfl, hf2⟩)
  go_ret
  exact .mk rfl frc

set_option maxRecDepth 100000 in
set_option maxHeartbeats 4000000 in
theorem law_get (X : Nat → Prop) (p : Plan) (k : Int) (s m : Str) (cs : List Value) (w : World) (h : PlanC X w cs p) (hs : s.size ≤ maxLen) (hm : m.size ≤ maxLen) (hg : ErrT w) :
    Calls Tryz.prog 4 #[.agg cs.toArray, .int .i64 k, .string s, .string m] w (BoolFr true w) := by
  have hsm := hs
  have hmm := hm
  unfold maxLen at hsm hmm
  have HZ := fun W (hW : Fr No w W) => szPlan_go X p cs 1048576 W (by obtain ⟨vk, rfl, h⟩ := h; exact ⟨vk, rfl, h.keep hW (fun _ h => h.elim) (fun _ _ _ h => h.keep hW (fun _ h => h.elim))⟩) (by omega) (by omega)
  have HT := fun W (hW : Fr No w W) (hs : szPlan p ≤ 1048576) => toPlan_go X p cs W (by obtain ⟨vk, rfl, h⟩ := h; exact ⟨vk, rfl, h.keep hW (fun _ h => h.elim) (fun _ _ _ h => h.keep hW (fun _ h => h.elim))⟩) hs
  obtain ⟨vk, rfl, hk⟩ := h
  obtain ⟨A, cap, rfl, _, _⟩ := hk.form
  clear hk
  obtain ⟨wA, hwA⟩ : ∃ wA, wA = (w.alloc (.cells #[.slice A p.keepers.length cap] 24)) := ⟨_, rfl⟩
  have hfA : Fr No w wA := hwA ▸ frc
  have K0 := (hwA ▸ bxc : Bx wA w.heap.size 24 #[.slice A p.keepers.length cap]).r1
  by_cases hsl : (s.size : Int) > 1048576
  · go_enter Tryz.func4, Tryz.ntmps4
    go_wp2
    go_ret
    exact .mk rfl frc
  by_cases hml : (m.size : Int) > 1048576
  · go_enter Tryz.func4, Tryz.ntmps4
    go_wp2
    go_ret
    exact .mk rfl frc
  go_enter Tryz.func4, Tryz.ntmps4
  go_wp2_with fail
  rw [← hwA]
  replace hwA := Lib.hid hwA
  refine (HZ _ hfA).mono ?_
  rintro e w1 ⟨n1, rfl, hn1, hf1⟩
  have q1 : Fr No wA w1 := frc
  by_cases hneg : n1 < 0
  · go_wp2
    go_ret
    exact .mk rfl frc
  have hn1' := hn1.out
  have hsz : szPlan p ≤ 1048576 := by omega
  have HT := fun W hW => HT W hW hsz
  clear hn1 hn1' HZ hsz
  obtain ⟨V, hV⟩ : ∃ V, V = getS p k s m := ⟨_, rfl⟩
  have HS := fun (X : Nat → Prop) v W h => s_lnkget X p v k s m W h hs hm
  have HI := fun v W h hg => lnkGet_ok p v k s m W h hs hm hg
  rw [← hV] at HS HI
  clear hV
  obtain ⟨⟨⟨uk, un⟩, ui, ⟨ud, us⟩⟩, uc⟩ := V
  unfold getV lfV at HS HI
  dsimp only at HS HI
  have hcc : (uc != uc) = false := by simp
  go_wp2_with fail
  refine (HT _ (hfA.trans0 q1)).mono ?_
  rintro e w2 ⟨cs2, rfl, ⟨v2, rfl, h2⟩, hf2⟩
  obtain ⟨A2, c2, rfl, _, _⟩ := h2.form
  have q2 : Fr No wA w2 := q1.trans0 hf2
  clear q1 hf1
  go_wp2_with fail
  refine (HS _ _ w2 h2).mono ?_
  rintro e w3 ⟨rfl, hf3⟩
  have q3 : Fr No wA w3 := q2.trans0 hf3
  clear q2 h2 hf2 hf3
  go_wp2_with fail
  refine calls_world (fun W => Bx W w3.heap.size 42 #[.int .i64 uk, .string un, .int .i64 ui, .int .i64 ud, .string us] ∧ Fr No wA W) ⟨bxc, frc⟩ ?_
  rintro W3 ⟨hR, q4⟩
  clear q3
  refine (HT _ (hfA.trans0 q4)).mono ?_
  rintro e w5 ⟨cs5, rfl, ⟨vx, rfl, hx⟩, hf5⟩
  obtain ⟨Ax, cx, rfl, _, _⟩ := hx.form
  have q5 : Fr No wA w5 := q4.trans0 hf5
  replace hR := hR.keep hf5
  have lR := hR.lt
  clear q4
  go_wp2_with fail
  refine calls_world (fun W => Bx W w3.heap.size 42 #[.int .i64 uk, .string un, .int .i64 ui, .int .i64 ud, .string us] ∧ Bx W w5.heap.size 34 #[.slice Ax p.keepers.length cx] ∧ Fr No w5 W) ⟨bxc, bxc, frc⟩ ?_
  rintro W5 ⟨hR6, hB, r6⟩
  have hx6 := (hx.weaken (Y := No) (fun _ h => h.elim) (fun _ _ _ h => h.weaken (fun _ h => h.elim))).keep (R' := KprC No W5) r6 (fun _ h => h.elim) (fun _ _ _ h => h.keep r6 (fun _ h => h.elim))
  have q6 : Fr No wA W5 := q5.trans0 r6
  clear hx hf5 hR q5 lR r6
  refine (HI _ W5 hx6 ((hfA.trans0 q6).keep0 hg)).mono ?_
  rintro e w7 ⟨rfl, hf7⟩
  have q7 : Fr No wA w7 := q6.trans0 hf7
  replace hx6 := hx6.keep (R' := KprC No w7) hf7 (fun _ h => h.elim) (fun _ _ _ h => h.keep hf7 (fun _ h => h.elim))
  replace hR6 := hR6.keep hf7
  replace hB := hB.keep hf7
  have lR := hR6.lt
  have lB := hB.lt
  obtain ⟨y0, y1, y2, y3, y4⟩ := hR6.c5
  clear hf7 q6
  go_wp2_with fail
  refine calls_world (fun W => Bx W w5.heap.size 34 #[.slice Ax p.keepers.length cx] ∧ Fr No w7 W) ⟨bxc, frc⟩ ?_
  rintro W8 ⟨hB8, r8⟩
  have q8 : Fr No wA W8 := q7.trans0 r8
  replace hx6 := hx6.keep (R' := KprC No W8) r8 (fun _ h => h.elim) (fun _ _ _ h => h.keep r8 (fun _ h => h.elim))
  clear y0 y1 y2 lR lB hR6 hB q7 r8
  refine (eqLnkField_go uk ui ud un us _).mono ?_
  rintro e w8 ⟨rfl, hf8⟩
  have q9 : Fr No wA w8 := q8.trans0 hf8
  replace hx6 := hx6.keep (R' := KprC No w8) hf8 (fun _ h => h.elim) (fun _ _ _ h => h.keep hf8 (fun _ h => h.elim))
  replace hB8 := hB8.keep hf8
  have KX := hB8.r1
  replace K0 := fun W (h : Fr No w8 W) => K0 W (q9.trans0 h)
  clear hf8 q8
  go_wp2_with fail
  refine wp_region_monL 4 [isV (.agg #[.slice Ax p.keepers.length cx]), isV (.agg #[.slice A p.keepers.length cap]), planB p w8.heap.size, isV (.bool true)] [false, false, false, false] [false, false, false, false] ?_ (by kernel_rfl) (by kernel_rfl) ?_ ?_ ?_ ?_
  · intro x hx hb v W h
    simp only [List.zip_cons_cons, List.zip_nil_left, List.mem_cons, List.not_mem_nil, or_false] at hx
    rcases hx with rfl | rfl | rfl | rfl <;> first | (cases hb; done) | exact atB_bk h
  · intro o ho d hd; simp only [List.take_succ_cons, List.take_zero, List.mem_cons, List.not_mem_nil, or_false] at ho; rcases ho with rfl | rfl | rfl | rfl <;> (cases hd; simp)
  · intro x hx
    simp only [List.mem_cons, List.not_mem_nil, or_false] at hx
    rcases hx with rfl | rfl | rfl | rfl
    · exact isV_mono _
    · exact isV_mono _
    · exact planB_mono _ _
    · exact isV_mono _
  · intro k o ho a' W hW hoff hdep
    have hbs := hW.size
    have H12 := hoff 12 (by simp)
    have H4 := hoff 4 (by simp)
    simp only [Act.eval] at H12 H4
    simp only [List.take_succ_cons, List.take_zero] at ho hdep
    rcases k with _ | _ | _ | _ | k
    all_goals (first | (simp at ho; done) | skip)
    all_goals simp only [List.getElem?_cons_zero, List.getElem?_cons_succ, Option.some.injEq] at ho
    all_goals subst ho
    · refine ⟨fun h => absurd h (by decide), fun _ => ?_⟩
      unfold opGives
      simp [execOp, Act.eval, go_sem, givesUpon, *]
      exact ⟨Fr.refl _ _, rfl⟩
    · refine ⟨fun h => absurd h (by decide), fun _ => ?_⟩
      unfold opGives
      simp [execOp, Act.eval, go_sem, givesUpon, *]
      exact ⟨Fr.refl _ _, rfl⟩
    · have D55 : a'.eval (.tmp 55) = .agg #[.slice A p.keepers.length cap] := hdep ⟨1, .data⟩ (by simp) rfl _ 55 rfl rfl
      simp only [Act.eval] at D55
      refine ⟨fun h => absurd h (by decide), fun _ => ?_⟩
      unfold opGives
      simp [Act.eval, D55, go_sem, givesUpon]
      exact (HT _ (hfA.trans0 (q9.trans0 hW))).mono fun e w' h => let ⟨v, h1, h2, h3⟩ := planB_of h hbs; ⟨v, h1, h2, h3⟩
    · have D54 : a'.eval (.tmp 54) = .agg #[.slice Ax p.keepers.length cx] := hdep ⟨0, .data⟩ (by simp) rfl _ 54 rfl rfl
      obtain ⟨vk, D56, hk⟩ : (planB p w8.heap.size) (a'.eval (.tmp 56)) W := hdep ⟨2, .data⟩ (by simp) rfl _ 56 rfl rfl
      simp only [Act.eval] at D54 D56
      refine ⟨fun h => absurd h (by decide), fun _ => ?_⟩
      unfold opGives
      simp [Act.eval, D54, D56, go_sem, givesUpon]
      exact (eqPlan_go _ _ p _ _ W ⟨_, rfl, hx6.keep (R' := KprC No W) hW (fun _ h => h.elim) (fun _ _ _ h => h.keep hW (fun _ h => h.elim))⟩ ⟨_, rfl, hk⟩).mono fun e w' h => ⟨_, h.1, h.2, rfl⟩
  intro vs WR hWR hv hne
  have e0 : vs 0 = _ := hv 0 (by omega)
  have e1 : vs 1 = _ := hv 1 (by omega)
  obtain ⟨vkR2, e2, hkR2⟩ := hv 2 (by omega)
  have e3 : vs 3 = _ := hv 3 (by omega)
  simp only [List.take_succ_cons, List.take_zero, List.drop_succ_cons, List.drop_zero, putsL, if_true, Nat.zero_add, Nat.reduceAdd, e0, e1, e2, e3]
  simp only [Act.put, List.setIfInBounds_toArray, List.set_cons_zero, List.set_cons_succ]
  clear e0 e1 e2 e3 hv
  go_wp2
  go_ret
  exact .mk rfl frc
end Go.Proofs.YtghmnkafpnkojaaGreatDoor
