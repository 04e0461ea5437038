/- The law's walk: the program's LnkPick is the reference's, and the keepers stay as they were. -/
import Derived.Test.YtghmnkafpnkojaaGreatPck
import Derived.Test.YtghmnkafpnkojaaGreatSlj
import Derived.Test.YtghmnkafpnkojaaGreatEqL
import Derived.Test.YtghmnkafpnkojaaGreatToL
namespace Go.Proofs.YtghmnkafpnkojaaGreat
open Go.RowKit

set_option maxHeartbeats 2000000 in
theorem eqRefV_go (k : Int) (s : Str) (w : World) :
    Calls Tryz.prog 27 #[.agg #[.int .i64 k, .string s], .agg #[.int .i64 k, .string s]] w (BoolFr true w) := by
  go_enter Tryz.func27, Tryz.ntmps27
  go_wp2
  go_ret
  exact .mk rfl frc
set_option maxHeartbeats 2000000 in
theorem eqLnkMethod_go (k i : Int) (s : Str) (w : World) :
    Calls Tryz.prog 11 #[.agg #[.int .i64 k, .string s, .int .i64 i], .agg #[.int .i64 k, .string s, .int .i64 i]] w (BoolFr true w) := by
  obtain ⟨wA, hwA⟩ : ∃ wA, wA = ((w.alloc (.cells #[.int .i64 k, .string s, .int .i64 i] 31)).alloc (.cells #[.int .i64 k, .string s, .int .i64 i] 31)) := ⟨_, rfl⟩
  have hfA : Fr No w wA := hwA ▸ frc
  have K0 := (hwA ▸ bxc : Bx wA w.heap.size 31 #[.int .i64 k, .string s, .int .i64 i]).r3
  have K1 := (hwA ▸ bxc : Bx wA (w.heap.size + 1) 31 #[.int .i64 k, .string s, .int .i64 i]).r3
  go_enter Tryz.func11, Tryz.ntmps11
  go_wp2_with fail
  rw [← hwA]
  clear hwA
  refine (eqRefV_go k s wA).mono ?_
  rintro e w1 ⟨rfl, hf1⟩
  go_wp2
  go_ret
  exact .mk rfl frc
theorem Bx.fill3 {w : World} {g : Nat} {t : TypeId} {x0 x1 x2 c0 c1 c2 : Value} (h : Bx w g t #[x0, x1, x2]) :
    Bx (((w.setCell ⟨g, 0, none⟩ c0).setCell ⟨g, 1, none⟩ c1).setCell ⟨g, 2, none⟩ c2) g t #[c0, c1, c2] := ((h.set_ 0 c0).set_ 1 c1).set_ 2 c2
/-- Keepers in new memory. -/
def planB (p : Plan) (base : Nat) : Value → World → Prop := fun v W => ∃ vk, v = .agg #[vk] ∧ Sl (fun b => b < base) W 2 (KprC (fun b => b < base) W) vk p.keepers
theorem planB_mono (p : Plan) (base : Nat) : MonP (planB p base) := fun _ _ _ ⟨vk, h1, h2⟩ hf => ⟨vk, h1, h2.keep hf (fun _ h => h.elim) (fun _ _ _ h => h.keep hf (fun _ h => h.elim))⟩
theorem planB_of {p : Plan} {W w' : World} {e : Ending} {base : Nat} (h : ToPost PlanC p W e w') (hb : base ≤ W.heap.size) : ∃ v, e = .returned v ∧ Fr No W w' ∧ planB p base v w' := by
  obtain ⟨cs, rfl, ⟨vk, rfl, h⟩, hf⟩ := h
  exact ⟨_, rfl, hf, vk, rfl, h.weaken (fun b (hb' : b < base) => Nat.lt_of_lt_of_le hb' hb) (fun _ _ _ h => h.weaken (fun b (hb' : b < base) => Nat.lt_of_lt_of_le hb' hb))⟩

set_option maxRecDepth 100000 in
set_option maxHeartbeats 4000000 in
theorem law_pick (X : Nat → Prop) (p : Plan) (r : Ref) (s : Str) (cs : List Value) (w : World) (h : PlanC X w cs p) (hr : r.name.size ≤ maxLen) (wk : (Lit.int .i64 r.keeper).wf = true) (hs : s.size ≤ maxLen) :
    Calls Tryz.prog 3 #[.agg cs.toArray, .agg #[.int .i64 r.keeper, .string r.name], .string s] w (BoolFr true w) := by
  obtain ⟨rk, rn⟩ := r
  dsimp only at hr wk ⊢
  have hsm := hs
  unfold maxLen at hsm
  have HZ := fun W (hW : Fr No w W) => szPlan_go X p cs 1048576 W (by obtain ⟨vk, rfl, h⟩ := h; exact ⟨vk, rfl, h.keep hW (fun _ h => h.elim) (fun _ _ _ h => h.keep hW (fun _ h => h.elim))⟩) (by omega) (by omega)
  have HT := fun W (hW : Fr No w W) (hs : szPlan p ≤ 1048576) => toPlan_go X p cs W (by obtain ⟨vk, rfl, h⟩ := h; exact ⟨vk, rfl, h.keep hW (fun _ h => h.elim) (fun _ _ _ h => h.keep hW (fun _ h => h.elim))⟩) hs
  have HZR := fun left W (h0 : 0 ≤ left) (h1 : left ≤ 1048576) => szRef_go ⟨rk, rn⟩ [.int .i64 rk, .string rn] left W ⟨rfl, hr⟩ h0 h1
  have HTR := fun W => toRef_go ⟨rk, rn⟩ [.int .i64 rk, .string rn] W ⟨rfl, hr⟩
  obtain ⟨vk, rfl, hk⟩ := h
  obtain ⟨A, cap, rfl, _, _⟩ := hk.form
  clear hk
  obtain ⟨wA, hwA⟩ : ∃ wA, wA = ((w.alloc (.cells #[.slice A p.keepers.length cap] 24)).alloc (.cells #[.int .i64 rk, .string rn] 26)) := ⟨_, rfl⟩
  have hfA : Fr No w wA := hwA ▸ frc
  have K0 := (hwA ▸ bxc : Bx wA w.heap.size 24 #[.slice A p.keepers.length cap]).r1
  have K1 := (hwA ▸ bxc : Bx wA (w.heap.size + 1) 26 #[.int .i64 rk, .string rn]).r2
  by_cases hsl : (s.size : Int) > 1048576
  · go_enter Tryz.func3, Tryz.ntmps3
    go_wp2
    go_ret
    exact .mk rfl frc
  go_enter Tryz.func3, Tryz.ntmps3
  go_wp2_with fail
  rw [← hwA]
  replace hwA := Lib.hid hwA
  refine (HZ _ hfA).mono ?_
  rintro e w1 ⟨n1, rfl, hn1, hf1⟩
  have q1 : Fr No wA w1 := frc
  by_cases hneg : n1 < 0
  · go_wp2
    go_ret
    exact .mk rfl frc
  have hn1' := hn1.out
  go_wp2_with fail
  refine (HZR n1 w1 (by omega) (by omega)).mono ?_
  rintro e w2 ⟨n2, rfl, hn2, hf2⟩
  have q2 : Fr No wA w2 := frc
  by_cases hneg2 : n2 < 0
  · go_wp2
    go_ret
    exact .mk rfl frc
  have hsz : szPlan p ≤ 1048576 := by omega
  have HT := fun W hW => HT W hW hsz
  clear hn1 hn2 hn1' HZ HZR hsz
  obtain ⟨u, hu, uk, un, ui, hu1⟩ : ∃ u : Value × Bool, pickV (pickS p ⟨rk, rn⟩ s) = .tuple #[u.1, .bool u.2] ∧ ∃ k nm i, u.1 = .agg #[.int .i64 k, .string nm, .int .i64 i] := by
    cases pickS p ⟨rk, rn⟩ s with
    | none => exact ⟨⟨_, false⟩, rfl, _, _, _, rfl⟩
    | some q => exact ⟨⟨_, true⟩, rfl, _, _, _, rfl⟩
  obtain ⟨u1, u2⟩ := u
  dsimp only at hu hu1
  subst hu1
  have HS := fun (X : Nat → Prop) v W h => s_pick X p v ⟨rk, rn⟩ s W h hr hs
  have HI := fun v W h => lnkPick_ok p v ⟨rk, rn⟩ s W h hr hs wk
  rw [hu] at HS HI
  replace hu := Lib.hid hu
  go_wp2_with fail
  refine wp_region_monL 10 [isV (.agg #[.slice A p.keepers.length cap]), planB p wA.heap.size, isV (.agg #[.int .i64 rk, .string rn]), isV (.agg #[.int .i64 rk, .string rn]), isV (.string s), isV (.tuple #[.agg #[.int .i64 uk, .string un, .int .i64 ui], .bool u2]), isV (.tuple #[.agg #[.int .i64 uk, .string un, .int .i64 ui], .bool u2]), isV (.agg #[.int .i64 uk, .string un, .int .i64 ui]), isV (.bool u2), atB 31 #[.int .i64 0, .string ⟨#[]⟩, .int .i64 0] wA.heap.size] [false, false, false, false, false, false, false, false, false, true] [false, false, false, false, false, false, false, false, true, false] ?_ (by kernel_rfl) (by kernel_rfl) ?_ ?_ ?_ ?_
  · intro x hx hb v W h
    simp only [List.zip_cons_cons, List.zip_nil_left, List.mem_cons, List.not_mem_nil, or_false] at hx
    rcases hx with rfl | rfl | rfl | rfl | rfl | rfl | rfl | rfl | rfl | rfl <;> first | (cases hb; done) | exact atB_bk h
  · intro o ho d hd; simp only [List.take_succ_cons, List.take_zero, List.mem_cons, List.not_mem_nil, or_false] at ho; rcases ho with rfl | rfl | rfl | rfl | rfl | rfl | rfl | rfl | rfl | rfl <;> (cases hd; simp)
  · intro x hx
    simp only [List.mem_cons, List.not_mem_nil, or_false] at hx
    rcases hx with rfl | rfl | rfl | rfl | rfl | rfl | rfl | rfl | rfl | rfl
    · exact isV_mono _
    · exact planB_mono _ _
    · exact isV_mono _
    · exact isV_mono _
    · exact isV_mono _
    · exact isV_mono _
    · exact isV_mono _
    · exact isV_mono _
    · exact isV_mono _
    · exact atB_mono _ _ _
  · intro k o ho a' W hW hoff hdep
    have q3 : Fr No wA W := q2.trans0 hW
    have hbs := q3.size
    have H3 := hoff 3 (by simp)
    have H4 := hoff 4 (by simp)
    have H2 := hoff 2 (by simp)
    simp only [Act.eval] at H3 H4 H2
    simp only [List.take_succ_cons, List.take_zero] at ho hdep
    rcases k with _ | _ | _ | _ | _ | _ | _ | _ | _ | _ | k
    all_goals (first | (simp at ho; done) | skip)
    all_goals simp only [List.getElem?_cons_zero, List.getElem?_cons_succ, Option.some.injEq] at ho
    all_goals subst ho
    · refine ⟨fun h => absurd h (by decide), fun _ => ?_⟩
      unfold opGives
      simp [execOp, Act.eval, go_sem, givesUpon, *]
      exact ⟨Fr.refl _ _, rfl⟩
    · have D27 : a'.eval (.tmp 27) = .agg #[.slice A p.keepers.length cap] := hdep ⟨0, .data⟩ (by simp) rfl _ 27 rfl rfl
      simp only [Act.eval] at D27
      refine ⟨fun h => absurd h (by decide), fun _ => ?_⟩
      unfold opGives
      simp [Act.eval, D27, go_sem, givesUpon]
      exact (HT _ (hfA.trans0 q3)).mono fun e w' h => let ⟨v, h1, h2, h3⟩ := planB_of h hbs; ⟨v, h1, h2, h3⟩
    · refine ⟨fun h => absurd h (by decide), fun _ => ?_⟩
      unfold opGives
      simp [execOp, Act.eval, go_sem, givesUpon, *]
      exact ⟨Fr.refl _ _, rfl⟩
    · have D29 : a'.eval (.tmp 29) = .agg #[.int .i64 rk, .string rn] := hdep ⟨2, .data⟩ (by simp) rfl _ 29 rfl rfl
      simp only [Act.eval] at D29
      refine ⟨fun h => absurd h (by decide), fun _ => ?_⟩
      unfold opGives
      simp [Act.eval, D29, go_sem, givesUpon]
      exact (HTR _).mono fun e w' h => ⟨_, h.1, h.2, rfl⟩
    · refine ⟨fun h => absurd h (by decide), fun _ => ?_⟩
      unfold opGives
      simp [execOp, Act.eval, H2, go_sem, givesUpon]
      exact ⟨Fr.refl _ _, rfl⟩
    · obtain ⟨vk, D28, hk⟩ : (planB p wA.heap.size) (a'.eval (.tmp 28)) W := hdep ⟨1, .data⟩ (by simp) rfl _ 28 rfl rfl
      have D30 : a'.eval (.tmp 30) = .agg #[.int .i64 rk, .string rn] := hdep ⟨3, .data⟩ (by simp) rfl _ 30 rfl rfl
      have D31 : a'.eval (.tmp 31) = .string s := hdep ⟨4, .data⟩ (by simp) rfl _ 31 rfl rfl
      simp only [Act.eval] at D28 D30 D31
      refine ⟨fun h => absurd h (by decide), fun _ => ?_⟩
      unfold opGives
      simp [Act.eval, D28, D30, D31, go_sem, givesUpon]
      exact (HS _ _ _ hk).mono fun e w' h => ⟨_, h.1, h.2, rfl⟩
    · have D32 : a'.eval (.tmp 32) = .tuple #[.agg #[.int .i64 uk, .string un, .int .i64 ui], .bool u2] := hdep ⟨5, .data⟩ (by simp) rfl _ 32 rfl rfl
      simp only [Act.eval] at D32
      refine ⟨fun h => absurd h (by decide), fun _ => ?_⟩
      unfold opGives
      simp [execOp, Act.eval, D32, go_sem, givesUpon]
      exact ⟨Fr.refl _ _, rfl⟩
    · have D26 : a'.eval (.tmp 26) = .tuple #[.agg #[.int .i64 uk, .string un, .int .i64 ui], .bool u2] := hdep ⟨6, .data⟩ (by simp) rfl _ 26 rfl rfl
      simp only [Act.eval] at D26
      refine ⟨fun h => absurd h (by decide), fun _ => ?_⟩
      unfold opGives
      simp [execOp, Act.eval, D26, go_sem, givesUpon]
      exact ⟨Fr.refl _ _, rfl⟩
    · have D26 : a'.eval (.tmp 26) = .tuple #[.agg #[.int .i64 uk, .string un, .int .i64 ui], .bool u2] := hdep ⟨6, .data⟩ (by simp) rfl _ 26 rfl rfl
      simp only [Act.eval] at D26
      refine ⟨fun _ => ⟨.bool u2, fun W => by simp [execOp, Act.eval, D26, go_sem], rfl, rfl⟩, fun h => absurd h (by decide)⟩
    · refine ⟨fun h => absurd h (by decide), fun _ => ?_⟩
      unfold opGives
      simp [execOp, go_sem, givesUpon]
      exact ⟨(Fr.refl _ _).alloc _, ⟨_, rfl, Bx.new_ rfl, hbs⟩, Nat.le_refl _⟩
  intro vs W3 hW3 hv hne
  have e0 : vs 0 = _ := hv 0 (by omega)
  obtain ⟨vkR1, e1, hkR1⟩ := hv 1 (by omega)
  have e2 : vs 2 = _ := hv 2 (by omega)
  have e3 : vs 3 = _ := hv 3 (by omega)
  have e4 : vs 4 = _ := hv 4 (by omega)
  have e5 : vs 5 = _ := hv 5 (by omega)
  have e6 : vs 6 = _ := hv 6 (by omega)
  have e7 : vs 7 = _ := hv 7 (by omega)
  have e8 : vs 8 = _ := hv 8 (by omega)
  obtain ⟨b8, e9, hb8, hl8⟩ := hv 9 (by omega)
  simp only [List.take_succ_cons, List.take_zero, List.drop_succ_cons, List.drop_zero, putsL, if_true, Nat.zero_add, Nat.reduceAdd, e0, e1, e2, e3, e4, e5, e6, e7, e8, e9]
  simp only [Act.put, List.setIfInBounds_toArray, List.set_cons_zero, List.set_cons_succ]
  clear e0 e1 e2 e3 e4 e5 e6 e7 e8 e9 hv
  clear hne
  obtain ⟨z0, z1, z2⟩ := hb8.c3
  have zf := fun j => hb8.frozen j
  have zl := hb8.lt
  have q3 : Fr No wA W3 := q2.trans0 hW3
  have l1 := (K1 wA (Fr.refl _ _)).2.2.2
  have m1 : ¬ w.heap.size = b8 := by omega
  have m2 : ¬ b8 = w.heap.size := by omega
  have m3 : ¬ w.heap.size + 1 = b8 := by omega
  have m4 : ¬ b8 = w.heap.size + 1 := by omega
  go_wp2_with fail
  have C8 := (Bx.fill3 hb8 : Bx (((W3.setCell ⟨b8, 0, none⟩ (.int .i64 uk)).setCell ⟨b8, 1, none⟩ (.string un)).setCell ⟨b8, 2, none⟩ (.int .i64 ui)) b8 31 #[.int .i64 uk, .string un, .int .i64 ui])
  have qs : Fr No wA (((W3.setCell ⟨b8, 0, none⟩ (.int .i64 uk)).setCell ⟨b8, 1, none⟩ (.string un)).setCell ⟨b8, 2, none⟩ (.int .i64 ui)) := frc
  obtain ⟨W4, hW4⟩ : ∃ W4, W4 = (((W3.setCell ⟨b8, 0, none⟩ (.int .i64 uk)).setCell ⟨b8, 1, none⟩ (.string un)).setCell ⟨b8, 2, none⟩ (.int .i64 ui)) := ⟨_, rfl⟩
  rw [← hW4] at qs C8 ⊢
  clear hW4 z0 z1 z2 zf zl hb8 hW3 q3
  refine (HT _ (hfA.trans0 qs)).mono ?_
  rintro e w5 ⟨cs5, rfl, ⟨vx, rfl, hx⟩, hf5⟩
  obtain ⟨Ax, cx, rfl, _, _⟩ := hx.form
  have q5 : Fr No wA w5 := frc
  have hB8 := C8.keep hf5
  have l8 := hB8.lt
  obtain ⟨w6, hw6⟩ : ∃ w6, w6 = w5.alloc (.cells #[.slice Ax p.keepers.length cx] 36) := ⟨_, rfl⟩
  have hf6 : Fr No w5 w6 := hw6 ▸ (Fr.refl No w5).alloc _
  have hBx : Bx w6 w5.heap.size 36 #[.slice Ax p.keepers.length cx] := hw6 ▸ Bx.new_ rfl
  have hx6 := (hx.weaken (Y := No) (fun _ h => h.elim) (fun _ _ _ h => h.weaken (fun _ h => h.elim))).keep (R' := KprC No w6) hf6 (fun _ h => h.elim) (fun _ _ _ h => h.keep hf6 (fun _ h => h.elim))
  have q6 : Fr No wA w6 := q5.trans0 hf6
  replace hB8 := hB8.keep hf6
  have K8 := hB8.r3
  have KX := hBx.r1
  have lx := hBx.lt
  clear hx C8
  go_wp2_with fail
  rw [← hw6]
  clear hw6
  refine wp_region_monL 9 [isV (.agg #[.slice Ax p.keepers.length cx]), isV (.agg #[.int .i64 rk, .string rn]), isV (.agg #[.int .i64 rk, .string rn]), isV (.string s), isV (.tuple #[.agg #[.int .i64 uk, .string un, .int .i64 ui], .bool u2]), isV (.tuple #[.agg #[.int .i64 uk, .string un, .int .i64 ui], .bool u2]), isV (.agg #[.int .i64 uk, .string un, .int .i64 ui]), isV (.bool u2), atB 31 #[.int .i64 0, .string ⟨#[]⟩, .int .i64 0] w6.heap.size] [false, false, false, false, false, false, false, false, true] [false, false, false, false, false, false, false, true, false] ?_ (by kernel_rfl) (by kernel_rfl) ?_ ?_ ?_ ?_
  · intro x hx hb v W h
    simp only [List.zip_cons_cons, List.zip_nil_left, List.mem_cons, List.not_mem_nil, or_false] at hx
    rcases hx with rfl | rfl | rfl | rfl | rfl | rfl | rfl | rfl | rfl <;> first | (cases hb; done) | exact atB_bk h
  · intro o ho d hd; simp only [List.take_succ_cons, List.take_zero, List.mem_cons, List.not_mem_nil, or_false] at ho; rcases ho with rfl | rfl | rfl | rfl | rfl | rfl | rfl | rfl | rfl <;> (cases hd; simp)
  · intro x hx
    simp only [List.mem_cons, List.not_mem_nil, or_false] at hx
    rcases hx with rfl | rfl | rfl | rfl | rfl | rfl | rfl | rfl | rfl
    · exact isV_mono _
    · exact isV_mono _
    · exact isV_mono _
    · exact isV_mono _
    · exact isV_mono _
    · exact isV_mono _
    · exact isV_mono _
    · exact isV_mono _
    · exact atB_mono _ _ _
  · intro k o ho a' W hW hoff hdep
    have hbs := hW.size
    have q9 : Fr No wA W := q6.trans0 hW
    have H10 := hoff 10 (by simp)
    have H4 := hoff 4 (by simp)
    have H2 := hoff 2 (by simp)
    simp only [Act.eval] at H10 H4 H2
    simp only [List.take_succ_cons, List.take_zero] at ho hdep
    rcases k with _ | _ | _ | _ | _ | _ | _ | _ | _ | k
    all_goals (first | (simp at ho; done) | skip)
    all_goals simp only [List.getElem?_cons_zero, List.getElem?_cons_succ, Option.some.injEq] at ho
    all_goals subst ho
    · refine ⟨fun h => absurd h (by decide), fun _ => ?_⟩
      unfold opGives
      simp [execOp, Act.eval, go_sem, givesUpon, *]
      exact ⟨Fr.refl _ _, rfl⟩
    · refine ⟨fun h => absurd h (by decide), fun _ => ?_⟩
      unfold opGives
      simp [execOp, Act.eval, go_sem, givesUpon, *]
      exact ⟨Fr.refl _ _, rfl⟩
    · have D39 : a'.eval (.tmp 39) = .agg #[.int .i64 rk, .string rn] := hdep ⟨1, .data⟩ (by simp) rfl _ 39 rfl rfl
      simp only [Act.eval] at D39
      refine ⟨fun h => absurd h (by decide), fun _ => ?_⟩
      unfold opGives
      simp [Act.eval, D39, go_sem, givesUpon]
      exact (HTR _).mono fun e w' h => ⟨_, h.1, h.2, rfl⟩
    · refine ⟨fun h => absurd h (by decide), fun _ => ?_⟩
      unfold opGives
      simp [execOp, Act.eval, H2, go_sem, givesUpon]
      exact ⟨Fr.refl _ _, rfl⟩
    · have D38 : a'.eval (.tmp 38) = .agg #[.slice Ax p.keepers.length cx] := hdep ⟨0, .data⟩ (by simp) rfl _ 38 rfl rfl
      have D40 : a'.eval (.tmp 40) = .agg #[.int .i64 rk, .string rn] := hdep ⟨2, .data⟩ (by simp) rfl _ 40 rfl rfl
      have D41 : a'.eval (.tmp 41) = .string s := hdep ⟨3, .data⟩ (by simp) rfl _ 41 rfl rfl
      simp only [Act.eval] at D38 D40 D41
      refine ⟨fun h => absurd h (by decide), fun _ => ?_⟩
      unfold opGives
      simp [Act.eval, D38, D40, D41, go_sem, givesUpon]
      exact (HI _ _ (hx6.keep hW (fun _ h => h.elim) (fun _ _ _ h => h.keep hW (fun _ h => h.elim)))).mono fun e w' h => ⟨_, h.1, h.2, rfl⟩
    · have D42 : a'.eval (.tmp 42) = .tuple #[.agg #[.int .i64 uk, .string un, .int .i64 ui], .bool u2] := hdep ⟨4, .data⟩ (by simp) rfl _ 42 rfl rfl
      simp only [Act.eval] at D42
      refine ⟨fun h => absurd h (by decide), fun _ => ?_⟩
      unfold opGives
      simp [execOp, Act.eval, D42, go_sem, givesUpon]
      exact ⟨Fr.refl _ _, rfl⟩
    · have D37 : a'.eval (.tmp 37) = .tuple #[.agg #[.int .i64 uk, .string un, .int .i64 ui], .bool u2] := hdep ⟨5, .data⟩ (by simp) rfl _ 37 rfl rfl
      simp only [Act.eval] at D37
      refine ⟨fun h => absurd h (by decide), fun _ => ?_⟩
      unfold opGives
      simp [execOp, Act.eval, D37, go_sem, givesUpon]
      exact ⟨Fr.refl _ _, rfl⟩
    · have D37 : a'.eval (.tmp 37) = .tuple #[.agg #[.int .i64 uk, .string un, .int .i64 ui], .bool u2] := hdep ⟨5, .data⟩ (by simp) rfl _ 37 rfl rfl
      simp only [Act.eval] at D37
      refine ⟨fun _ => ⟨.bool u2, fun W => by simp [execOp, Act.eval, D37, go_sem], rfl, rfl⟩, fun h => absurd h (by decide)⟩
    · refine ⟨fun h => absurd h (by decide), fun _ => ?_⟩
      unfold opGives
      simp [execOp, go_sem, givesUpon]
      exact ⟨(Fr.refl _ _).alloc _, ⟨_, rfl, Bx.new_ rfl, hbs⟩, Nat.le_refl _⟩
  intro vs W7 hW7 hv hne
  have e0 : vs 0 = _ := hv 0 (by omega)
  have e1 : vs 1 = _ := hv 1 (by omega)
  have e2 : vs 2 = _ := hv 2 (by omega)
  have e3 : vs 3 = _ := hv 3 (by omega)
  have e4 : vs 4 = _ := hv 4 (by omega)
  have e5 : vs 5 = _ := hv 5 (by omega)
  have e6 : vs 6 = _ := hv 6 (by omega)
  have e7 : vs 7 = _ := hv 7 (by omega)
  obtain ⟨b9, e8, hb9, hl9⟩ := hv 8 (by omega)
  simp only [List.take_succ_cons, List.take_zero, List.drop_succ_cons, List.drop_zero, putsL, if_true, Nat.zero_add, Nat.reduceAdd, e0, e1, e2, e3, e4, e5, e6, e7, e8]
  simp only [Act.put, List.setIfInBounds_toArray, List.set_cons_zero, List.set_cons_succ]
  clear e0 e1 e2 e3 e4 e5 e6 e7 e8 hv
  clear hne
  have q7 : Fr No wA W7 := q6.trans0 hW7
  obtain ⟨z0, z1, z2⟩ := hb9.c3
  have zf := fun j => hb9.frozen j
  have zl := hb9.lt
  have B8 := hB8.keep hW7
  have BX := hBx.keep hW7
  have hx7 := hx6.keep (R' := KprC No W7) hW7 (fun _ h => h.elim) (fun _ _ _ h => h.keep hW7 (fun _ h => h.elim))
  clear K8 KX
  obtain ⟨y0, y1, y2⟩ := B8.c3
  have yl := B8.lt
  have x0 := BX.c1
  have xl := BX.lt
  have s6 := hW7.size
  have n1 : ¬ w.heap.size = b9 := by omega
  have n2 : ¬ b9 = w.heap.size := by omega
  have n3 : ¬ w.heap.size + 1 = b9 := by omega
  have n4 : ¬ b9 = w.heap.size + 1 := by omega
  have n5 : ¬ b8 = b9 := by omega
  have n6 : ¬ b9 = b8 := by omega
  have n7 : ¬ w5.heap.size = b9 := by omega
  have n8 : ¬ b9 = w5.heap.size := by omega
  have hbb : (u2 != u2) = false := by cases u2 <;> rfl
  go_wp2_with fail
  refine (eqLnkMethod_go uk ui un _).mono ?_
  rintro e w8 ⟨rfl, hf8⟩
  have q8 : Fr No w6 w8 := frc
  have p8 : Fr No wA w8 := q6.trans0 q8
  have KX := hBx.r1
  clear z0 z1 z2 zf zl y0 y1 y2 yl x0 xl hb9 BX B8 hx7
  go_wp2_with fail
  refine wp_region_monL 4 [isV (.agg #[.slice Ax p.keepers.length cx]), isV (.agg #[.slice A p.keepers.length cap]), planB p w8.heap.size, isV (.bool true)] [false, false, false, false] [false, false, false, false] ?_ (by kernel_rfl) (by kernel_rfl) ?_ ?_ ?_ ?_
  · intro x hx hb v W h
    simp only [List.zip_cons_cons, List.zip_nil_left, List.mem_cons, List.not_mem_nil, or_false] at hx
    rcases hx with rfl | rfl | rfl | rfl <;> first | (cases hb; done) | exact atB_bk h
  · intro o ho d hd; simp only [List.take_succ_cons, List.take_zero, List.mem_cons, List.not_mem_nil, or_false] at ho; rcases ho with rfl | rfl | rfl | rfl <;> (cases hd; simp)
  · intro x hx
    simp only [List.mem_cons, List.not_mem_nil, or_false] at hx
    rcases hx with rfl | rfl | rfl | rfl
    · exact isV_mono _
    · exact isV_mono _
    · exact planB_mono _ _
    · exact isV_mono _
  · intro k o ho a' W hW hoff hdep
    have hbs := hW.size
    have q9 : Fr No w6 W := q8.trans0 hW
    have p9 : Fr No wA W := p8.trans0 hW
    have H10 := hoff 10 (by simp)
    have H3 := hoff 3 (by simp)
    simp only [Act.eval] at H10 H3
    simp only [List.take_succ_cons, List.take_zero] at ho hdep
    rcases k with _ | _ | _ | _ | k
    all_goals (first | (simp at ho; done) | skip)
    all_goals simp only [List.getElem?_cons_zero, List.getElem?_cons_succ, Option.some.injEq] at ho
    all_goals subst ho
    · refine ⟨fun h => absurd h (by decide), fun _ => ?_⟩
      unfold opGives
      simp [execOp, Act.eval, go_sem, givesUpon, *]
      exact ⟨Fr.refl _ _, rfl⟩
    · refine ⟨fun h => absurd h (by decide), fun _ => ?_⟩
      unfold opGives
      simp [execOp, Act.eval, go_sem, givesUpon, *]
      exact ⟨Fr.refl _ _, rfl⟩
    · have D55 : a'.eval (.tmp 55) = .agg #[.slice A p.keepers.length cap] := hdep ⟨1, .data⟩ (by simp) rfl _ 55 rfl rfl
      simp only [Act.eval] at D55
      refine ⟨fun h => absurd h (by decide), fun _ => ?_⟩
      unfold opGives
      simp [Act.eval, D55, go_sem, givesUpon]
      exact (HT _ (hfA.trans0 p9)).mono fun e w' h => let ⟨v, h1, h2, h3⟩ := planB_of h hbs; ⟨v, h1, h2, h3⟩
    · have D54 : a'.eval (.tmp 54) = .agg #[.slice Ax p.keepers.length cx] := hdep ⟨0, .data⟩ (by simp) rfl _ 54 rfl rfl
      obtain ⟨vk, D56, hk⟩ : (planB p w8.heap.size) (a'.eval (.tmp 56)) W := hdep ⟨2, .data⟩ (by simp) rfl _ 56 rfl rfl
      simp only [Act.eval] at D54 D56
      refine ⟨fun h => absurd h (by decide), fun _ => ?_⟩
      unfold opGives
      simp [Act.eval, D54, D56, go_sem, givesUpon]
      exact (eqPlan_go _ _ p _ _ W ⟨_, rfl, hx6.keep (R' := KprC No W) q9 (fun _ h => h.elim) (fun _ _ _ h => h.keep q9 (fun _ h => h.elim))⟩ ⟨_, rfl, hk⟩).mono fun e w' h => ⟨_, h.1, h.2, rfl⟩
  intro vs WR hWR hv hne
  have e0 : vs 0 = _ := hv 0 (by omega)
  have e1 : vs 1 = _ := hv 1 (by omega)
  obtain ⟨vkR2, e2, hkR2⟩ := hv 2 (by omega)
  have e3 : vs 3 = _ := hv 3 (by omega)
  simp only [List.take_succ_cons, List.take_zero, List.drop_succ_cons, List.drop_zero, putsL, if_true, Nat.zero_add, Nat.reduceAdd, e0, e1, e2, e3]
  simp only [Act.put, List.setIfInBounds_toArray, List.set_cons_zero, List.set_cons_succ]
  clear e0 e1 e2 e3 hv
  clear hne
  go_wp2
  go_ret
  exact .mk rfl frc
end Go.Proofs.YtghmnkafpnkojaaGreat
