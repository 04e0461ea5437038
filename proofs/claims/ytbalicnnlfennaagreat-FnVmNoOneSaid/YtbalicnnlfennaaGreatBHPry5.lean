/- The law FnVmNoOne. -/
import Derived.Test.YtbalicnnlfennaaGreatBHPry4
namespace Go.Proofs.YtbalicnnlfennaaGreat
open Go.RowKit

set_option maxRecDepth 100000 in
set_option maxHeartbeats 4000000 in
theorem fnVmNoOne_ok (v : Value) (bs : List Int) (w : World) (h : Sl No w 1 ByC v bs) :
    Calls Tryz.prog 5 #[v] w (BoolFr true w) := by
  obtain ⟨A, c, rfl, _, hlen⟩ := h.form
  unfold maxLen at hlen
  by_cases hb : 1048576 < bs.length
  · have hb' : (1048576 : Int) < (bs.length : Int) := by omega
    clear h
    go_enter Tryz.func5, Tryz.ntmps5
    go_wp2
    go_ret
    exact .mk rfl frc
  · have hb' : ¬ (1048576 : Int) < (bs.length : Int) := by omega
    have HN1 := fun W (hW : Fr No w W) => loNum_ok (.slice A bs.length c) bs 1 W (h.keep hW (fun _ h => h) (fun _ _ _ h => h)) (.inl rfl)
    clear h
    go_enter Tryz.func5, Tryz.ntmps5
    go_wp2_with fail
    refine (HN1 _ frc).mono ?_
    rintro e w1 ⟨a, rfl, hf1, a1, a2⟩
    clear HN1
    have hna : numB a = true := by unfold numB; rw [decide_eq_true a1, decide_eq_true a2]; rfl
    have h0 : numB 0 = true := by decide
    have HD1 := p_do (new_lod hna) (new_right a) h0 (okOps_of rfl)
    have HG1 := new_go hna
    have HR1 := new_run a
    have HD2 := p_do (cast_lod hna take_at) (take_right a) h0 (okOps_of rfl)
    have HG2 := take_go hna
    have HR2 := take_run a
    have HD3 := p_do (cast_lod hna null_at) (none_right a) h0 (okOps_of rfl)
    have HG3 := none_go hna
    have HR3 := none_run a
    have hC1 : ∀ x ∈ newCode a, x.name.size ≤ maxLen ∧ x.member.size ≤ maxLen := by simp [newCode, insC, insN, insP]; decide
    have hC2 : ∀ x ∈ castCode (insP 2 0) a, x.name.size ≤ maxLen ∧ x.member.size ≤ maxLen := by simp [castCode, insC, insN, insP]; decide
    have hC3 : ∀ x ∈ castCode (insP 5 0) a, x.name.size ≤ maxLen ∧ x.member.size ≤ maxLen := by simp [castCode, insC, insN, insP]; decide
    have hw1 : Fr No w w1 := hf1
    clear hna a1 a2 hf1
    go_wp2_with fail
    obtain ⟨w2, hw2⟩ : ∃ w2, w2 = (w1.alloc (.cells ((newCode a).flatMap insCells).toArray 27)) := ⟨_, rfl⟩
    have B2 : Bx w2 w1.heap.size 27 ((newCode a).flatMap insCells).toArray := hw2 ▸ bxc
    have hf2 : Fr No w1 w2 := hw2 ▸ frc
    have HM := loMain0_ok (newCode a) [] (.slice (some ⟨w1.heap.size, 0, none⟩) 4 4) (.slice none 0 0) w2 (Sl.insBx B2 hC1 (by simp [newCode, maxLen])) slNil
    rw [hw2] at HM
    refine HM.mono ?_
    clear HM
    rintro e w3 ⟨⟨pv, rfl, hpv⟩, hf3⟩
    have hw3 : Fr No w w3 := (hw1.trans0 hf2).trans0 (hw2 ▸ hf3)
    generalize mainP [] (newCode a) [] = P1 at *
    obtain ⟨Ap, cp, rfl, _, _⟩ := hpv.form
    clear B2 hf2 hw2 hf3 hw1
    go_wp2_with fail
    refine (loDo_ok HD1 HG1 _ _ (hpv.keep frc (fun _ h => h) (fun _ _ _ h => h.keep frc (fun _ h => h)))).mono ?_
    rintro e w4 ⟨⟨cs, rfl, hst⟩, hf4⟩
    have hw4 : Fr No w w4 := (hw3.trans0 frc).trans0 hf4
    rw [HR1] at hst
    obtain ⟨vf, vh, vo, rfl, hh1, hh2, hh3⟩ := hst
    obtain ⟨Af, cf, rfl, _, _⟩ := hh1.form
    obtain ⟨Ah, ch, rfl, _, _⟩ := hh2.form
    obtain ⟨Ao, co, rfl, _, _⟩ := hh3.form
    clear hh1 hh2 hh3 HD1 HG1 HR1 hpv hw3 hf4
    unfold endT
    go_wp2_with fail
    obtain ⟨w5, hw5⟩ : ∃ w5, w5 = ((w4.alloc (.cells #[.int .i64 4, .slice Af 0 cf, .slice Ah 1 ch, .slice Ao 0 co, .int .i64 noVal.kind, .int .i64 noVal.n] tVSt)).alloc (.cells ((castCode (insP 2 0) a).flatMap insCells).toArray 27)) := ⟨_, rfl⟩
    have S1 : Bx w5 w4.heap.size tVSt #[.int .i64 4, .slice Af 0 cf, .slice Ah 1 ch, .slice Ao 0 co, .int .i64 noVal.kind, .int .i64 noVal.n] := hw5 ▸ (Bx.new _ _ _).alloc _
    have B5 : Bx w5 (w4.heap.size + 1) 27 ((castCode (insP 2 0) a).flatMap insCells).toArray := hw5 ▸ Bx.new_ (by simp)
    have hf5 : Fr No w4 w5 := hw5 ▸ frc
    have HM := loMain0_ok (castCode (insP 2 0) a) [] (.slice (some ⟨w4.heap.size + 1, 0, none⟩) 5 5) (.slice none 0 0) w5 (Sl.insBx B5 hC2 (by simp [castCode, maxLen])) slNil
    rw [hw5] at HM
    refine HM.mono ?_
    clear HM
    rintro e w6 ⟨⟨pv, rfl, hpv⟩, hf6⟩
    replace hf6 : Fr No w5 w6 := hw5 ▸ hf6
    have hw6 : Fr No w w6 := (hw4.trans0 hf5).trans0 hf6
    generalize mainP [] (castCode (insP 2 0) a) [] = P2 at *
    obtain ⟨Aq, cq, rfl, _, _⟩ := hpv.form
    clear B5 hf5 hw5 hw4
    go_wp2_with fail
    refine (loDo_ok HD2 HG2 _ _ (hpv.keep frc (fun _ h => h) (fun _ _ _ h => h.keep frc (fun _ h => h)))).mono ?_
    rintro e w7 ⟨⟨cs, rfl, hst⟩, hf7⟩
    have hw7 : Fr No w w7 := (hw6.trans0 frc).trans0 hf7
    replace S1 := (S1.keep hf6).keep hf7
    rw [HR2] at hst
    obtain ⟨vf, vh, vo, rfl, hh1, hh2, hh3⟩ := hst
    obtain ⟨Bf, df, rfl, _, _⟩ := hh1.form
    obtain ⟨Bh, dh, rfl, _, _⟩ := hh2.form
    obtain ⟨Bo, d9, rfl, _, _⟩ := hh3.form
    clear hh1 hh2 hh3 HD2 HG2 HR2 hpv hw6 hf6 hf7
    unfold endT
    go_wp2_with fail
    obtain ⟨w8, hw8⟩ : ∃ w8, w8 = ((w7.alloc (.cells #[.int .i64 4, .slice Bf 0 df, .slice Bh 1 dh, .slice Bo 0 d9, .int .i64 noVal.kind, .int .i64 noVal.n] tVSt)).alloc (.cells ((castCode (insP 5 0) a).flatMap insCells).toArray 27)) := ⟨_, rfl⟩
    have S2 : Bx w8 w7.heap.size tVSt #[.int .i64 4, .slice Bf 0 df, .slice Bh 1 dh, .slice Bo 0 d9, .int .i64 noVal.kind, .int .i64 noVal.n] := hw8 ▸ (Bx.new _ _ _).alloc _
    have B8 : Bx w8 (w7.heap.size + 1) 27 ((castCode (insP 5 0) a).flatMap insCells).toArray := hw8 ▸ Bx.new_ (by simp)
    have hf8 : Fr No w7 w8 := hw8 ▸ frc
    have HM := loMain0_ok (castCode (insP 5 0) a) [] (.slice (some ⟨w7.heap.size + 1, 0, none⟩) 5 5) (.slice none 0 0) w8 (Sl.insBx B8 hC3 (by simp [castCode, maxLen])) slNil
    rw [hw8] at HM
    refine HM.mono ?_
    clear HM
    rintro e w9 ⟨⟨pv, rfl, hpv⟩, hf9⟩
    replace hf9 : Fr No w8 w9 := hw8 ▸ hf9
    have hw9 : Fr No w w9 := (hw7.trans0 hf8).trans0 hf9
    replace S1 := (S1.keep hf8).keep hf9
    generalize mainP [] (castCode (insP 5 0) a) [] = P3 at *
    obtain ⟨Ar, cr, rfl, _, _⟩ := hpv.form
    clear B8 hf8 hw8 hw7
    go_wp2_with fail
    refine (loDo_ok HD3 HG3 _ _ (hpv.keep frc (fun _ h => h) (fun _ _ _ h => h.keep frc (fun _ h => h)))).mono ?_
    rintro e w10 ⟨⟨cs, rfl, hst⟩, hf10⟩
    have hw10 : Fr No w w10 := (hw9.trans0 frc).trans0 hf10
    have hf910 : Fr No w9 w10 := hf10
    replace S1 := S1.keep hf910
    replace S2 := (S2.keep hf9).keep hf910
    rw [HR3] at hst
    have HGv := fun W (hW : Fr No w10 W) => loGives_ok _ _ a cs W (hst.keep hW (fun _ h => h.elim)) (gives_done a)
    obtain ⟨vf, vh, vo, rfl, hh1, hh2, hh3⟩ := hst
    obtain ⟨Cf, ef, rfl, _, _⟩ := hh1.form
    obtain ⟨Ch, eh, rfl, _, _⟩ := hh2.form
    obtain ⟨Co, eo, rfl, _, _⟩ := hh3.form
    obtain ⟨s0, s1, s2, s3, s4, s5⟩ := S1.c6
    have sf := fun i => S1.frozen i
    have sl := S1.lt
    obtain ⟨t0, t1, t2, t3, t4, t5⟩ := S2.c6
    have tf := fun i => S2.frozen i
    have tl := S2.lt
    clear hh1 hh2 hh3 HD3 HG3 HR3 hpv hw9 hf9 hf10 hf910 S1 S2 hC1 hC2 hC3
    go_wp2_with fail
    refine (HGv _ frc).mono ?_
    rintro e w11 ⟨rfl, hf11⟩
    go_wp2_with fail
    go_ret
    exact .mk rfl ((hw10.trans0 frc).trans0 hf11)
end Go.Proofs.YtbalicnnlfennaaGreat
