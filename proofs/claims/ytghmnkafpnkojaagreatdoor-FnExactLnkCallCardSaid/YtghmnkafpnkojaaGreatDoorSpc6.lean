/- The reference's check of a class. -/
import Derived.Test.YtghmnkafpnkojaaGreatDoorSpc5
import Derived.Test.YtghmnkafpnkojaaGreatDoorSpc4
namespace Go.Proofs.YtghmnkafpnkojaaGreatDoor
open Go.RowKit

theorem IntFr.toFr {X : Nat → Prop} {n : Int} {a W w' : World} {e : Ending} (h : IntFr n W e w') (hW : Fr X a W) : e = .returned (.int .i64 n) ∧ Fr X a w' := ⟨h.1, hW.trans0 h.2⟩

set_option maxRecDepth 100000 in
set_option maxHeartbeats 8000000 in
theorem s_cls (X : Nat → Prop) (c : Cls) (cs : List Value) (w : World) (h : ClsC X w cs c) :
    Calls Tryz.prog 52 #[.agg cs.toArray] w (BoolFr (clsB c) w) := by
  obtain ⟨vf, vm, rfl, hn, hsn, hf, hm⟩ := h
  obtain ⟨Af, cf, rfl, hcf, hfl⟩ := hf.form
  obtain ⟨Am, cm, rfl, hcm, hml⟩ := hm.form
  have hfl' := hfl
  have hml' := hml
  unfold maxLen at hfl' hml'
  have hB := Bx.new w 114 #[.string c.name, .string c.super, .slice Af c.fields.length cf, .slice Am c.methods.length cm]
  have hN := fun W => s_nam c.name W hn
  have hS := fun W => s_nam c.super W hsn
  have hcase : namB c.name = false ∨ (namB c.name = true ∧ c.super.toList.isEmpty = false ∧ namB c.super = false) ∨ (namB c.name = true ∧ (c.super.toList.isEmpty = true ∨ c.super.toList.isEmpty = false ∧ namB c.super = true) ∧ 3 < c.fields.length) ∨
      (namB c.name = true ∧ (c.super.toList.isEmpty = true ∨ c.super.toList.isEmpty = false ∧ namB c.super = true) ∧ c.fields.length ≤ 3 ∧ 4 < c.methods.length) ∨
      (namB c.name = true ∧ (c.super.toList.isEmpty = true ∨ c.super.toList.isEmpty = false ∧ namB c.super = true) ∧ c.fields.length ≤ 3 ∧ c.methods.length ≤ 4) := by
    cases namB c.name <;> cases namB c.super <;> cases c.super.toList.isEmpty <;> simp <;> omega
  rcases hcase with g1 | ⟨g1, g2, g3⟩ | ⟨g1, g2 | ⟨g2, g3⟩, g4⟩ | ⟨g1, g2 | ⟨g2, g3⟩, g4, g5⟩ | ⟨g1, g2 | ⟨g2, g3⟩, g4, g5⟩
  all_goals
    try simp only [g1] at hN
    try simp only [g3] at hS
    have G1 := Lib.hid g1
    try have G2 := Lib.hid g2
    try have G3 := Lib.hid g3
    clear g1
    try clear g3
    go_enter Tryz.func52, Tryz.ntmps52
    go_wp2_with (first
      | (go_at_call_of 17 (Value.string c.name); refine (hN _).mono ?_; rintro e w' ⟨rfl, rfl⟩)
      | (go_at_call_of 17 (Value.string c.super); refine (hS _).mono ?_; rintro e w' ⟨rfl, rfl⟩))
  · go_ret; exact .mk (by rw [clsB_no (.inl G1.out)]) (by exact frc)
  · go_ret; exact .mk (by rw [clsB_no (.inr (.inl ⟨G2.out, G3.out⟩))]) (by exact frc)
  · go_ret; exact .mk (by rw [clsB_no (.inr (.inr (.inl (by omega))))]) (by exact frc)
  · go_ret; exact .mk (by rw [clsB_no (.inr (.inr (.inl (by omega))))]) (by exact frc)
  · go_ret; exact .mk (by rw [clsB_no (.inr (.inr (.inr (.inl (by omega)))))]) (by exact frc)
  · go_ret; exact .mk (by rw [clsB_no (.inr (.inr (.inr (.inl (by omega)))))]) (by exact frc)
  all_goals
    have G23 : Hid ((c.super.toList.isEmpty || namB c.super) = true) := by unfold Hid; first | (rw [G2.out]; rfl) | (rw [G3.out]; simp)
    clear G2 g2 hN hS
    try clear G3
    have hw0 : Fr No w (w.alloc (.cells #[.string c.name, .string c.super, .slice Af c.fields.length cf, .slice Am c.methods.length cm] 114)) := (Fr.refl No w).alloc _
    go_loopw [3, 2] (fun i r wr => ∃ k : Nat, k ≤ c.fields.length ∧ i = .int .i64 k ∧ r = .bool false ∧ Hid (fldsGo [] c.fields = fldsGo (c.fields.take k) (c.fields.drop k)) ∧
      Bx wr w.heap.size 114 #[.string c.name, .string c.super, .slice Af c.fields.length cf, .slice Am c.methods.length cm] ∧ Fr No w wr) (fun i _ _ => c.fields.length - (intOf i).toNat)
    case atStart => exact ⟨0, Nat.zero_le _, rfl, rfl, rfl, hB, hw0⟩
    case round =>
      obtain ⟨k, hk, rfl, rfl, hd, hB', hw⟩ := hrel
      clear hB hw0
      obtain ⟨b0, b1, b2, b3⟩ := hB'.c4
      have hBl := hB'.lt
      by_cases hlt : k < c.fields.length
      · have hfw := hf.keep hw (fun _ h => h.elim) (fun _ _ _ h => h)
        have htk := hfw.take (Nat.le_of_lt hlt)
        obtain ⟨b, off, rfl, hX, c0, c1, c2, hs1, hs2⟩ := hfw.fld hlt
        have hbl := lt_of_cell c0
        clear hf hm hfw
        have HN := fun W => s_nam c.fields[k].name W hs1
        have HK := fun W => s_knd c.fields[k].kind W hs2
        have HF := fun W (h : Fr No wr W) => s_field X _ (c.fields.take k) c.fields[k].name W (htk.keep h (fun _ h => h.elim) (fun _ _ _ h => h)) hs1
        clear htk
        have hd := Lib.hid (fldsGo_step hlt hd.out)
        generalize c.fields[k] = f at *
        have hkk : (k : Int).toNat = k := by omega
        have hkc : k ≤ cf := by omega
        have hneg : ixOf (fldIs f.name) (c.fields.take k) = -1 ∧ (c.fields.take k).all (fun g => !(g.name.toList == f.name.toList)) = true ∨ 0 ≤ ixOf (fldIs f.name) (c.fields.take k) ∧ (c.fields.take k).all (fun g => !(g.name.toList == f.name.toList)) = false := by
          have h1 := ixOf_neg (fldIs f.name) (c.fields.take k)
          have h2 := ixOf_range (fldIs f.name) (c.fields.take k)
          unfold fldIs at h1 h2 ⊢
          cases ha : (c.fields.take k).all (fun g => !(g.name.toList == f.name.toList))
          · rw [ha] at h1; simp at h1; exact .inr ⟨h1, rfl⟩
          · rw [ha] at h1; simp at h1; exact .inl ⟨by omega, rfl⟩
        generalize ixOf (fldIs f.name) (c.fields.take k) = ix at *
        have hcase : namB f.name = false ∨ (namB f.name = true ∧ kndB f.kind = false) ∨ (namB f.name = true ∧ kndB f.kind = true) := by
          cases namB f.name <;> cases kndB f.kind <;> simp
        have hA : Fr No wr wr := Fr.refl _ _
        have e0 := fun W (h : Fr No wr W) => (hB'.keep h).c4.1
        have e1 := fun W (h : Fr No wr W) => (hB'.keep h).c4.2.1
        have e2 := fun W (h : Fr No wr W) => (hB'.keep h).c4.2.2.1
        have e3 := fun W (h : Fr No wr W) => (hB'.keep h).c4.2.2.2
        have q0 := fun W (h : Fr No wr W) => h.keep0 c0
        have q1 := fun W (h : Fr No wr W) => h.keep0 c1
        have q2 := fun W (h : Fr No wr W) => h.keep0 c2
        go_wp2_with fail
        (refine wp_region_fr (X := No) (by kernel_rfl) (by kernel_rfl) ?_)
        clear b0 b1 b2 b3 c0 c1 c2 hA
        rcases hcase with g1 | ⟨g1, g2⟩ | ⟨g1, g2⟩
        all_goals
          rw [g1] at HN
          try rw [g2] at HK
        · have HS : Hid (clsB c = false) := clsB_no (.inr (.inr (.inr (.inr (.inl (by rw [hd.out, g1]; rfl))))))
          clear g1 hneg hd
          (repeat (first | (go_big_quiet_skip; (try simp only [Act.put, List.setIfInBounds_toArray, List.set_cons_zero, List.set_cons_succ])) | (go_big_quiet_want; (apply Exists.intro; refine ⟨fun W hW => ?_, ?_⟩); (focus (go_simp; (try simp only [↓IntWalk.iteOmega]); (try simp only [reduceIte]); first | done | exact rfl | exact ⟨trivial, rfl⟩ | exact ⟨rfl, rfl⟩ | (go_at_call 17; exact (HN W).mono (fun _ _ h => IsBool.toFr h hW)))); go_big_quiet_on; (try simp only [Act.put, List.setIfInBounds_toArray, List.set_cons_zero, List.set_cons_succ])))); refine wpQuiet_nil ?_
          intro w1 hf1
          clear e0 e1 e2 e3 q0 q1 q2 HN HK HF
          go_wp2
          go_ret; exact .mk (by rw [HS.out]) (by exact frc)
        · have HS : Hid (clsB c = false) := clsB_no (.inr (.inr (.inr (.inr (.inl (by rw [hd.out, g1, g2]; rfl))))))
          clear g1 g2 hneg hd
          (repeat (first | (go_big_quiet_skip; (try simp only [Act.put, List.setIfInBounds_toArray, List.set_cons_zero, List.set_cons_succ])) | (go_big_quiet_want; (apply Exists.intro; refine ⟨fun W hW => ?_, ?_⟩); (focus (go_simp; (try simp only [↓IntWalk.iteOmega]); (try simp only [reduceIte]); first | done | exact rfl | exact ⟨trivial, rfl⟩ | exact ⟨rfl, rfl⟩ | (go_at_call 17; exact (HN W).mono (fun _ _ h => IsBool.toFr h hW)) | (go_at_call 79; exact (HK W).mono (fun _ _ h => BoolFr.toFr h hW)))); go_big_quiet_on; (try simp only [Act.put, List.setIfInBounds_toArray, List.set_cons_zero, List.set_cons_succ])))); refine wpQuiet_nil ?_
          intro w1 hf1
          clear e0 e1 e2 e3 q0 q1 q2 HN HK HF
          go_wp2
          go_ret; exact .mk (by rw [HS.out]) (by exact frc)
        · rcases hneg with ⟨rfl, ha⟩ | ⟨hix, ha⟩
          · have HS : Hid (fldsGo [] c.fields = fldsGo (c.fields.take (k + 1)) (c.fields.drop (k + 1))) := by
              have := hd.out; rwa [g1, g2, ha, Bool.true_and, Bool.true_and, Bool.true_and] at this
            clear g1 g2 hd ha
            (repeat (first | (go_big_quiet_skip; (try simp only [Act.put, List.setIfInBounds_toArray, List.set_cons_zero, List.set_cons_succ])) | (go_big_quiet_want; (apply Exists.intro; refine ⟨fun W hW => ?_, ?_⟩); (focus (go_simp; (try simp only [↓IntWalk.iteOmega]); (try simp only [reduceIte]); first | done | exact rfl | exact ⟨trivial, rfl⟩ | exact ⟨rfl, rfl⟩ | (go_at_call 17; exact (HN W).mono (fun _ _ h => IsBool.toFr h hW)) | (go_at_call 79; exact (HK W).mono (fun _ _ h => BoolFr.toFr h hW)) | (go_at_call 80; exact (HF W hW).mono (fun _ _ h => IntFr.toFr h hW)))); go_big_quiet_on; (try simp only [Act.put, List.setIfInBounds_toArray, List.set_cons_zero, List.set_cons_succ])))); refine wpQuiet_nil ?_
            intro w1 hf1
            clear e0 e1 e2 e3 q0 q1 q2 HN HK HF
            go_wp2
            go_roundw
            case rel => exact ⟨k + 1, by omega, by go_num, rfl, HS, hB'.keep hf1, by exact frc⟩
            case measure => simp [intOf]; omega
          · have HS : Hid (clsB c = false) := clsB_no (.inr (.inr (.inr (.inr (.inl (by rw [hd.out, g1, g2, ha]; rfl))))))
            clear g1 g2 hd ha
            (repeat (first | (go_big_quiet_skip; (try simp only [Act.put, List.setIfInBounds_toArray, List.set_cons_zero, List.set_cons_succ])) | (go_big_quiet_want; (apply Exists.intro; refine ⟨fun W hW => ?_, ?_⟩); (focus (go_simp; (try simp only [↓IntWalk.iteOmega]); (try simp only [reduceIte]); first | done | exact rfl | exact ⟨trivial, rfl⟩ | exact ⟨rfl, rfl⟩ | (go_at_call 17; exact (HN W).mono (fun _ _ h => IsBool.toFr h hW)) | (go_at_call 79; exact (HK W).mono (fun _ _ h => BoolFr.toFr h hW)) | (go_at_call 80; exact (HF W hW).mono (fun _ _ h => IntFr.toFr h hW)))); go_big_quiet_on; (try simp only [Act.put, List.setIfInBounds_toArray, List.set_cons_zero, List.set_cons_succ])))); refine wpQuiet_nil ?_
            intro w1 hf1
            clear e0 e1 e2 e3 q0 q1 q2 HN HK HF
            go_wp2
            go_ret; exact .mk (by rw [HS.out]) (by exact frc)
      · have G5 : Hid (fldsGo [] c.fields = true) := by have := hd.out; rwa [List.drop_eq_nil_of_le (by omega)] at this
        clear hf hd
        go_wp2
        obtain ⟨wz, rfl⟩ : ∃ wz : World, wz = wr := ⟨_, rfl⟩
        go_loopw [4, 2] (fun i r wq => ∃ k : Nat, k ≤ c.methods.length ∧ i = .int .i64 k ∧ r = .bool false ∧ Hid (mthsGo [] c.methods = mthsGo (c.methods.take k) (c.methods.drop k)) ∧ Fr No wz wq) (fun i _ _ => c.methods.length - (intOf i).toNat)
        case atStart => exact ⟨0, Nat.zero_le _, rfl, rfl, rfl, Fr.refl _ _⟩
        case round =>
          clear b0 b1 b2 b3 hBl
          obtain ⟨k, hk, rfl, rfl, hd, hfr⟩ := hrel
          have hB2 := hB'.keep hfr
          obtain ⟨b0, b1, b2, b3⟩ := hB2.c4
          have hBl := hB2.lt
          have hwr : Fr No w wr := hw.trans0 hfr
          by_cases hlt : k < c.methods.length
          · have hfw := hm.keep hwr (fun _ h => h.elim) (fun _ _ _ h => h.keep hwr (fun _ h => h.elim))
            have htk := hfw.take (Nat.le_of_lt hlt)
            obtain ⟨b, off, Aa, ca, Ac, cc, Ax, cx, rfl, hX, c0, c1, c2, c3, c4, c5, c6, c7, hr1, hr2, hr3, hr4, hr5, _, _, _, _, _, _⟩ := hfw.mth hlt
            have hbl := lt_of_cell c0
            have hR : MthC X wr [.string c.methods[k].name, .slice Aa c.methods[k].args.length ca, .int .i64 c.methods[k].ret.kind, .string c.methods[k].ret.name, .int .i64 c.methods[k].locals, .int .i64 c.methods[k].stack, .slice Ac c.methods[k].code.length cc, .slice Ax c.methods[k].maps.length cx] c.methods[k] := ⟨_, _, _, rfl, hr1, hr2, hr3, hr4, hr5⟩
            have HM := fun W (h : Fr No wr W) => s_mth X c.methods[k] _ W (hR.keep h (fun _ h => h.elim))
            have HF := fun W (h : Fr No wr W) => s_method X _ (c.methods.take k) c.methods[k].name W (htk.keep h (fun _ h => h.elim) (fun _ _ _ h9 => h9.keep h (fun _ h => h.elim))) hr1
            clear hm hfw hr1 hr2 hr3 hr4 hr5 hR htk
            have hd := Lib.hid (mthsGo_step hlt hd.out)
            have hkk : (k : Int).toNat = k := by omega
            have hkc : k ≤ cm := by omega
            generalize c.methods[k] = f at *
            have hneg : ixOf (mthIs f.name) (c.methods.take k) = -1 ∧ (c.methods.take k).all (fun g => !(g.name.toList == f.name.toList)) = true ∨ 0 ≤ ixOf (mthIs f.name) (c.methods.take k) ∧ (c.methods.take k).all (fun g => !(g.name.toList == f.name.toList)) = false := by
              have h1 := ixOf_neg (mthIs f.name) (c.methods.take k)
              have h2 := ixOf_range (mthIs f.name) (c.methods.take k)
              unfold mthIs at h1 h2 ⊢
              cases ha : (c.methods.take k).all (fun g => !(g.name.toList == f.name.toList))
              · rw [ha] at h1; simp at h1; exact .inr ⟨h1, rfl⟩
              · rw [ha] at h1; simp at h1; exact .inl ⟨by omega, rfl⟩
            generalize ixOf (mthIs f.name) (c.methods.take k) = ix at *
            have hcase : mthB f = false ∨ mthB f = true := by cases mthB f <;> simp
            have e0 := fun W (h : Fr No wr W) => (hB2.keep h).c4.1
            have e1 := fun W (h : Fr No wr W) => (hB2.keep h).c4.2.1
            have e2 := fun W (h : Fr No wr W) => (hB2.keep h).c4.2.2.1
            have e3 := fun W (h : Fr No wr W) => (hB2.keep h).c4.2.2.2
            have q0 := fun W (h : Fr No wr W) => h.keep0 c0
            have q1 := fun W (h : Fr No wr W) => h.keep0 c1
            have q2 := fun W (h : Fr No wr W) => h.keep0 c2
            have q3 := fun W (h : Fr No wr W) => h.keep0 c3
            have q4 := fun W (h : Fr No wr W) => h.keep0 c4
            have q5 := fun W (h : Fr No wr W) => h.keep0 c5
            have q6 := fun W (h : Fr No wr W) => h.keep0 c6
            have q7 := fun W (h : Fr No wr W) => h.keep0 c7
            go_wp2_with fail
            (refine wp_region_fr (X := No) (by kernel_rfl) (by kernel_rfl) ?_)
            clear b0 b1 b2 b3 c0 c1 c2 c3 c4 c5 c6 c7
            rcases hcase with g1 | g1
            · rw [g1] at HM
              have HS : Hid (clsB c = false) := clsB_no (.inr (.inr (.inr (.inr (.inr (by rw [hd.out, g1]; rfl))))))
              clear g1 hneg hd
              (repeat (first | (go_big_quiet_skip; (try simp only [Act.put, List.setIfInBounds_toArray, List.set_cons_zero, List.set_cons_succ])) | (go_big_quiet_want; (apply Exists.intro; refine ⟨fun W hW => ?_, ?_⟩); (focus (go_simp; (try simp only [↓IntWalk.iteOmega]); (try simp only [reduceIte]); first | done | exact rfl | exact ⟨trivial, rfl⟩ | exact ⟨rfl, rfl⟩ | (go_at_call 81; exact (HM W hW).mono (fun _ _ h => BoolFr.toFr h hW)))); go_big_quiet_on; (try simp only [Act.put, List.setIfInBounds_toArray, List.set_cons_zero, List.set_cons_succ])))); refine wpQuiet_nil ?_
              intro w1 hf1
              clear e0 e1 e2 e3 q0 q1 q2 q3 q4 q5 q6 q7 HM HF
              go_wp2
              go_ret; exact .mk (by rw [HS.out]) (by exact frc)
            · rw [g1] at HM
              rcases hneg with ⟨rfl, ha⟩ | ⟨hix, ha⟩
              · have HS : Hid (mthsGo [] c.methods = mthsGo (c.methods.take (k + 1)) (c.methods.drop (k + 1))) := by
                  have := hd.out; rwa [g1, ha, Bool.true_and, Bool.true_and] at this
                clear g1 hd ha
                (repeat (first | (go_big_quiet_skip; (try simp only [Act.put, List.setIfInBounds_toArray, List.set_cons_zero, List.set_cons_succ])) | (go_big_quiet_want; (apply Exists.intro; refine ⟨fun W hW => ?_, ?_⟩); (focus (go_simp; (try simp only [↓IntWalk.iteOmega]); (try simp only [reduceIte]); first | done | exact rfl | exact ⟨trivial, rfl⟩ | exact ⟨rfl, rfl⟩ | (go_at_call 81; exact (HM W hW).mono (fun _ _ h => BoolFr.toFr h hW)) | (go_at_call 59; exact (HF W hW).mono (fun _ _ h => IntFr.toFr h hW)))); go_big_quiet_on; (try simp only [Act.put, List.setIfInBounds_toArray, List.set_cons_zero, List.set_cons_succ])))); refine wpQuiet_nil ?_
                intro w1 hf1
                clear e0 e1 e2 e3 q0 q1 q2 q3 q4 q5 q6 q7 HM HF
                go_wp2
                go_roundw
                case rel => exact ⟨k + 1, by omega, by go_num, rfl, HS, by exact frc⟩
                case measure => simp [intOf]; omega
              · have HS : Hid (clsB c = false) := clsB_no (.inr (.inr (.inr (.inr (.inr (by rw [hd.out, g1, ha]; rfl))))))
                clear g1 hd ha
                (repeat (first | (go_big_quiet_skip; (try simp only [Act.put, List.setIfInBounds_toArray, List.set_cons_zero, List.set_cons_succ])) | (go_big_quiet_want; (apply Exists.intro; refine ⟨fun W hW => ?_, ?_⟩); (focus (go_simp; (try simp only [↓IntWalk.iteOmega]); (try simp only [reduceIte]); first | done | exact rfl | exact ⟨trivial, rfl⟩ | exact ⟨rfl, rfl⟩ | (go_at_call 81; exact (HM W hW).mono (fun _ _ h => BoolFr.toFr h hW)) | (go_at_call 59; exact (HF W hW).mono (fun _ _ h => IntFr.toFr h hW)))); go_big_quiet_on; (try simp only [Act.put, List.setIfInBounds_toArray, List.set_cons_zero, List.set_cons_succ])))); refine wpQuiet_nil ?_
                intro w1 hf1
                clear e0 e1 e2 e3 q0 q1 q2 q3 q4 q5 q6 q7 HM HF
                go_wp2
                go_ret; exact .mk (by rw [HS.out]) (by exact frc)
          · have G6 : Hid (clsB c = true) := clsB_yes G1.out G23.out (by omega) (by omega) G5.out (by have := hd.out; rwa [List.drop_eq_nil_of_le (by omega)] at this)
            clear hm hd
            go_wp2
            go_ret; exact .mk (by rw [G6.out]) (by exact frc)
end Go.Proofs.YtghmnkafpnkojaaGreatDoor
