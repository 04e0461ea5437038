/- The reference: whether a chain's first class goes together with all above it. -/
import Derived.Test.YtghmnkafpnkojaaGreatDoorSlh
import Derived.Test.YtghmnkafpnkojaaGreatDoorMon
namespace Go.Proofs.YtghmnkafpnkojaaGreatDoor
open Go.RowKit

set_option maxRecDepth 100000 in
set_option maxHeartbeats 8000000 in
theorem s_over (X Y : Nat → Prop) (p : Plan) (v u : Value) (r0 : Ref) (rs : List Ref) (w : World) (hp : lodB p = true) (h : Sl X w 2 (KprC X w) v p.keepers) (hu : Sl Y w 2 RefC u (r0 :: rs)) (hall : AllHere p (r0 :: rs)) :
    Calls Tryz.prog 82 #[.agg #[v], u] w (BoolFr (rs.all (pairB p r0)) w) := by
  obtain ⟨A, cap, rfl, hcap, hlen⟩ := h.form
  obtain ⟨B, cap2, rfl, hcap2, hlen2⟩ := hu.form
  unfold maxLen at hlen2
  have hrl : rs.length + 1 ≤ 2 ^ 63 - 1 := hlen2
  have hkw := fun W (hW : Fr No w W) => h.keep (R' := KprC X W) hW (fun _ h => h.elim) (fun _ _ _ h => h.keep hW (fun _ h => h.elim))
  obtain ⟨hs0, k0, i0, hh0⟩ := hall r0 (by simp)
  obtain ⟨rk, s0⟩ := r0
  obtain rfl : rk = (k0 : Int) := hh0.1
  have hk0 := hh0.2.1
  obtain ⟨Afc, cfc, Amc, cmc, hRc, HC⟩ := s_class X p _ k0 s0 i0 w h hh0 hs0
  obtain ⟨cb, coff, rfl, hXc, g0, g1, _⟩ := hu.ref (k := 0) (by simp)
  simp only [List.getElem_cons_zero, Nat.zero_mul, Nat.add_zero] at g0 g1
  have hcbl := lt_of_cell g0
  have hB : Bx (w.alloc (.cells #[.slice A p.keepers.length cap] 34)) w.heap.size 34 #[.slice A p.keepers.length cap] := Bx.new_ rfl
  have hwA : Fr No w (w.alloc (.cells #[.slice A p.keepers.length cap] 34)) := (Fr.refl No w).alloc _
  generalize hc : clsAt p ⟨k0, s0⟩ = c at *
  have hn1 : ((rs.length + 1 : Nat) : Int) = (rs.length : Int) + 1 := by omega
  go_enter Tryz.func82, Tryz.ntmps82
  go_wp2_with fail
  generalize (w.alloc (.cells #[.slice A p.keepers.length cap] 34)) = wA at *
  have b0 := hB.c1
  have g0' := hwA.keep0 g0
  have g1' := hwA.keep0 g1
  have lb := hB.lt
  have lg := lt_of_cell g0'
  refine region_cut (ξ := Nat) (fun a x a' W => a' = ((((((a.put (some 11) (.agg #[.slice A p.keepers.length cap])).put (some 12) (.slice (some ⟨cb, coff, none⟩) (rs.length + 1) cap2)).put (some 13) (.pointer (some ⟨cb, coff, none⟩))).put (some 14) (.agg #[.int .i64 k0, .string s0])).put (some 15) (.agg #[.string c.name, .string c.super, .slice Afc c.fields.length cfc, .slice Amc c.methods.length cmc])).put (some 5) (.pointer (some ⟨x, 0, none⟩))) ∧
      Bx W x 114 #[.string c.name, .string c.super, .slice Afc c.fields.length cfc, .slice Amc c.methods.length cmc] ∧ Fr No wA W ∧ w.heap.size < x) ?_ ?_
  · go_region_held3 (fun W => W.cell? ⟨w.heap.size, 0, none⟩ = some (.slice A p.keepers.length cap) ∧ W.cell? ⟨cb, coff, none⟩ = some (.int .i64 k0) ∧ W.cell? ⟨cb, coff + 1, none⟩ = some (.string s0)) (go_keep)
      (first | (go_at_call 57; refine (HC _ (hwA.trans0 (by exact frc))).mono ?_; rintro e w1 ⟨rfl, hf1⟩; have hq1 : Fr No wA w1 := ((by exact frc) : Fr No wA _).trans0 hf1; have b0' := hq1.keep0 b0; have g0'' := hq1.keep0 g0'; have g1'' := hq1.keep0 g1'; (try (have hz1 : Bx w1 wA.heap.size 114 #[.string ⟨#[]⟩, .string ⟨#[]⟩, .slice none 0 0, .slice none 0 0] := Bx.keep (Bx.drew (Bx.new_ rfl)) hf1; obtain ⟨z0, z1, z2, z3⟩ := hz1.c4; have zf := (fun j => hz1.frozen j); have zl := hz1.lt; have n1 : ¬ (w.heap.size = wA.heap.size) := (by omega); have n2 : ¬ (wA.heap.size = w.heap.size) := (by omega); have n3 : ¬ (cb = wA.heap.size) := (by omega); have n4 : ¬ (wA.heap.size = cb) := (by omega)))))
    all_goals refine ⟨rfl, _, rfl, ?_, ?_, ?_⟩
    · with_reducible exact Bx.new_ rfl
    · exact frc
    · have := hq1.size; omega
    · with_reducible exact Bx.fill4 hz1
    · exact frc
    · omega
  · rintro b5 a' W5 ⟨rfl, hb5, hf5, hl5⟩
    simp only [Act.put, List.setIfInBounds_toArray, List.set_cons_zero, List.set_cons_succ]
    have hB5 := hB.keep hf5
    have hw5 : Fr No w W5 := hwA.trans0 hf5
    have hb5l := hb5.lt
    clear b0 g0' g1' lb lg hB hwA hf5 HC
    clear wA
    obtain ⟨vfc, vmc, he, hz0c, hz1c, hfc, hmc⟩ := hRc
    simp only [List.cons.injEq, true_and, and_true] at he
    obtain ⟨rfl, rfl⟩ := he
    have hd0 : Hid (rs.all (pairB p ⟨k0, s0⟩) = (rs.drop (1 - 1)).all (pairB p ⟨k0, s0⟩)) := rfl
    go_wp2
    go_loopw [6, 4] (fun i r wr => ∃ k : Nat, 1 ≤ k ∧ k ≤ rs.length + 1 ∧ i = .int .i64 k ∧ r = .bool false ∧ Hid (rs.all (pairB p ⟨k0, s0⟩) = (rs.drop (k - 1)).all (pairB p ⟨k0, s0⟩)) ∧
      Bx wr w.heap.size 34 #[.slice A p.keepers.length cap] ∧ Bx wr b5 114 #[.string c.name, .string c.super, .slice Afc c.fields.length cfc, .slice Amc c.methods.length cmc] ∧ Fr No w wr) (fun i _ _ => rs.length + 1 - (intOf i).toNat)
    case atStart => exact ⟨1, by omega, by omega, rfl, rfl, hd0, hB5, hb5, hw5⟩
    case round =>
      clear hB5 hb5 hw5 hd0 hb5l
      clear W5
      obtain ⟨k, hk1, hk, rfl, rfl, hd, hB, hb5, hw⟩ := hrel
      have b0 := hB.c1
      have lb := hB.lt
      obtain ⟨d0, d1, d2, d3⟩ := hb5.c4
      have l5 := hb5.lt
      have g0' := hw.keep0 g0
      have g1' := hw.keep0 g1
      have lg := lt_of_cell g0'
      by_cases hlt : k < rs.length + 1
      · have hkl : k < (({ keeper := (k0 : Int), name := s0 } : Ref) :: rs).length := by simp; omega
        obtain ⟨cb', coff', he, _, f0, f1, hsr⟩ := (hu.keep hw (fun _ h => h.elim) (fun _ _ _ h => h)).ref hkl
        simp only [Option.some.injEq, Addr.mk.injEq, and_true] at he
        obtain ⟨rfl, rfl⟩ := he
        obtain ⟨hleft, kr, ir, hhr⟩ := hall _ (List.getElem_mem hkl)
        clear hleft
        have hrs : ((({ keeper := (k0 : Int), name := s0 } : Ref) :: rs)[k]'hkl) = rs[k - 1]'(by omega) := by
          obtain ⟨k', rfl⟩ : ∃ k', k = k' + 1 := ⟨k - 1, by omega⟩
          rfl
        rw [hrs] at f0 f1 hsr hhr
        rw [List.drop_eq_getElem_cons (show k - 1 < rs.length by omega), List.all_cons, show k - 1 + 1 = k by omega] at hd
        have hd := Lib.hid hd
        clear hrs
        generalize rs[k - 1]'(by omega) = r at *
        obtain ⟨rk, s1⟩ := r
        obtain rfl : rk = (kr : Int) := hhr.1
        dsimp only at f0 f1 hsr
        obtain ⟨Afu, cfu, Amu, cmu, hRu, HCu⟩ := s_class X p _ kr s1 ir wr (hkw wr hw) hhr hsr
        have hpair : pairB p ⟨k0, s0⟩ ⟨kr, s1⟩ = (c.fields.all (fun f => decide (ixOf (fldIs f.name) (clsAt p ⟨kr, s1⟩).fields < 0)) && c.methods.all (overM p k0 kr (clsAt p ⟨kr, s1⟩))) := by unfold pairB; rw [hc]
        have hkr := hhr.2.1
        generalize hcu : clsAt p ⟨kr, s1⟩ = u at *
        clear hcu
        have hpair := Lib.hid hpair
        clear hhr hkl
        have hdt : decide ((k : Int) < (rs.length : Int) + 1) = true := by simp; omega
        go_wp2_with fail
        try simp only [hdt]
        refine wp_region_monL 7 [isV (.agg #[.slice A p.keepers.length cap]), isV (.slice (some ⟨cb, coff, none⟩) (rs.length + 1) cap2), isV (.int .i64 k), isV (.pointer (some ⟨cb, coff + k * 2, none⟩)), isV (.agg #[.int .i64 kr, .string s1]), isV (.agg #[.string u.name, .string u.super, .slice Afu u.fields.length cfu, .slice Amu u.methods.length cmu]), atB 114 #[.string ⟨#[]⟩, .string ⟨#[]⟩, .slice none 0 0, .slice none 0 0] wr.heap.size] [false, false, false, false, false, false, true] [false, false, false, false, false, false, false] ?_ (by kernel_rfl) (by kernel_rfl) ?_ ?_ ?_ ?_
        · intro x hx hb v W h
          simp only [List.zip_cons_cons, List.zip_nil_left, List.mem_cons, List.not_mem_nil, or_false] at hx
          rcases hx with rfl | rfl | rfl | rfl | rfl | rfl | rfl <;> first | (cases hb; done) | exact atB_bk h
        · intro o ho d hd; simp only [List.take_succ_cons, List.take_zero, List.mem_cons, List.not_mem_nil, or_false] at ho; rcases ho with rfl | rfl | rfl | rfl | rfl | rfl | rfl <;> (cases hd; simp)
        · intro x hx
          simp only [List.mem_cons, List.not_mem_nil, or_false] at hx
          rcases hx with rfl | rfl | rfl | rfl | rfl | rfl | rfl
          · exact isV_mono _
          · exact isV_mono _
          · exact isV_mono _
          · exact isV_mono _
          · exact isV_mono _
          · exact isV_mono _
          · exact atB_mono _ _ _
        · intro k o ho a' W hW hoff hdep
          have hbs := hW.size
          have B0 := cr b0
          have F0 := cr f0
          have F1 := cr f1
          have H2 := hoff 2 (by simp)
          have H1 := hoff 1 (by simp)
          have H6 := hoff 6 (by simp)
          simp only [Act.eval] at H2 H1 H6
          simp only [List.take_succ_cons, List.take_zero] at ho hdep
          rcases k with _ | _ | _ | _ | _ | _ | _ | k
          all_goals (first | (simp at ho; done) | skip)
          all_goals simp only [List.getElem?_cons_zero, List.getElem?_cons_succ, Option.some.injEq] at ho
          all_goals subst ho
          · refine ⟨fun h => absurd h (by decide), fun _ => ?_⟩
            unfold opGives
            simp [execOp, Act.eval, go_sem, givesUpon, *]
            exact ⟨Fr.refl _ _, rfl⟩
          · refine ⟨fun h => absurd h (by decide), fun _ => ?_⟩
            unfold opGives
            simp [execOp, Act.eval, H1, go_sem, givesUpon]
            exact ⟨Fr.refl _ _, rfl⟩
          · refine ⟨fun h => absurd h (by decide), fun _ => ?_⟩
            unfold opGives
            simp [execOp, Act.eval, H6, go_sem, givesUpon]
            exact ⟨Fr.refl _ _, rfl⟩
          · have D23 : a'.eval (.tmp 23) = .slice (some ⟨cb, coff, none⟩) (rs.length + 1) cap2 := hdep ⟨1, .data⟩ (by simp) rfl _ 23 rfl rfl
            have D24 : a'.eval (.tmp 24) = .int .i64 k := hdep ⟨2, .data⟩ (by simp) rfl _ 24 rfl rfl
            simp only [Act.eval] at D23 D24
            refine ⟨fun h => absurd h (by decide), fun _ => ?_⟩
            unfold opGives
            simp [execOp, Act.eval, go_sem, givesUpon, ↓IntWalk.iteOmega, *]
            exact ⟨Fr.refl _ _, rfl⟩
          · have D25 : a'.eval (.tmp 25) = .pointer (some ⟨cb, coff + k * 2, none⟩) := hdep ⟨3, .data⟩ (by simp) rfl _ 25 rfl rfl
            simp only [Act.eval] at D25
            refine ⟨fun h => absurd h (by decide), fun _ => ?_⟩
            unfold opGives
            simp [execOp, Act.eval, go_sem, givesUpon, *]
            exact ⟨Fr.refl _ _, rfl⟩
          · have D22 : a'.eval (.tmp 22) = .agg #[.slice A p.keepers.length cap] := hdep ⟨0, .data⟩ (by simp) rfl _ 22 rfl rfl
            have D26 : a'.eval (.tmp 26) = .agg #[.int .i64 kr, .string s1] := hdep ⟨4, .data⟩ (by simp) rfl _ 26 rfl rfl
            simp only [Act.eval] at D22 D26
            refine ⟨fun h => absurd h (by decide), fun _ => ?_⟩
            unfold opGives
            simp [Act.eval, D22, D26, go_sem, givesUpon]
            exact (HCu _ hW).mono fun e w' h => ⟨_, h.1, h.2, rfl⟩
          · refine ⟨fun h => absurd h (by decide), fun _ => ?_⟩
            unfold opGives
            simp [execOp, go_sem, givesUpon]
            exact ⟨(Fr.refl _ _).alloc _, ⟨_, rfl, Bx.new_ rfl, hbs⟩, Nat.le_refl _⟩
        intro vs WR hfr hv hne
        have e0 : vs 0 = _ := hv 0 (by omega)
        have e1 : vs 1 = _ := hv 1 (by omega)
        have e2 : vs 2 = _ := hv 2 (by omega)
        have e3 : vs 3 = _ := hv 3 (by omega)
        have e4 : vs 4 = _ := hv 4 (by omega)
        have e5 : vs 5 = _ := hv 5 (by omega)
        obtain ⟨b7, e6, hb7r, hl7⟩ := hv 6 (by omega)
        simp only [List.take_succ_cons, List.take_zero, List.drop_succ_cons, List.drop_zero, putsL, if_true, Nat.zero_add, Nat.reduceAdd, e0, e1, e2, e3, e4, e5, e6]
        simp only [Act.put, List.setIfInBounds_toArray, List.set_cons_zero, List.set_cons_succ]
        clear e0 e1 e2 e3 e4 e5 e6 hv
        clear hne
        obtain ⟨z0, z1, z2, z3⟩ := hb7r.c4
        have zf := fun j => hb7r.frozen j
        have zl := hb7r.lt
        have B0R := hB.keep hfr
        have B5R := hb5.keep hfr
        have hrl0 := hB.lt
        have hrl5 := hb5.lt
        have hsw0 := hw.size
        go_wp2_with fail
        refine wp_world (fun W => Bx W b7 114 #[.string u.name, .string u.super, .slice Afu u.fields.length cfu, .slice Amu u.methods.length cmu] ∧ Fr No wr W) ⟨Bx.fillZ hb7r, frc⟩ ?_
        rintro W7 ⟨hb7, hf7⟩
        clear z0 z1 z2 z3 zf zl B0R B5R hrl0 hrl5 hsw0 hl7 hb7r hfr
        · skip
          replace hB := hB.keep hf7
          replace hb5 := hb5.keep hf7
          have hw7 : Fr No w W7 := hw.trans0 hf7
          replace g0' := hf7.keep0 g0'
          replace g1' := hf7.keep0 g1'
          replace f0 := hf7.keep0 f0
          replace f1 := hf7.keep0 f1
          obtain ⟨vfu, vmu, he, hz0u, hz1u, hfu, hmu⟩ := hRu
          simp only [List.cons.injEq, true_and, and_true] at he
          obtain ⟨rfl, rfl⟩ := he
          replace hfu := hfu.keep hf7 (fun _ h => h.elim) (fun _ _ _ h => h)
          replace hmu := hmu.keep hf7 (fun _ h => h.elim) (fun _ _ _ h => h.keep hf7 (fun _ h => h.elim))
          have hfc7 := hfc.keep hw7 (fun _ h => h.elim) (fun _ _ _ h => h)
          have hmc7 := hmc.keep hw7 (fun _ h => h.elim) (fun _ _ _ h => h.keep hw7 (fun _ h => h.elim))
          replace hkw := fun W (hW : Fr No W7 W) => hkw W (hw7.trans0 hW)
          have hlens : c.methods.length ≤ maxLen ∧ u.methods.length ≤ maxLen ∧ c.fields.length ≤ maxLen ∧ u.fields.length ≤ maxLen := ⟨hmc.at_.2.2.1, hmu.at_.2.2.1, hfc.at_.2.2.1, hfu.at_.2.2.1⟩
          unfold maxLen at hlens
          obtain ⟨hl1, hl2, hl3, hl4⟩ := hlens
          clear hfc hmc HCu b0 lb d0 d1 d2 d3 l5 lg hw hf7 h hu hall hcbl
          clear wr
          have hm0 : Hid (c.methods.all (overM p k0 kr u) = (c.methods.drop 0).all (overM p k0 kr u)) := rfl
          go_wp2
          obtain ⟨wz, rfl⟩ : ∃ wz : World, wz = W7 := ⟨_, rfl⟩
          go_loopw [8, 4] (fun i r wq => ∃ j : Nat, j ≤ c.methods.length ∧ i = .int .i64 j ∧ r = .bool false ∧ Hid (c.methods.all (overM p k0 kr u) = (c.methods.drop j).all (overM p k0 kr u)) ∧ Fr No wz wq) (fun i _ _ => c.methods.length - (intOf i).toNat)
          case atStart => exact ⟨0, Nat.zero_le _, rfl, rfl, hm0, Fr.refl _ _⟩
          case round =>
            obtain ⟨j, hj, rfl, rfl, hd2, hq⟩ := hrel
            replace hB := hB.keep hq
            replace hb5 := hb5.keep hq
            replace hb7 := hb7.keep hq
            have b0 := hB.c1
            have lb := hB.lt
            obtain ⟨d0, d1, d2, d3⟩ := hb5.c4
            have l5 := hb5.lt
            obtain ⟨v0, v1, v2, v3⟩ := hb7.c4
            have l7 := hb7.lt
            replace g0' := hq.keep0 g0'
            replace f0 := hq.keep0 f0
            have lg := lt_of_cell g0'
            by_cases hlj : j < c.methods.length
            · obtain ⟨bm, om, Aam, cam, Acm, ccm, Axm, cxm, rfl, hXm, c0, c1, c2, c3, c4, c5, c6, c7, hr1, hr2, hr3, hr4, hr5, _, _, _, _, _, _⟩ := (hmc7.keep hq (fun _ h => h.elim) (fun _ _ _ h => h.keep hq (fun _ h => h.elim))).mth hlj
              have hRm : MthC X wr [.string c.methods[j].name, .slice Aam c.methods[j].args.length cam, .int .i64 c.methods[j].ret.kind, .string c.methods[j].ret.name, .int .i64 c.methods[j].locals, .int .i64 c.methods[j].stack, .slice Acm c.methods[j].code.length ccm, .slice Axm c.methods[j].maps.length cxm] c.methods[j] := ⟨_, _, _, rfl, hr1, hr2, hr3, hr4, hr5⟩
              have lm := lt_of_cell c0
              have HM := fun W (h : Fr No wr W) => s_method X _ u.methods c.methods[j].name W (hmu.keep (hq.trans0 h) (fun _ h => h.elim) (fun _ _ _ h9 => h9.keep (hq.trans0 h) (fun _ h => h.elim))) hr1
              have HSH := fun W (h : Fr No wr W) => s_shape X X p _ k0 kr c.methods[j] _ W hp (hkw W (hq.trans0 h)) hk0 hkr (hRm.keep h (fun _ h => h.elim))
              rw [List.drop_eq_getElem_cons hlj, List.all_cons] at hd2
              have hd2 := Lib.hid hd2
              clear hr1 hr2 hr3 hr4 hr5 hmc7 hfc7 hfu hkw
              generalize c.methods[j] = m at *
              have hov : (ixOf (mthIs m.name) u.methods = -1 ∧ Hid (overM p k0 kr u m = true)) ∨ ∃ (i : Nat) (hi : i < u.methods.length), ixOf (mthIs m.name) u.methods = (i : Int) ∧ Hid (overM p k0 kr u m = (sameM m u.methods[i] && agreeM p k0 kr m)) := by
                have hr := ixOf_range (mthIs m.name) u.methods
                by_cases h0 : ixOf (mthIs m.name) u.methods < 0
                · exact .inl ⟨by omega, by show overM p k0 kr u m = true; unfold overM; rw [if_pos h0]⟩
                · refine .inr ⟨(ixOf (mthIs m.name) u.methods).toNat, by omega, by omega, ?_⟩
                  show overM p k0 kr u m = _
                  unfold overM sameM
                  rw [if_neg h0]
                  simp [List.getD, List.getElem?_eq_getElem (show (ixOf (mthIs m.name) u.methods).toNat < u.methods.length by omega)]
              have e5 := fun W (h : Fr No wr W) => (hb5.keep h).c4.2.2.2
              have e7 := fun W (h : Fr No wr W) => (hb7.keep h).c4.2.2.2
              have q0 := fun W (h : Fr No wr W) => h.keep0 c0
              have q1 := fun W (h : Fr No wr W) => h.keep0 c1
              have q2 := fun W (h : Fr No wr W) => h.keep0 c2
              have q3 := fun W (h : Fr No wr W) => h.keep0 c3
              have q4 := fun W (h : Fr No wr W) => h.keep0 c4
              have q5 := fun W (h : Fr No wr W) => h.keep0 c5
              have q6 := fun W (h : Fr No wr W) => h.keep0 c6
              have q7 := fun W (h : Fr No wr W) => h.keep0 c7
              go_wp2_with fail
              (refine wp_region_fr (X := No) (by kernel_rfl) (by kernel_rfl) ?_)
              have gk := g0'
              have fk := f0
              clear b0 d0 d1 d2 d3 v0 v1 v2 v3 c0 c1 c2 c3 c4 c5 c6 c7 g0' f0
              rcases hov with ⟨hix, hov⟩ | ⟨i, hi, hix, hov⟩
              · rw [hix] at HM
                have HS : Hid (c.methods.all (overM p k0 kr u) = (c.methods.drop (j + 1)).all (overM p k0 kr u)) := hd2.out.out.trans (by rw [hov.out, Bool.true_and])
                clear hix hov hd2 HSH
                (repeat (first | (go_big_quiet_skip; (try simp only [Act.put, List.setIfInBounds_toArray, List.set_cons_zero, List.set_cons_succ])) | (go_big_quiet_want; (apply Exists.intro; refine ⟨fun W hW => ?_, ?_⟩); (focus (go_simp; (try simp only [↓IntWalk.iteOmega]); (try simp only [reduceIte]); first | done | exact rfl | exact ⟨trivial, rfl⟩ | exact ⟨rfl, rfl⟩ | (go_at_call 59; exact (HM W hW).mono (fun _ _ h => IntFr.toFr h hW)))); go_big_quiet_on; (try simp only [Act.put, List.setIfInBounds_toArray, List.set_cons_zero, List.set_cons_succ])))); refine wpQuiet_nil ?_
                intro w1 hf1
                clear e5 e7 q0 q1 q2 q3 q4 q5 q6 q7 HM
                go_wp2_with fail
                (refine wp_region_fr (X := No) (by kernel_rfl) (by kernel_rfl) ?_)
                (repeat (first | (go_big_quiet_skip; (try simp only [Act.put, List.setIfInBounds_toArray, List.set_cons_zero, List.set_cons_succ])) | (go_big_quiet_want; (apply Exists.intro; refine ⟨fun W hW => ?_, ?_⟩); (focus (go_simp; (try simp only [↓IntWalk.iteOmega]); (try simp only [reduceIte]); first | done | exact rfl | exact ⟨trivial, rfl⟩ | exact ⟨rfl, rfl⟩ | fail)); go_big_quiet_on; (try simp only [Act.put, List.setIfInBounds_toArray, List.set_cons_zero, List.set_cons_succ])))); refine wpQuiet_nil ?_
                intro w2 hf2
                go_wp2
                go_roundw
                case rel => exact ⟨j + 1, by omega, by go_num, rfl, HS, by exact frc⟩
                case measure => simp [intOf]; omega
              · rw [hix] at HM
                obtain ⟨bn, on, Aan, can, Acn, ccn, Axn, cxn, rfl, hXn, t0, t1, t2, t3, t4, t5, t6, t7, hn1, hn2, hn3, hn4, hn5, _, _, _, _, _, _⟩ := (hmu.keep hq (fun _ h => h.elim) (fun _ _ _ h => h.keep hq (fun _ h => h.elim))).mth hi
                have hRn : MthC X wr [.string u.methods[i].name, .slice Aan u.methods[i].args.length can, .int .i64 u.methods[i].ret.kind, .string u.methods[i].ret.name, .int .i64 u.methods[i].locals, .int .i64 u.methods[i].stack, .slice Acn u.methods[i].code.length ccn, .slice Axn u.methods[i].maps.length cxn] u.methods[i] := ⟨_, _, _, rfl, hn1, hn2, hn3, hn4, hn5⟩
                have HSM := fun W (h : Fr No wr W) => s_same X X m u.methods[i] _ _ W (hRm.keep h (fun _ h => h.elim)) (hRn.keep h (fun _ h => h.elim))
                have ln := lt_of_cell t0
                have hii : (i : Int).toNat = i := by omega
                clear hix hn1 hn2 hn3 hn4 hn5 hRm hRn hmu
                generalize u.methods[i] = mu at *
                have y0 := fun W (h : Fr No wr W) => h.keep0 t0
                have y1 := fun W (h : Fr No wr W) => h.keep0 t1
                have y2 := fun W (h : Fr No wr W) => h.keep0 t2
                have y3 := fun W (h : Fr No wr W) => h.keep0 t3
                have y4 := fun W (h : Fr No wr W) => h.keep0 t4
                have y5 := fun W (h : Fr No wr W) => h.keep0 t5
                have y6 := fun W (h : Fr No wr W) => h.keep0 t6
                have y7 := fun W (h : Fr No wr W) => h.keep0 t7
                have gk' := fun W (h : Fr No wr W) => h.keep0 gk
                have fk' := fun W (h : Fr No wr W) => h.keep0 fk
                have bk' := fun W (h : Fr No wr W) => (hB.keep h).c1
                clear t0 t1 t2 t3 t4 t5 t6 t7 gk fk
                (repeat (first | (go_big_quiet_skip; (try simp only [Act.put, List.setIfInBounds_toArray, List.set_cons_zero, List.set_cons_succ])) | (go_big_quiet_want; (apply Exists.intro; refine ⟨fun W hW => ?_, ?_⟩); (focus (go_simp; (try simp only [↓IntWalk.iteOmega]); (try simp only [reduceIte]); first | done | exact rfl | exact ⟨trivial, rfl⟩ | exact ⟨rfl, rfl⟩ | (go_at_call 59; exact (HM W hW).mono (fun _ _ h => IntFr.toFr h hW)))); go_big_quiet_on; (try simp only [Act.put, List.setIfInBounds_toArray, List.set_cons_zero, List.set_cons_succ])))); refine wpQuiet_nil ?_
                intro w1 hf1
                clear HM
                replace e5 := fun W (h : Fr No w1 W) => e5 W (hf1.trans0 h)
                replace e7 := fun W (h : Fr No w1 W) => e7 W (hf1.trans0 h)
                replace q0 := fun W (h : Fr No w1 W) => q0 W (hf1.trans0 h)
                replace q1 := fun W (h : Fr No w1 W) => q1 W (hf1.trans0 h)
                replace q2 := fun W (h : Fr No w1 W) => q2 W (hf1.trans0 h)
                replace q3 := fun W (h : Fr No w1 W) => q3 W (hf1.trans0 h)
                replace q4 := fun W (h : Fr No w1 W) => q4 W (hf1.trans0 h)
                replace q5 := fun W (h : Fr No w1 W) => q5 W (hf1.trans0 h)
                replace q6 := fun W (h : Fr No w1 W) => q6 W (hf1.trans0 h)
                replace q7 := fun W (h : Fr No w1 W) => q7 W (hf1.trans0 h)
                replace y0 := fun W (h : Fr No w1 W) => y0 W (hf1.trans0 h)
                replace y1 := fun W (h : Fr No w1 W) => y1 W (hf1.trans0 h)
                replace y2 := fun W (h : Fr No w1 W) => y2 W (hf1.trans0 h)
                replace y3 := fun W (h : Fr No w1 W) => y3 W (hf1.trans0 h)
                replace y4 := fun W (h : Fr No w1 W) => y4 W (hf1.trans0 h)
                replace y5 := fun W (h : Fr No w1 W) => y5 W (hf1.trans0 h)
                replace y6 := fun W (h : Fr No w1 W) => y6 W (hf1.trans0 h)
                replace y7 := fun W (h : Fr No w1 W) => y7 W (hf1.trans0 h)
                replace gk' := fun W (h : Fr No w1 W) => gk' W (hf1.trans0 h)
                replace fk' := fun W (h : Fr No w1 W) => fk' W (hf1.trans0 h)
                replace bk' := fun W (h : Fr No w1 W) => bk' W (hf1.trans0 h)
                replace HSM := fun W (h : Fr No w1 W) => HSM W (hf1.trans0 h)
                replace HSH := fun W (h : Fr No w1 W) => HSH W (hf1.trans0 h)
                have hcase : sameM m mu = false ∨ (sameM m mu = true ∧ agreeM p k0 kr m = false) ∨ (sameM m mu = true ∧ agreeM p k0 kr m = true) := by
                  cases sameM m mu <;> cases agreeM p k0 kr m <;> simp
                have hl5' := Nat.lt_of_lt_of_le l5 hf1.size
                have hl7' := Nat.lt_of_lt_of_le l7 hf1.size
                have hlm' := Nat.lt_of_lt_of_le lm hf1.size
                have hln' := Nat.lt_of_lt_of_le ln hf1.size
                have hlb' := Nat.lt_of_lt_of_le lb hf1.size
                have hlg' := Nat.lt_of_lt_of_le lg hf1.size
                go_wp2_with fail
                (refine wp_region_fr (X := No) (by kernel_rfl) (by kernel_rfl) ?_)
                rcases hcase with g1 | ⟨g1, g2⟩ | ⟨g1, g2⟩
                · rw [g1] at HSM
                  have HS : Hid (rs.all (pairB p ⟨k0, s0⟩) = false) := hd.out.out.trans (by rw [hpair.out, hd2.out.out, hov.out, g1]; simp)
                  clear g1 hov hd2 hd hpair HSH
                  (repeat (first | (go_big_quiet_skip; (try simp only [Act.put, List.setIfInBounds_toArray, List.set_cons_zero, List.set_cons_succ])) | (go_big_quiet_want; (apply Exists.intro; refine ⟨fun W hW => ?_, ?_⟩); (focus (go_simp; (try simp only [↓IntWalk.iteOmega]); (try simp only [reduceIte]); first | done | exact rfl | exact ⟨trivial, rfl⟩ | exact ⟨rfl, rfl⟩ | (go_at_call 103; exact (HSM W hW).mono (fun _ _ h => BoolFr.toFr h hW)))); go_big_quiet_on; (try simp only [Act.put, List.setIfInBounds_toArray, List.set_cons_zero, List.set_cons_succ])))); refine wpQuiet_nil ?_
                  intro w2 hf2
                  clear e5 e7 q0 q1 q2 q3 q4 q5 q6 q7 y0 y1 y2 y3 y4 y5 y6 y7 gk' fk' bk' HSM
                  go_wp2
                  go_ret
                  exact .mk HS.out.symm (by exact frc)
                · rw [g1] at HSM
                  rw [g2] at HSH
                  have HS : Hid (rs.all (pairB p ⟨k0, s0⟩) = false) := hd.out.out.trans (by rw [hpair.out, hd2.out.out, hov.out, g1, g2]; simp)
                  clear g1 g2 hov hd2 hd hpair
                  (repeat (first | (go_big_quiet_skip; (try simp only [Act.put, List.setIfInBounds_toArray, List.set_cons_zero, List.set_cons_succ])) | (go_big_quiet_want; (apply Exists.intro; refine ⟨fun W hW => ?_, ?_⟩); (focus (go_simp; (try simp only [↓IntWalk.iteOmega]); (try simp only [reduceIte]); first | done | exact rfl | exact ⟨trivial, rfl⟩ | exact ⟨rfl, rfl⟩ | (go_at_call 103; exact (HSM W hW).mono (fun _ _ h => BoolFr.toFr h hW)) | (go_at_call 33; exact (HSH W hW).mono (fun _ _ h => BoolFr.toFr h hW)))); go_big_quiet_on; (try simp only [Act.put, List.setIfInBounds_toArray, List.set_cons_zero, List.set_cons_succ])))); refine wpQuiet_nil ?_
                  intro w2 hf2
                  clear e5 e7 q0 q1 q2 q3 q4 q5 q6 q7 y0 y1 y2 y3 y4 y5 y6 y7 gk' fk' bk' HSM HSH
                  go_wp2
                  go_ret
                  exact .mk HS.out.symm (by exact frc)
                · rw [g1] at HSM
                  rw [g2] at HSH
                  have HS : Hid (c.methods.all (overM p k0 kr u) = (c.methods.drop (j + 1)).all (overM p k0 kr u)) := hd2.out.out.trans (by rw [hov.out, g1, g2]; rfl)
                  clear g1 g2 hov hd2
                  (repeat (first | (go_big_quiet_skip; (try simp only [Act.put, List.setIfInBounds_toArray, List.set_cons_zero, List.set_cons_succ])) | (go_big_quiet_want; (apply Exists.intro; refine ⟨fun W hW => ?_, ?_⟩); (focus (go_simp; (try simp only [↓IntWalk.iteOmega]); (try simp only [reduceIte]); first | done | exact rfl | exact ⟨trivial, rfl⟩ | exact ⟨rfl, rfl⟩ | (go_at_call 103; exact (HSM W hW).mono (fun _ _ h => BoolFr.toFr h hW)) | (go_at_call 33; exact (HSH W hW).mono (fun _ _ h => BoolFr.toFr h hW)))); go_big_quiet_on; (try simp only [Act.put, List.setIfInBounds_toArray, List.set_cons_zero, List.set_cons_succ])))); refine wpQuiet_nil ?_
                  intro w2 hf2
                  clear e5 e7 q0 q1 q2 q3 q4 q5 q6 q7 y0 y1 y2 y3 y4 y5 y6 y7 gk' fk' bk' HSM HSH
                  go_wp2
                  go_roundw
                  case rel => exact ⟨j + 1, by omega, by go_num, rfl, HS, by exact frc⟩
                  case measure => simp [intOf]; omega
            · have HSm : Hid (c.methods.all (overM p k0 kr u) = true) := by have := hd2.out; rwa [List.drop_eq_nil_of_le (by omega)] at this
              have hwq : Fr No w wr := hw7.trans0 hq
              clear hd2 hmc7 hmu hkw
              go_wp2
              clear b0 lb d0 d1 d2 d3 l5 v0 v1 v2 v3 l7 g0' f0 lg
              obtain ⟨wy, rfl⟩ : ∃ wy : World, wy = wr := ⟨_, rfl⟩
              have hf0 : Hid (c.fields.all (fun f => decide (ixOf (fldIs f.name) u.fields < 0)) = (c.fields.drop 0).all (fun f => decide (ixOf (fldIs f.name) u.fields < 0))) := rfl
              go_loopw [10, 4] (fun i r wx => ∃ j : Nat, j ≤ c.fields.length ∧ i = .int .i64 j ∧ r = .bool false ∧ Hid (c.fields.all (fun f => decide (ixOf (fldIs f.name) u.fields < 0)) = (c.fields.drop j).all (fun f => decide (ixOf (fldIs f.name) u.fields < 0))) ∧ Fr No wy wx) (fun i _ _ => c.fields.length - (intOf i).toNat)
              case atStart => exact ⟨0, Nat.zero_le _, rfl, rfl, hf0, Fr.refl _ _⟩
              case round =>
                obtain ⟨j, hj, rfl, rfl, hd2, hx⟩ := hrel
                clear hf0
                replace hB := hB.keep hx
                replace hb5 := hb5.keep hx
                replace hb7 := hb7.keep hx
                have hqx := hq.trans0 hx
                obtain ⟨d0, d1, d2, d3⟩ := hb5.c4
                have l5 := hb5.lt
                obtain ⟨v0, v1, v2, v3⟩ := hb7.c4
                have l7 := hb7.lt
                by_cases hlj : j < c.fields.length
                · obtain ⟨bm, om, rfl, hXm, c0, c1, c2, hr1, hr2⟩ := (hfc7.keep hqx (fun _ h => h.elim) (fun _ _ _ h => h)).fld hlj
                  have lm := lt_of_cell c0
                  have HM := fun W (h : Fr No wr W) => s_field X _ u.fields c.fields[j].name W (hfu.keep (hqx.trans0 h) (fun _ h => h.elim) (fun _ _ _ h9 => h9)) hr1
                  rw [List.drop_eq_getElem_cons hlj, List.all_cons] at hd2
                  have hd2 := Lib.hid hd2
                  clear hr1 hr2 hfc7 hfu
                  generalize c.fields[j] = m at *
                  have hov : (ixOf (fldIs m.name) u.fields = -1) ∨ 0 ≤ ixOf (fldIs m.name) u.fields := by have := ixOf_range (fldIs m.name) u.fields; omega
                  generalize ixOf (fldIs m.name) u.fields = ix at *
                  have e5 := fun W (h : Fr No wr W) => (hb5.keep h).c4.2.2.1
                  have e7 := fun W (h : Fr No wr W) => (hb7.keep h).c4.2.2.1
                  have q0 := fun W (h : Fr No wr W) => h.keep0 c0
                  have q1 := fun W (h : Fr No wr W) => h.keep0 c1
                  have q2 := fun W (h : Fr No wr W) => h.keep0 c2
                  go_wp2_with fail
                  (refine wp_region_fr (X := No) (by kernel_rfl) (by kernel_rfl) ?_)
                  clear d0 d1 d2 d3 v0 v1 v2 v3 c0 c1 c2
                  rcases hov with rfl | hov
                  · have HS : Hid (c.fields.all (fun f => decide (ixOf (fldIs f.name) u.fields < 0)) = (c.fields.drop (j + 1)).all (fun f => decide (ixOf (fldIs f.name) u.fields < 0))) := hd2.out.out.trans (by simp)
                    clear hd2
                    (repeat (first | (go_big_quiet_skip; (try simp only [Act.put, List.setIfInBounds_toArray, List.set_cons_zero, List.set_cons_succ])) | (go_big_quiet_want; (apply Exists.intro; refine ⟨fun W hW => ?_, ?_⟩); (focus (go_simp; (try simp only [↓IntWalk.iteOmega]); (try simp only [reduceIte]); first | done | exact rfl | exact ⟨trivial, rfl⟩ | exact ⟨rfl, rfl⟩ | (go_at_call 80; exact (HM W hW).mono (fun _ _ h => IntFr.toFr h hW)))); go_big_quiet_on; (try simp only [Act.put, List.setIfInBounds_toArray, List.set_cons_zero, List.set_cons_succ])))); refine wpQuiet_nil ?_
                    intro w2 hf2
                    clear e5 e7 q0 q1 q2 HM
                    go_wp2
                    go_roundw
                    case rel => exact ⟨j + 1, by omega, by go_num, rfl, HS, by exact frc⟩
                    case measure => simp [intOf]; omega
                  · have HS : Hid (rs.all (pairB p ⟨k0, s0⟩) = false) := hd.out.out.trans (by rw [hpair.out, hd2.out.out, decide_eq_false (show ¬ ix < 0 by omega)]; simp)
                    clear hd2 hd hpair
                    (repeat (first | (go_big_quiet_skip; (try simp only [Act.put, List.setIfInBounds_toArray, List.set_cons_zero, List.set_cons_succ])) | (go_big_quiet_want; (apply Exists.intro; refine ⟨fun W hW => ?_, ?_⟩); (focus (go_simp; (try simp only [↓IntWalk.iteOmega]); (try simp only [reduceIte]); first | done | exact rfl | exact ⟨trivial, rfl⟩ | exact ⟨rfl, rfl⟩ | (go_at_call 80; exact (HM W hW).mono (fun _ _ h => IntFr.toFr h hW)))); go_big_quiet_on; (try simp only [Act.put, List.setIfInBounds_toArray, List.set_cons_zero, List.set_cons_succ])))); refine wpQuiet_nil ?_
                    intro w2 hf2
                    clear e5 e7 q0 q1 q2 HM
                    go_wp2
                    go_ret
                    exact .mk HS.out.symm (by exact frc)
                · have HSf : Hid (c.fields.all (fun f => decide (ixOf (fldIs f.name) u.fields < 0)) = true) := by have := hd2.out; rwa [List.drop_eq_nil_of_le (by omega)] at this
                  have HS : Hid (rs.all (pairB p ⟨k0, s0⟩) = (rs.drop (k + 1 - 1)).all (pairB p ⟨k0, s0⟩)) := hd.out.out.trans (by rw [hpair.out, HSf.out, HSm.out]; simp)
                  clear hd2 hfc7 hfu hd hpair
                  go_wp2
                  go_roundw
                  case rel => exact ⟨k + 1, by omega, by omega, by go_num, rfl, HS, hB, hb5, by exact frc⟩
                  case measure => simp [intOf]; omega
      · have HS : Hid (rs.all (pairB p ⟨k0, s0⟩) = true) := by have := hd.out; rwa [List.drop_eq_nil_of_le (by omega)] at this
        clear h hkw hu hd hfc hmc
        go_wp2
        go_ret
        exact .mk HS.out.symm (by exact frc)
end Go.Proofs.YtghmnkafpnkojaaGreatDoor
