/- A keeper is noted: its classes and whom it asks. -/
import Derived.Test.YtghmnkafpnkojaaGreatDoorLdg
namespace Go.Proofs.YtghmnkafpnkojaaGreatDoor
open Go.RowKit

theorem EnterPost.yes {y : Kpr} {many k : Int} {bo ba no na : Nat} {f g : Int → Str → Option Int} {w w' : World} (h : kprB many y = true) (hf : Fr (fun b => b = bo ∨ b = ba) w w')
    (hm : MapF w' bo (no + 5) (ownP f k y.owns) ∧ MapF w' ba (na + 4) (askP g k y.asks)) : EnterPost y many k bo ba no na f g w (.returned (.bool true)) w' :=
  ⟨by rw [h], hf, fun _ => hm⟩

set_option maxRecDepth 100000 in
set_option maxHeartbeats 8000000 in
theorem enter_ok (p : Plan) (k : Nat) (hk : k < p.keepers.length) (hlen3 : p.keepers.length ≤ 3) (A : Option Addr) (cap l bo ba bl no na : Nat) (f g : Int → Str → Option Int) (w : World)
    (hB : Bx w l 90 #[.slice A p.keepers.length cap, .map (some bo), .map (some ba), .map (some bl)])
    (hlo : l ≠ bo) (hla : l ≠ ba) (hoa : bo ≠ ba)
    (hP : Sl (fun b => b = bo ∨ b = ba) w 2 (KprC (fun b => b = bo ∨ b = ba) w) (.slice A p.keepers.length cap) p.keepers)
    (hO : MapF w bo no f) (hA : MapF w ba na g) (hno : no ≤ 100) (hna : na ≤ 100) (hf : ∀ s, f k s = none) (hg : ∀ s, g k s = none) :
    Calls Tryz.prog 36 #[.pointer (some ⟨l, 0, none⟩), .int .i64 k] w (EnterPost p.keepers[k] p.keepers.length k bo ba no na f g w) := by
  obtain ⟨b, off, Ao, co, Aa, ca, rfl, hX, c0, c1, hown, hask, hoc, hom, hac, ham⟩ := hP.kpr hk
  generalize hy : p.keepers[k] = y at *
  clear hP hy
  unfold maxLen at hom ham
  obtain ⟨e0, e1, e2, e3⟩ := hB.c4
  have hl := hB.lt
  have hbl := lt_of_cell c0
  have wk : (Lit.int .i64 (k : Int)).wf = true := wf_small (by omega) (by omega)
  have hkk : (k : Int).toNat = k := by omega
  have hbol := hO.lt
  have hbal := hA.lt
  -- the keeper's copy
  have hK := Bx.new w 72 #[.slice Ao y.owns.length co, .slice Aa y.asks.length ca]
  have hw0 : Fr (fun b => b = bo ∨ b = ba) w (w.alloc (.cells #[.slice Ao y.owns.length co, .slice Aa y.asks.length ca] 72)) := (Fr.refl _ w).alloc _
  have hO0 := hO.keep ((Fr.refl No w).alloc (.cells #[.slice Ao y.owns.length co, .slice Aa y.asks.length ca] 72))
  have hB0 := hB.alloc (.cells #[.slice Ao y.owns.length co, .slice Aa y.asks.length ca] 72)
  have hcase : 5 < y.owns.length ∨ (y.owns.length ≤ 5 ∧ 4 < y.asks.length) ∨ (y.owns.length ≤ 5 ∧ y.asks.length ≤ 4) := by omega
  rcases hcase with g1 | ⟨g1, g2⟩ | ⟨g1, g2⟩
  all_goals
    go_enter Tryz.func36, Tryz.ntmps36
    go_wp2
  · go_ret; exact EnterPost.no (kprB_no (.inl g1)) hw0
  · go_ret; exact EnterPost.no (kprB_no (.inr (.inl g2))) hw0
  clear e0 e1 e2 e3 c0 c1 hB
  go_loopw [36, 4] (fun i r wr => ∃ j : Nat, j ≤ y.owns.length ∧ i = .int .i64 j ∧ r = .bool false ∧ Hid (ownsGo [] y.owns = ownsGo (y.owns.take j) (y.owns.drop j)) ∧
    MapF wr bo (no + j) (ownP f k (y.owns.take j)) ∧ Bx wr w.heap.size 72 #[.slice Ao y.owns.length co, .slice Aa y.asks.length ca] ∧
    Fr (fun b => b = bo) (w.alloc (.cells #[.slice Ao y.owns.length co, .slice Aa y.asks.length ca] 72)) wr) (fun i _ _ => y.owns.length - (intOf i).toNat)
  case atStart => exact ⟨0, Nat.zero_le _, rfl, rfl, rfl, hO0.congr (fun q s => by unfold ownP; by_cases h : q = k; (· subst h; rw [if_pos rfl, hf]; rfl); rw [if_neg h]), hK, Fr.refl _ _⟩
  case round =>
    clear hO0 hO
    obtain ⟨j, hj, rfl, rfl, hd, hO', hK', hwr⟩ := hrel
    have hB' := hB0.keepX hwr hlo
    obtain ⟨e0, e1, e2, e3⟩ := hB'.c4
    have hl' := hB'.lt
    obtain ⟨d0, d1⟩ := hK'.c2
    have hKl := hK'.lt
    have hbol' := hO'.lt
    have hw : Fr (fun b => b = bo ∨ b = ba) w wr := hw0.trans hwr (fun b _ h => .inl h)
    by_cases hlt : j < y.owns.length
    · have hownw := hown.keep hw (fun _ h => h) (fun _ _ _ h => h.keep hw (fun _ h => h))
      obtain ⟨b2, off2, Af, cf, Am, cm, hAo, hX2, c0, c1, c2, c3, hz0, hz1, hcf, hcm, _, _, _, _⟩ := hownw.cls hlt
      have hR : ClsC (fun b => b = bo ∨ b = ba) wr [.string y.owns[j].name, .string y.owns[j].super, .slice Af y.owns[j].fields.length cf, .slice Am y.owns[j].methods.length cm] y.owns[j] := ⟨_, _, rfl, hz0, hz1, hcf, hcm⟩
      subst hAo
      have hbl2 := lt_of_cell c0
      have hd := Lib.hid (ownsGo_step hlt hd.out)
      have hstep := fun hn => ownP_step (f := f) (k := (k : Int)) hlt hn
      clear hownw hcf hcm hown
      generalize hc : y.owns[j] = c at *
      clear hc
      have HC := fun W (h : Fr No wr W) => cls_ok _ c _ W (hR.keep h (fun _ h => h.elim))
      clear hR
      have hBA := (hB'.alloc (.cells #[.string c.name, .string c.super, .slice Af c.fields.length cf, .slice Am c.methods.length cm] 114)).alloc (.cells #[.int .i64 k, .string c.name] 27)
      have hCA := (Bx.new wr 114 #[.string c.name, .string c.super, .slice Af c.fields.length cf, .slice Am c.methods.length cm]).alloc (.cells #[.int .i64 k, .string c.name] 27)
      have hKA : Bx ((wr.alloc (.cells #[.string c.name, .string c.super, .slice Af c.fields.length cf, .slice Am c.methods.length cm] 114)).alloc (.cells #[.int .i64 k, .string c.name] 27)) (wr.heap.size + 1) 27 #[.int .i64 k, .string c.name] := Bx.new_ (by simp)
      have hOA := hO'.keep ((Fr.refl No wr).alloc (.cells #[.string c.name, .string c.super, .slice Af c.fields.length cf, .slice Am c.methods.length cm] 114) |>.alloc (.cells #[.int .i64 k, .string c.name] 27))
      have hfA : Fr No wr ((wr.alloc (.cells #[.string c.name, .string c.super, .slice Af c.fields.length cf, .slice Am c.methods.length cm] 114)).alloc (.cells #[.int .i64 k, .string c.name] 27)) := ((Fr.refl No wr).alloc _).alloc _
      have q0 := fun W (h : Fr No ((wr.alloc (.cells #[.string c.name, .string c.super, .slice Af c.fields.length cf, .slice Am c.methods.length cm] 114)).alloc (.cells #[.int .i64 k, .string c.name] 27)) W) => (hBA.keep h).c4.1
      have q1 := fun W (h : Fr No ((wr.alloc (.cells #[.string c.name, .string c.super, .slice Af c.fields.length cf, .slice Am c.methods.length cm] 114)).alloc (.cells #[.int .i64 k, .string c.name] 27)) W) => (hBA.keep h).c4.2.1
      have q2 := fun W (h : Fr No ((wr.alloc (.cells #[.string c.name, .string c.super, .slice Af c.fields.length cf, .slice Am c.methods.length cm] 114)).alloc (.cells #[.int .i64 k, .string c.name] 27)) W) => (hKA.keep h).c2.1
      have q3 := fun W (h : Fr No ((wr.alloc (.cells #[.string c.name, .string c.super, .slice Af c.fields.length cf, .slice Am c.methods.length cm] 114)).alloc (.cells #[.int .i64 k, .string c.name] 27)) W) => (hKA.keep h).c2.2
      have hcase : (y.owns.take j).all (fun g => !clsIs c.name g) = false ∨ ((y.owns.take j).all (fun g => !clsIs c.name g) = true ∧ clsB c = false) ∨ ((y.owns.take j).all (fun g => !clsIs c.name g) = true ∧ clsB c = true) := by
        cases (y.owns.take j).all (fun g => !clsIs c.name g) <;> cases clsB c <;> simp
      rcases hcase with g3 | ⟨g3, g4⟩ | ⟨g3, g4⟩
      · obtain ⟨v, hv⟩ := ixOpt_some g3
        have hlook := fun W (h : Fr No ((wr.alloc (.cells #[.string c.name, .string c.super, .slice Af c.fields.length cf, .slice Am c.methods.length cm] 114)).alloc (.cells #[.int .i64 k, .string c.name] 27)) W) => (hOA.keep h).look_some (v := v) wk hz0 (by unfold ownP; rw [if_pos rfl]; exact hv)
        have HS : Hid (kprB p.keepers.length y = false) := kprB_no (.inr (.inr (.inl (by rw [hd.out, g3]; simp))))
        clear g3 hv hd hstep HC
        go_wp2_with fail
        (refine wp_region_fr (X := No) (by kernel_rfl) (by kernel_rfl) ?_)
        clear e0 e1 e2 e3 d0 d1 c0 c1 c2 c3
        (repeat (first | (go_big_quiet_skip; (try simp only [Act.put, List.setIfInBounds_toArray, List.set_cons_zero, List.set_cons_succ])) | (go_big_quiet_want; (apply Exists.intro; refine ⟨fun W hW => ?_, ?_⟩); (focus (go_simp; (try simp only [↓IntWalk.iteOmega]); (try simp only [reduceIte]); first | done | exact rfl | exact ⟨trivial, rfl⟩ | exact ⟨rfl, rfl⟩ | fail)); go_big_quiet_on; (try simp only [Act.put, List.setIfInBounds_toArray, List.set_cons_zero, List.set_cons_succ])))); refine wpQuiet_nil ?_
        intro w1 hf1
        clear q0 q1 q2 q3 hlook
        go_wp2
        go_ret
        exact EnterPost.no HS.out ((hw.trans0 hfA).trans0 hf1)
      · have hlook := fun W (h : Fr No ((wr.alloc (.cells #[.string c.name, .string c.super, .slice Af c.fields.length cf, .slice Am c.methods.length cm] 114)).alloc (.cells #[.int .i64 k, .string c.name] 27)) W) => (hOA.keep h).look_none wk hz0 (by unfold ownP; rw [if_pos rfl]; exact ixOpt_all g3)
        have HS : Hid (kprB p.keepers.length y = false) := kprB_no (.inr (.inr (.inl (by rw [hd.out, g4]; rfl))))
        rw [g4] at HC
        clear g3 g4 hd hstep
        go_wp2_with fail
        (refine wp_region_fr (X := No) (by kernel_rfl) (by kernel_rfl) ?_)
        clear e0 e1 e2 e3 d0 d1 c0 c1 c2 c3
        (repeat (first | (go_big_quiet_skip; (try simp only [Act.put, List.setIfInBounds_toArray, List.set_cons_zero, List.set_cons_succ])) | (go_big_quiet_want; (apply Exists.intro; refine ⟨fun W hW => ?_, ?_⟩); (focus (go_simp; (try simp only [↓IntWalk.iteOmega]); (try simp only [reduceIte]); first | done | exact rfl | exact ⟨trivial, rfl⟩ | exact ⟨rfl, rfl⟩ | fail)); go_big_quiet_on; (try simp only [Act.put, List.setIfInBounds_toArray, List.set_cons_zero, List.set_cons_succ])))); refine wpQuiet_nil ?_
        intro w1 hf1
        clear q0 q1 q2 q3 hlook
        obtain ⟨c0, c1, c2, c3⟩ := (hCA.keep hf1).c4
        have hl1 := (hCA.keep hf1).lt
        go_wp2_with (go_at_call 62; refine (HC _ (hfA.trans0 hf1)).mono ?_; rintro e w2 ⟨rfl, hf2⟩)
        go_ret
        exact EnterPost.no HS.out (((hw.trans0 hfA).trans0 hf1).trans0 hf2)
      · have hlook := fun W (h : Fr No ((wr.alloc (.cells #[.string c.name, .string c.super, .slice Af c.fields.length cf, .slice Am c.methods.length cm] 114)).alloc (.cells #[.int .i64 k, .string c.name] 27)) W) => (hOA.keep h).look_none wk hz0 (by unfold ownP; rw [if_pos rfl]; exact ixOpt_all g3)
        have HS : Hid (ownsGo [] y.owns = ownsGo (y.owns.take (j + 1)) (y.owns.drop (j + 1))) := by
          have := hd.out; rwa [g3, g4, Bool.true_and, Bool.true_and] at this
        have hstep := Lib.hid (hstep (ixOpt_all g3))
        rw [g4] at HC
        clear g3 g4 hd
        go_wp2_with fail
        (refine wp_region_fr (X := No) (by kernel_rfl) (by kernel_rfl) ?_)
        clear e0 e1 e2 e3 d0 d1 c0 c1 c2 c3
        (repeat (first | (go_big_quiet_skip; (try simp only [Act.put, List.setIfInBounds_toArray, List.set_cons_zero, List.set_cons_succ])) | (go_big_quiet_want; (apply Exists.intro; refine ⟨fun W hW => ?_, ?_⟩); (focus (go_simp; (try simp only [↓IntWalk.iteOmega]); (try simp only [reduceIte]); first | done | exact rfl | exact ⟨trivial, rfl⟩ | exact ⟨rfl, rfl⟩ | fail)); go_big_quiet_on; (try simp only [Act.put, List.setIfInBounds_toArray, List.set_cons_zero, List.set_cons_succ])))); refine wpQuiet_nil ?_
        intro w1 hf1
        clear q0 q1 q2 q3 hlook
        obtain ⟨c0, c1, c2, c3⟩ := (hCA.keep hf1).c4
        have hl1 := (hCA.keep hf1).lt
        go_wp2_with (go_at_call 62; refine (HC _ (hfA.trans0 hf1)).mono ?_; rintro e w2 ⟨rfl, hf2⟩)
        have hf12 := hf1.trans0 hf2
        have hB2 := hBA.keep hf12
        have hK2 := hKA.keep hf12
        have hO2 := hOA.keep hf12
        obtain ⟨e0, e1, e2, e3⟩ := hB2.c4
        obtain ⟨k0, k1⟩ := hK2.c2
        have hl2 := hB2.lt
        have hkl2 := hK2.lt
        go_still_tail 6, (by kernel_rfl)
        refine wpList_put rfl _ _ _ rfl rfl (hO2.keep (Fr.drew (Fr.refl No w2))) (by unfold maxLen; omega) rfl rfl wk hz0 (wf_small (by omega) (by omega)) ?_
        intro w3 hO3 hg3
        have h1 : Fr (fun b => b = bo) wr w3 := Fr.grown (((hfA.trans0 hf12).mono (fun _ _ h => h.elim)).drew) hg3 (fun q e => .inr (by cases e; rfl))
        have hK3 := hK'.keepX h1 (by first | omega | (dsimp only; omega))
        clear e0 e1 e2 e3 k0 k1 c0 c1 c2 c3 hl2 hkl2
        go_frame
        go_wp2
        go_roundw
        case rel => exact ⟨j + 1, by omega, by go_num, rfl, HS, hO3.congr (fun q s => hstep.out q s), hK3, hwr.same h1⟩
        case measure => simp [intOf]; omega
    · have G1 : Hid (ownsGo [] y.owns = true) := by have := hd.out; rwa [List.drop_eq_nil_of_le (by omega)] at this
      have hOz : MapF wr bo (no + 5) (ownP f k y.owns) := by
        have := hO'
        rw [List.take_of_length_le (by omega)] at this
        exact this.mono (by omega)
      have hAz := (hA.keep ((Fr.refl No w).alloc (.cells #[.slice Ao y.owns.length co, .slice Aa y.asks.length ca] 72))).keepX hwr (by first | omega | (dsimp only; omega))
      clear hown hd hO' hA hwr
      go_wp2
      obtain ⟨wz, rfl⟩ : ∃ wz : World, wz = wr := ⟨_, rfl⟩
      go_loopw [70, 4] (fun i r wr => ∃ j : Nat, j ≤ y.asks.length ∧ i = .int .i64 j ∧ r = .bool false ∧ Hid (asksGo p.keepers.length [] y.asks = asksGo p.keepers.length (y.asks.take j) (y.asks.drop j)) ∧
        MapF wr ba (na + j) (askP g k (y.asks.take j)) ∧ Fr (fun b => b = ba) wz wr) (fun i _ _ => y.asks.length - (intOf i).toNat)
      case atStart => exact ⟨0, Nat.zero_le _, rfl, rfl, rfl, hAz.congr (fun q s => by unfold askP; by_cases h : q = k; (· subst h; rw [if_pos rfl, hg]; rfl); rw [if_neg h]), Fr.refl _ _⟩
      case round =>
        clear hAz e0 e1 e2 e3 d0 d1
        obtain ⟨j, hj, rfl, rfl, hd, hA', hwr⟩ := hrel
        have hBr := hB'.keepX hwr hla
        obtain ⟨e0, e1, e2, e3⟩ := hBr.c4
        have hlr := hBr.lt
        have hwy : Fr (fun b => b = bo ∨ b = ba) w wr := hw.trans hwr (fun b _ h => .inr h)
        by_cases hlt : j < y.asks.length
        · have haskw := hask.keep hwy (fun _ h => h) (fun _ _ _ h => h)
          obtain ⟨b2, off2, hAo, hX2, c0, c1, hz0⟩ := haskw.ask hlt
          subst hAo
          have hbl2 := lt_of_cell c0
          have hd := Lib.hid (asksGo_step hlt hd.out)
          have hstep := fun hn => askP_step (f := g) (k := (k : Int)) hlt hn
          clear haskw hask
          generalize hc : y.asks[j] = a at *
          clear hc
          have HN := fun W => nam_ok a.name W hz0
          have HH := fun W (h : Fr No wr W) => has_ok l p.keepers.length cap _ _ _ _ a.keeper W (hBr.keep h) (by unfold maxLen; omega)
          have hBA := (hBr.alloc (.cells #[.string a.name, .int .i64 a.keeper] 122)).alloc (.cells #[.int .i64 k, .string a.name] 27)
          have hCA := (Bx.new wr 122 #[.string a.name, .int .i64 a.keeper]).alloc (.cells #[.int .i64 k, .string a.name] 27)
          have hKA : Bx ((wr.alloc (.cells #[.string a.name, .int .i64 a.keeper] 122)).alloc (.cells #[.int .i64 k, .string a.name] 27)) (wr.heap.size + 1) 27 #[.int .i64 k, .string a.name] := Bx.new_ (by simp)
          have hOA := hA'.keep ((Fr.refl No wr).alloc (.cells #[.string a.name, .int .i64 a.keeper] 122) |>.alloc (.cells #[.int .i64 k, .string a.name] 27))
          have hfA : Fr No wr ((wr.alloc (.cells #[.string a.name, .int .i64 a.keeper] 122)).alloc (.cells #[.int .i64 k, .string a.name] 27)) := ((Fr.refl No wr).alloc _).alloc _
          have q0 := fun W (h : Fr No ((wr.alloc (.cells #[.string a.name, .int .i64 a.keeper] 122)).alloc (.cells #[.int .i64 k, .string a.name] 27)) W) => (hBA.keep h).c4.1
          have q1 := fun W (h : Fr No ((wr.alloc (.cells #[.string a.name, .int .i64 a.keeper] 122)).alloc (.cells #[.int .i64 k, .string a.name] 27)) W) => (hBA.keep h).c4.2.2.1
          have q2 := fun W (h : Fr No ((wr.alloc (.cells #[.string a.name, .int .i64 a.keeper] 122)).alloc (.cells #[.int .i64 k, .string a.name] 27)) W) => (hKA.keep h).c2.1
          have q3 := fun W (h : Fr No ((wr.alloc (.cells #[.string a.name, .int .i64 a.keeper] 122)).alloc (.cells #[.int .i64 k, .string a.name] 27)) W) => (hKA.keep h).c2.2
          have hcase : (y.asks.take j).all (fun g => !askIs a.name g) = false ∨ ((y.asks.take j).all (fun g => !askIs a.name g) = true ∧ namB a.name = false) ∨ ((y.asks.take j).all (fun g => !askIs a.name g) = true ∧ namB a.name = true ∧ (decide (0 ≤ a.keeper) && decide (a.keeper < (p.keepers.length : Int))) = false) ∨ ((y.asks.take j).all (fun g => !askIs a.name g) = true ∧ namB a.name = true ∧ (decide (0 ≤ a.keeper) && decide (a.keeper < (p.keepers.length : Int))) = true) := by
            cases (y.asks.take j).all (fun g => !askIs a.name g) <;> cases namB a.name <;> cases (decide (0 ≤ a.keeper) && decide (a.keeper < (p.keepers.length : Int))) <;> simp
          rcases hcase with g3 | ⟨g3, g4⟩ | ⟨g3, g4, g5⟩ | ⟨g3, g4, g5⟩
          · obtain ⟨v, hv⟩ := askOpt_some g3
            have hlook := fun W (h : Fr No ((wr.alloc (.cells #[.string a.name, .int .i64 a.keeper] 122)).alloc (.cells #[.int .i64 k, .string a.name] 27)) W) => (hOA.keep h).look_some (v := v) wk hz0 (by unfold askP; rw [if_pos rfl]; exact hv)
            have HS : Hid (kprB p.keepers.length y = false) := kprB_no (.inr (.inr (.inr (by rw [hd.out, g3]; simp))))
            clear g3 hv hd hstep HN HH
            go_wp2_with fail
            (refine wp_region_fr (X := No) (by kernel_rfl) (by kernel_rfl) ?_)
            clear e0 e1 e2 e3 c0 c1
            (repeat (first | (go_big_quiet_skip; (try simp only [Act.put, List.setIfInBounds_toArray, List.set_cons_zero, List.set_cons_succ])) | (go_big_quiet_want; (apply Exists.intro; refine ⟨fun W hW => ?_, ?_⟩); (focus (go_simp; (try simp only [↓IntWalk.iteOmega]); (try simp only [reduceIte]); first | done | exact rfl | exact ⟨trivial, rfl⟩ | exact ⟨rfl, rfl⟩ | fail)); go_big_quiet_on; (try simp only [Act.put, List.setIfInBounds_toArray, List.set_cons_zero, List.set_cons_succ])))); refine wpQuiet_nil ?_
            intro w1 hf1
            clear q0 q1 q2 q3 hlook
            go_wp2
            go_ret
            exact EnterPost.no HS.out ((hwy.trans0 hfA).trans0 hf1)
          all_goals
            have hlook := fun W (h : Fr No ((wr.alloc (.cells #[.string a.name, .int .i64 a.keeper] 122)).alloc (.cells #[.int .i64 k, .string a.name] 27)) W) => (hOA.keep h).look_none wk hz0 (by unfold askP; rw [if_pos rfl]; exact askOpt_none.2 g3)
            have hstep := Lib.hid (hstep (askOpt_none.2 g3))
            have hd : Hid (asksGo p.keepers.length [] y.asks = (namB a.name && (decide (0 ≤ a.keeper) && decide (a.keeper < (p.keepers.length : Int))) && asksGo p.keepers.length (y.asks.take (j + 1)) (y.asks.drop (j + 1)))) := by
              have := hd.out; rwa [g3, Bool.and_true] at this
            rw [g4] at HN
            try rw [g5] at HH
            replace g4 := Lib.hid g4
            try replace g5 := Lib.hid g5
            clear g3
            go_wp2_with fail
            (refine wp_region_fr (X := No) (by kernel_rfl) (by kernel_rfl) ?_)
            clear e0 e1 e2 e3 c0 c1
            (repeat (first | (go_big_quiet_skip; (try simp only [Act.put, List.setIfInBounds_toArray, List.set_cons_zero, List.set_cons_succ])) | (go_big_quiet_want; (apply Exists.intro; refine ⟨fun W hW => ?_, ?_⟩); (focus (go_simp; (try simp only [↓IntWalk.iteOmega]); (try simp only [reduceIte]); first | done | exact rfl | exact ⟨trivial, rfl⟩ | exact ⟨rfl, rfl⟩ | fail)); go_big_quiet_on; (try simp only [Act.put, List.setIfInBounds_toArray, List.set_cons_zero, List.set_cons_succ])))); refine wpQuiet_nil ?_
            intro w1 hf1
            clear q0 q1 q2 q3 hlook
            obtain ⟨c0, c1⟩ := (hCA.keep hf1).c2
            have hl1 := (hCA.keep hf1).lt
            go_wp2_with (first
              | (go_at_call 63; refine (HN _).mono ?_; rintro e w' ⟨rfl, rfl⟩)
              | (go_at_call 64; refine (HH _ (hfA.trans0 hf1)).mono ?_; rintro e w' ⟨rfl, rfl⟩))
          · have HS : Hid (kprB p.keepers.length y = false) := kprB_no (.inr (.inr (.inr (by rw [hd.out, g4.out]; rfl))))
            go_ret
            exact EnterPost.no HS.out ((hwy.trans0 hfA).trans0 hf1)
          · have HS : Hid (kprB p.keepers.length y = false) := kprB_no (.inr (.inr (.inr (by rw [hd.out, g5.out]; simp))))
            go_ret
            exact EnterPost.no HS.out ((hwy.trans0 hfA).trans0 hf1)
          · have HS : Hid (asksGo p.keepers.length [] y.asks = asksGo p.keepers.length (y.asks.take (j + 1)) (y.asks.drop (j + 1))) := by
              have := hd.out; rwa [g4.out, g5.out, Bool.true_and, Bool.true_and] at this
            have wa : (Lit.int .i64 a.keeper).wf = true := by
              have := g5.out
              rw [Bool.and_eq_true, decide_eq_true_eq, decide_eq_true_eq] at this
              exact wf_small this.1 (by omega)
            have hB2 := hBA.keep hf1
            have hK2 := hKA.keep hf1
            have hO2 := hOA.keep hf1
            obtain ⟨e0, e1, e2, e3⟩ := hB2.c4
            obtain ⟨k0, k1⟩ := hK2.c2
            have hl2 := hB2.lt
            have hkl2 := hK2.lt
            go_still_tail 7, (by kernel_rfl)
            refine wpList_put rfl _ _ _ rfl rfl (hO2.keep (Fr.drew (Fr.refl No _))) (by unfold maxLen; omega) rfl rfl wk hz0 wa ?_
            intro w3 hO3 hg3
            have h1 : Fr (fun b => b = ba) wr w3 := Fr.grown (((hfA.trans0 hf1).mono (fun _ _ h => h.elim)).drew) hg3 (fun q e => .inr (by cases e; rfl))
            clear e0 e1 e2 e3 k0 k1 c0 c1 hl2 hkl2
            go_frame
            go_wp2
            go_roundw
            case rel => exact ⟨j + 1, by omega, by go_num, rfl, HS, hO3.congr (fun q s => hstep.out q s), hwr.same h1⟩
            case measure => simp [intOf]; omega
        · have G2 : Hid (asksGo p.keepers.length [] y.asks = true) := by have := hd.out; rwa [List.drop_eq_nil_of_le (by omega)] at this
          have hAy : MapF wr ba (na + 4) (askP g k y.asks) := by
            have := hA'
            rw [List.take_of_length_le (by omega)] at this
            exact this.mono (by omega)
          have hOy := hOz.keepX hwr (by first | omega | (dsimp only; omega))
          have G3 : kprB p.keepers.length y = true := by unfold kprB; rw [G1.out, G2.out, decide_eq_true g1, decide_eq_true g2]; rfl
          replace G3 := Lib.hid G3
          clear hask hd hA' G1 G2 hOz
          go_wp2
          go_ret
          exact EnterPost.yes G3.out hwy ⟨hOy, hAy⟩
end Go.Proofs.YtghmnkafpnkojaaGreatDoor
