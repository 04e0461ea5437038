/- The reference's l4Get. -/
import Derived.Test.YtghmnkafpnkojaaGreatDoorSly
namespace Go.Proofs.YtghmnkafpnkojaaGreatDoor
open Go.RowKit

set_option maxRecDepth 100000 in
set_option maxHeartbeats 8000000 in
theorem s_get (X : Nat → Prop) (p : Plan) (v : Value) (k0 : Nat) (s m : Str) (w : World) (hp : lodB p = true) (h : Sl X w 2 (KprC X w) v p.keepers) (hk0 : k0 < p.keepers.length) (hs : s.size ≤ maxLen) (_hm : m.size ≤ maxLen) :
    Calls Tryz.prog 25 #[.agg #[v], .int .i64 k0, .string s, .string m] w (Gives (getV (getG p k0 m (classB p k0 s))) w) := by
  obtain ⟨A, cap, rfl, _, _⟩ := h.form
  have hkw := fun W (hW : Fr No w W) => h.keep (R' := KprC X W) hW (fun _ h => h.elim) (fun _ _ _ h => h.keep hW (fun _ h => h.elim))
  have HK := fun W (hW : Fr No w W) => s_l4class X p _ k0 s W hp (hkw W hW) hk0 hs
  have B0 : Bx ((w.alloc (.cells #[.slice A p.keepers.length cap] 34)).alloc (.cells #[.int .i64 0, .string ⟨#[]⟩, .int .i64 0, .int .i64 0, .string ⟨#[]⟩] 42)) w.heap.size 34 #[.slice A p.keepers.length cap] := bxc
  have B1 : Bx ((w.alloc (.cells #[.slice A p.keepers.length cap] 34)).alloc (.cells #[.int .i64 0, .string ⟨#[]⟩, .int .i64 0, .int .i64 0, .string ⟨#[]⟩] 42)) (w.heap.size + 1) 42 #[.int .i64 0, .string ⟨#[]⟩, .int .i64 0, .int .i64 0, .string ⟨#[]⟩] := bxc
  obtain ⟨q, hq⟩ : ∃ q, q = classB p k0 s := ⟨_, rfl⟩
  rw [← hq] at HK ⊢
  obtain ⟨V, hV⟩ : ∃ V, V = getG p k0 m q := ⟨_, rfl⟩
  rw [← hV]
  obtain ⟨⟨rk, rn⟩, c⟩ := q
  unfold refV at HK
  dsimp only at HK
  unfold getG at hV
  dsimp only at hV
  by_cases hc : c = 1
  · subst hc
    rw [if_pos rfl] at hV
    obtain ⟨kc, i, hr, hh, hcb, hfk⟩ := classB_one hp hq.symm
    obtain ⟨kc2, _, pre, hq2, _, hch⟩ := findK_here hp (show (findK p k0 s).2 = 1 by rw [hfk])
    have hkk : kc = kc2 := Int.ofNat.inj (Ref.mk.inj (Prod.mk.inj (hfk.symm.trans hq2)).1).1
    subst hkk
    obtain ⟨rfl, rfl⟩ := Ref.mk.inj hr
    have HL := fun W (hW : Fr No w W) => s_layout X p _ kc rn i pre W hp (hkw W hW) hh hs hch
    rw [(chainK_self hfk hh hch).1] at hV
    have hall := chain_here hp hh hch
    have hrs : AllHere p pre.reverse := fun x hx => hall x (by simpa using hx)
    have hlen := chainOf_len hch
    have hnd : pre.reverse.Nodup := nodup_rev (upGo_nodup hch)
    have hsm := lay_small hp hrs 0
    have hF18 := fldsOf_len hp hrs
    have hfa := fun i (hi : i < (fldsOf p pre.reverse).length) => fld_at (p := p) hnd i hi
    have hlh : ∀ x ∈ fldsOf p pre.reverse, ∃ kq iq : Nat, x.1.keeper = (kq : Int) ∧ Here p x.1 kq iq ∧ x.1.name.size ≤ maxLen := fun x hx => by
      obtain ⟨h1, _⟩ := fldsOf_mem hx
      obtain ⟨h3, kq, iq, hh⟩ := hrs _ h1
      exact ⟨kq, iq, hh.1, hh, h3⟩
    unfold SLayPost layL at HL
    have hcnt : ∀ i (hi : i < (fldsOf p pre.reverse).length), (clsAt p ((fldsOf p pre.reverse)[i]).1).fields[cntF (fldsOf p pre.reverse) ((fldsOf p pre.reverse)[i]).1 i]? = some ((fldsOf p pre.reverse)[i]).2 := fun i hi => by
      obtain ⟨h1, h2, h3⟩ := hfa i hi
      unfold cntF
      rw [h3]
      exact h2
    clear hfa hnd hrs
    generalize fldsOf p pre.reverse = F at *
    simp only [List.length_reverse] at hF18
    have hFm : F.length ≤ 100 := by omega
    have HNm := fun W u i hi kq iq qn f hW hu hq hh hn hd => s_name X No p (.slice A p.keepers.length cap) u F i kq iq qn f W (hkw W hW) hu hi hFm hq hh hn hd
    have hll := layGo_len F 0
    clear hq hr hh hcb hfk hq2 hch hall hlen
    replace hV := Lib.hid hV
    replace hcnt := Lib.hid hcnt
    replace hlh := Lib.hid hlh
    replace hll := Lib.hid hll
    replace hsm := Lib.hid hsm
    go_enter Tryz.func25, Tryz.ntmps25
    go_wp2_with (go_at_call 30; refine (HK _ frc).mono ?_; rintro e w1 ⟨rfl, hf1⟩; have q1 : Fr No w w1 := frc; have C0 := B0.keep hf1; have C1 := B1.keep hf1; have b0 := C0.c1; have l0 := C0.lt; have l1 := C1.lt)
    refine calls_world (fun W => Bx W w.heap.size 34 #[.slice A p.keepers.length cap] ∧ Bx W (w.heap.size + 1) 42 #[.int .i64 0, .string ⟨#[]⟩, .int .i64 0, .int .i64 0, .string ⟨#[]⟩] ∧ Fr No w W) ⟨bxc, bxc, frc⟩ ?_
    rintro Wz ⟨hA, hB, hwz⟩
    clear q1 B0 B1 C0 C1 b0 l0 l1 HK hf1
    refine (HL Wz hwz).mono ?_
    rintro e w2 ⟨v2, rfl, hsl, hf2⟩
    obtain ⟨A2, c3, rfl, _, _⟩ := hsl.form
    rw [hll.out]
    have q2 : Fr No w w2 := hwz.trans0 hf2
    replace hA := hA.keep hf2
    replace hB := hB.keep hf2
    clear HL hf2 hwz
    go_wp2_with fail
    go_loopw [13] (fun i wr => ∃ j : Nat, j ≤ F.length ∧ i = .int .i64 j ∧ Hid (V = getGo p k0 m j (F.drop j)) ∧ Fr No w2 wr) (fun i _ => F.length - (intOf i).toNat)
    case atStart => exact ⟨0, Nat.zero_le _, rfl, hV, Fr.refl _ _⟩
    case round =>
      clear hV
      obtain ⟨j, hj, rfl, hd, hwr⟩ := hrel
      have hw4 : Fr No w wr := q2.trans0 hwr
      have hBr := hB.keep hwr
      have hAr := hA.keep hwr
      have aa0 := hAr.c1
      have aal := hAr.lt
      obtain ⟨z0, z1, z2, z3, z4⟩ := hBr.c5
      have zf := fun j => hBr.frozen j
      have zl := hBr.lt
      by_cases hlt : j < F.length
      · have hd0 := hd.out
        rw [List.drop_eq_getElem_cons hlt, getGo] at hd0
        have hslr := hsl.keep (R' := LFldC) hwr (fun _ h => h.elim) (fun _ _ _ h => h)
        obtain ⟨b, off, rfl, _, c0, c1, c2, c4, c5, hsn, hsk⟩ := hslr.lfld (k := j) (by have := hll.out; omega)
        rw [layGo_get _ _ _ hlt] at c0 c1 c2 c4 c5 hsn hsk
        obtain ⟨kq, iq, hqk, hhq, hqs⟩ := hlh.out _ (List.getElem_mem hlt)
        have hct := hcnt.out j hlt
        rw [hll.out] at hslr
        have HN0 := fun W (hW : Fr No wr W) kq iq qn f => HNm W (.slice (some ⟨b, off, none⟩) F.length c3) j hlt kq iq qn f (hw4.trans0 hW) (hslr.keep (R' := LFldC) hW (fun _ h => h.elim) (fun _ _ _ h => h))
        obtain ⟨⟨⟨qk, qn⟩, f⟩, hx⟩ : ∃ x, x = F[j] := ⟨_, rfl⟩
        rw [← hx] at hd0 c0 c1 c2 c4 c5 hsn hsk hqk hhq hqs hct
        dsimp only at *
        subst hqk
        rw [Nat.zero_add] at c2
        have HN := fun W (hW : Fr No wr W) => HN0 W hW kq iq qn f hx.symm hhq hqs hct
        have hd2 : Hid (V = if f.name.toList == m.toList then (if agreeK p k0 kq f.kind then (⟨⟨kq, qn⟩, j, f.kind⟩, 1) else (zeroF, 4)) else getGo p k0 m (j + 1) (F.drop (j + 1))) := hd0
        have cl := lt_of_cell c0
        have hkq := hhq.2.1
        clear hd hd0 HN0 HNm hslr hcnt hlh hct hx hsl
        by_cases hnm : f.name.toList = m.toList
        · have HA := fun W (hW : Fr No wr W) => s_agree X p _ k0 kq f.kind W hp (hkw W (hw4.trans0 hW)) hk0 hkq hsk
          have hd3 : Hid (V = if agreeK p k0 kq f.kind then (⟨⟨kq, qn⟩, j, f.kind⟩, 1) else (zeroF, 4)) := hd2.out.trans (by rw [if_pos (by simpa using hnm)])
          clear hd2
          generalize agreeK p k0 kq f.kind = ag at *
          replace hnm := Lib.hid hnm
          have hnb : (f.name.toList == m.toList) = true := by simpa using hnm.out
          go_wp2_with (go_at_call 44; refine (HN _ (Fr.refl _ _)).mono ?_; rintro e W5 ⟨rfl, hf5⟩)
          replace HA := fun W (hW : Fr No W5 W) => HA W (hf5.trans0 hW)
          have KP := (hAr.keep hf5).r1
          have K0 := fun W (hW : Fr No W5 W) => (hf5.trans0 hW).keep0 c0
          have K1 := fun W (hW : Fr No W5 W) => (hf5.trans0 hW).keep0 c4
          have K2 := fun W (hW : Fr No W5 W) => (hf5.trans0 hW).keep0 c5
          have s5 := hf5.size
          refine wp_region_monL 14 [isV (.agg #[.slice A p.keepers.length cap]), isV (.int .i64 k0), isV (.slice (some ⟨b, off, none⟩) F.length c3), isV (.int .i64 j), isV (.pointer (some ⟨b, off + j * 5, none⟩)), isV (.pointer (some ⟨b, off + j * 5, none⟩)), isV (.pointer (some ⟨b, off + j * 5, none⟩)), isV (.int .i64 kq), isV (.slice (some ⟨b, off, none⟩) F.length c3), isV (.int .i64 j), isV (.pointer (some ⟨b, off + j * 5, none⟩)), isV (.pointer (some ⟨b, off + j * 5 + 3, none⟩)), isV (.agg #[.int .i64 f.kind.kind, .string f.kind.name]), isV (.bool ag)] [false, false, false, false, false, false, false, false, false, false, false, false, false, false] [false, false, false, false, false, false, false, false, false, false, false, false, false, false] ?_ (by kernel_rfl) (by kernel_rfl) ?_ ?_ ?_ ?_
          · intro x hx hb v W h
            simp only [List.zip_cons_cons, List.zip_nil_left, List.mem_cons, List.not_mem_nil, or_false] at hx
            rcases hx with rfl | rfl | rfl | rfl | rfl | rfl | rfl | rfl | rfl | rfl | rfl | rfl | rfl | rfl <;> first | (cases hb; done) | exact atB_bk h
          · intro o ho d hd; simp only [List.take_succ_cons, List.take_zero, List.mem_cons, List.not_mem_nil, or_false] at ho; rcases ho with rfl | rfl | rfl | rfl | rfl | rfl | rfl | rfl | rfl | rfl | rfl | rfl | rfl | rfl <;> (cases hd; simp)
          · intro x hx
            simp only [List.mem_cons, List.not_mem_nil, or_false] at hx
            rcases hx with rfl | rfl | rfl | rfl | rfl | rfl | rfl | rfl | rfl | rfl | rfl | rfl | rfl | rfl
            · exact isV_mono _
            · exact isV_mono _
            · exact isV_mono _
            · exact isV_mono _
            · exact isV_mono _
            · exact isV_mono _
            · exact isV_mono _
            · exact isV_mono _
            · exact isV_mono _
            · exact isV_mono _
            · exact isV_mono _
            · exact isV_mono _
            · exact isV_mono _
            · exact isV_mono _
          · intro k o ho a' W hW hoff hdep
            have hbs := hW.size
            have H4 := hoff 4 (by simp)
            have H1 := hoff 1 (by simp)
            have H12 := hoff 12 (by simp)
            have H13 := hoff 13 (by simp)
            simp only [Act.eval] at H4 H1 H12 H13
            simp only [List.take_succ_cons, List.take_zero] at ho hdep
            rcases k with _ | _ | _ | _ | _ | _ | _ | _ | _ | _ | _ | _ | _ | _ | k
            all_goals (first | (simp at ho; done) | skip)
            all_goals simp only [List.getElem?_cons_zero, List.getElem?_cons_succ, Option.some.injEq] at ho
            all_goals subst ho
            · refine ⟨fun h => absurd h (by decide), fun _ => ?_⟩
              unfold opGives
              simp [execOp, Act.eval, go_sem, givesUpon, *]
              exact ⟨Fr.refl _ _, rfl⟩
            · refine ⟨fun h => absurd h (by decide), fun _ => ?_⟩
              unfold opGives
              simp [execOp, Act.eval, H1, go_sem, givesUpon]
              exact ⟨Fr.refl _ _, rfl⟩
            · refine ⟨fun h => absurd h (by decide), fun _ => ?_⟩
              unfold opGives
              simp [execOp, Act.eval, H12, go_sem, givesUpon]
              exact ⟨Fr.refl _ _, rfl⟩
            · refine ⟨fun h => absurd h (by decide), fun _ => ?_⟩
              unfold opGives
              simp [execOp, Act.eval, H13, go_sem, givesUpon]
              exact ⟨Fr.refl _ _, rfl⟩
            · have D42 : a'.eval (.tmp 42) = .slice (some ⟨b, off, none⟩) F.length c3 := hdep ⟨2, .data⟩ (by simp) rfl _ 42 rfl rfl
              have D43 : a'.eval (.tmp 43) = .int .i64 j := hdep ⟨3, .data⟩ (by simp) rfl _ 43 rfl rfl
              simp only [Act.eval] at D42 D43
              refine ⟨fun h => absurd h (by decide), fun _ => ?_⟩
              unfold opGives
              simp [execOp, Act.eval, go_sem, givesUpon, *]
              exact ⟨Fr.refl _ _, rfl⟩
            · have D44 : a'.eval (.tmp 44) = .pointer (some ⟨b, off + j * 5, none⟩) := hdep ⟨4, .data⟩ (by simp) rfl _ 44 rfl rfl
              simp only [Act.eval] at D44
              refine ⟨fun h => absurd h (by decide), fun _ => ?_⟩
              unfold opGives
              simp [execOp, Act.eval, D44, go_sem, givesUpon]
              exact ⟨Fr.refl _ _, rfl⟩
            · have D45 : a'.eval (.tmp 45) = .pointer (some ⟨b, off + j * 5, none⟩) := hdep ⟨5, .data⟩ (by simp) rfl _ 45 rfl rfl
              simp only [Act.eval] at D45
              refine ⟨fun h => absurd h (by decide), fun _ => ?_⟩
              unfold opGives
              simp [execOp, Act.eval, D45, go_sem, givesUpon]
              exact ⟨Fr.refl _ _, rfl⟩
            · have D46 : a'.eval (.tmp 46) = .pointer (some ⟨b, off + j * 5, none⟩) := hdep ⟨6, .data⟩ (by simp) rfl _ 46 rfl rfl
              simp only [Act.eval] at D46
              refine ⟨fun h => absurd h (by decide), fun _ => ?_⟩
              unfold opGives
              simp [execOp, Act.eval, go_sem, givesUpon, *]
              exact ⟨Fr.refl _ _, rfl⟩
            · refine ⟨fun h => absurd h (by decide), fun _ => ?_⟩
              unfold opGives
              simp [execOp, Act.eval, H12, go_sem, givesUpon]
              exact ⟨Fr.refl _ _, rfl⟩
            · refine ⟨fun h => absurd h (by decide), fun _ => ?_⟩
              unfold opGives
              simp [execOp, Act.eval, H13, go_sem, givesUpon]
              exact ⟨Fr.refl _ _, rfl⟩
            · have D48 : a'.eval (.tmp 48) = .slice (some ⟨b, off, none⟩) F.length c3 := hdep ⟨8, .data⟩ (by simp) rfl _ 48 rfl rfl
              have D49 : a'.eval (.tmp 49) = .int .i64 j := hdep ⟨9, .data⟩ (by simp) rfl _ 49 rfl rfl
              simp only [Act.eval] at D48 D49
              refine ⟨fun h => absurd h (by decide), fun _ => ?_⟩
              unfold opGives
              simp [execOp, Act.eval, go_sem, givesUpon, *]
              exact ⟨Fr.refl _ _, rfl⟩
            · have D50 : a'.eval (.tmp 50) = .pointer (some ⟨b, off + j * 5, none⟩) := hdep ⟨10, .data⟩ (by simp) rfl _ 50 rfl rfl
              simp only [Act.eval] at D50
              refine ⟨fun h => absurd h (by decide), fun _ => ?_⟩
              unfold opGives
              simp [execOp, Act.eval, D50, go_sem, givesUpon]
              exact ⟨Fr.refl _ _, rfl⟩
            · have D51 : a'.eval (.tmp 51) = .pointer (some ⟨b, off + j * 5 + 3, none⟩) := hdep ⟨11, .data⟩ (by simp) rfl _ 51 rfl rfl
              simp only [Act.eval] at D51
              refine ⟨fun h => absurd h (by decide), fun _ => ?_⟩
              unfold opGives
              simp [execOp, Act.eval, go_sem, givesUpon, *]
              exact ⟨Fr.refl _ _, rfl⟩
            · have D40 : a'.eval (.tmp 40) = .agg #[.slice A p.keepers.length cap] := hdep ⟨0, .data⟩ (by simp) rfl _ 40 rfl rfl
              have D41 : a'.eval (.tmp 41) = .int .i64 k0 := hdep ⟨1, .data⟩ (by simp) rfl _ 41 rfl rfl
              have D47 : a'.eval (.tmp 47) = .int .i64 kq := hdep ⟨7, .data⟩ (by simp) rfl _ 47 rfl rfl
              have D52 : a'.eval (.tmp 52) = .agg #[.int .i64 f.kind.kind, .string f.kind.name] := hdep ⟨12, .data⟩ (by simp) rfl _ 52 rfl rfl
              simp only [Act.eval] at D40 D41 D47 D52
              refine ⟨fun h => absurd h (by decide), fun _ => ?_⟩
              unfold opGives
              simp [Act.eval, D40, D41, D47, D52, go_sem, givesUpon]
              exact (HA _ hW).mono fun e w' h => ⟨_, h.1, h.2, rfl⟩
          intro vs WR hWR hv hne
          have e0 : vs 0 = _ := hv 0 (by omega)
          have e1 : vs 1 = _ := hv 1 (by omega)
          have e2 : vs 2 = _ := hv 2 (by omega)
          have e3 : vs 3 = _ := hv 3 (by omega)
          have e4 : vs 4 = _ := hv 4 (by omega)
          have e5 : vs 5 = _ := hv 5 (by omega)
          have e6 : vs 6 = _ := hv 6 (by omega)
          have e7 : vs 7 = _ := hv 7 (by omega)
          have e8 : vs 8 = _ := hv 8 (by omega)
          have e9 : vs 9 = _ := hv 9 (by omega)
          have e10 : vs 10 = _ := hv 10 (by omega)
          have e11 : vs 11 = _ := hv 11 (by omega)
          have e12 : vs 12 = _ := hv 12 (by omega)
          have e13 : vs 13 = _ := hv 13 (by omega)
          simp only [List.take_succ_cons, List.take_zero, List.drop_succ_cons, List.drop_zero, putsL, if_true, Nat.zero_add, Nat.reduceAdd, e0, e1, e2, e3, e4, e5, e6, e7, e8, e9, e10, e11, e12, e13]
          simp only [Act.put, List.setIfInBounds_toArray, List.set_cons_zero, List.set_cons_succ]
          clear e0 e1 e2 e3 e4 e5 e6 e7 e8 e9 e10 e11 e12 e13 hv
          have hB6 := (hBr.keep hf5).keep hWR
          have hw6 := (hw4.trans0 hf5).trans0 hWR
          have e0 := K0 WR hWR
          have e1 := (hf5.trans0 hWR).keep0 c1
          have e2 := (hf5.trans0 hWR).keep0 c2
          have e4 := K1 WR hWR
          have e5 := K2 WR hWR
          clear z0 z1 z2 z3 z4 zf zl K0 K1 K2 KP HA c0 c1 c2 c4 c5 aa0 aal
          have hB6s := hB6
          obtain ⟨z0, z1, z2, z3, z4⟩ := hB6.c5
          have zf := fun j => hB6s.frozen j
          have zl := hB6s.lt
          have hsR := hWR.size
          clear hB6
          cases ag
          · go_wp2
            refine bodyPost_ret (v := .tuple #[.agg #[.int .i64 0, .string ⟨#[]⟩, .int .i64 0, .int .i64 0, .string ⟨#[]⟩], .int .i64 4]) (by simp [results, Tryz.results25, go_sem, *]) rfl ?_
            exact .mk1 (by rw [hd3.out]; rfl) (set5' hw6 (by omega))
          · go_wp2
            refine bodyPost_ret (v := .tuple #[.agg #[.int .i64 kq, .string qn, .int .i64 j, .int .i64 f.kind.kind, .string f.kind.name], .int .i64 1]) (by simp [results, Tryz.results25, go_sem, *]) rfl ?_
            exact .mk1 (by rw [hd3.out]; rfl) (set5' hw6 (by omega))
        · have hd3 : Hid (V = getGo p k0 m (j + 1) (F.drop (j + 1))) := hd2.out.trans (by rw [if_neg (by simpa using hnm)])
          clear hd2
          have hnb : (f.name.toList == m.toList) = false := by simpa using hnm
          go_wp2_with (go_at_call 44; refine (HN _ (Fr.refl _ _)).mono ?_; rintro e W5 ⟨rfl, hf5⟩)
          go_roundw
          case rel => exact ⟨j + 1, by omega, by go_num, hd3, hwr.trans0 hf5⟩
          case measure => simp [intOf]; omega
      · have HS : Hid (V = (zeroF, 3)) := hd.out.trans (by rw [List.drop_of_length_le (by omega)]; rfl)
        clear hd hcnt hlh hsm hsl HNm
        go_wp2
        refine bodyPost_ret (v := .tuple #[.agg #[.int .i64 0, .string ⟨#[]⟩, .int .i64 0, .int .i64 0, .string ⟨#[]⟩], .int .i64 3]) (by simp [results, Tryz.results25, go_sem, *]) rfl ?_
        exact .mk1 (by rw [HS.out]; rfl) (set5' hw4 (by omega))
  · rw [if_neg hc] at hV
    subst hV
    have hc' : ((c : Int) != 1) = true := by simpa using hc
    unfold getV lfV zeroF
    clear hq
    go_enter Tryz.func25, Tryz.ntmps25
    go_wp2_with (go_at_call 30; refine (HK _ frc).mono ?_; rintro e w1 ⟨rfl, hf1⟩; have q1 : Fr No w w1 := frc; have C1 := B1.keep hf1; have ⟨z0, z1, z2, z3, z4⟩ := C1.c5; have zf := (fun j => C1.frozen j); have zl := C1.lt)
    refine bodyPost_ret (v := .tuple #[.agg #[.int .i64 0, .string ⟨#[]⟩, .int .i64 0, .int .i64 0, .string ⟨#[]⟩], .int .i64 c]) (by simp [results, Tryz.results25, go_sem, *]) rfl ?_
    exact .mk1 rfl frc
end Go.Proofs.YtghmnkafpnkojaaGreatDoor

/- The reference's LnkGet. -/
namespace Go.Proofs.YtghmnkafpnkojaaGreatDoor
open Go.RowKit

set_option maxRecDepth 100000 in
set_option maxHeartbeats 4000000 in
theorem s_lnkget (X : Nat → Prop) (p : Plan) (v : Value) (k : Int) (s m : Str) (w : World) (h : Sl X w 2 (KprC X w) v p.keepers) (hs : s.size ≤ maxLen) (hm : m.size ≤ maxLen) :
    Calls Tryz.prog 11 #[.agg #[v], .int .i64 k, .string s, .string m] w (Gives (getV (getS p k s m)) w) := by
  obtain ⟨A, cap, rfl, _, hlen⟩ := h.form
  unfold maxLen at hlen
  have hkw := fun W (hW : Fr No w W) => h.keep (R' := KprC X W) hW (fun _ h => h.elim) (fun _ _ _ h => h.keep hW (fun _ h => h.elim))
  have HK := fun W (hW : Fr No w W) => s_lodok X p _ W (hkw W hW)
  have HN := fun W => s_nam s W hs
  have HM := fun W => s_nam m W hm
  have HL := fun W => s_l1In k 0 ((p.keepers.length : Int) - 1) W
  have wl : IntKind.i64.wrap ((p.keepers.length : Int) - 1) = (p.keepers.length : Int) - 1 := IntWalk.i64_in _ (by omega)
  have hhk : (decide (0 ≤ k) && decide (k ≤ (p.keepers.length : Int) - 1)) = hasK p k := by unfold hasK; rw [Bool.eq_iff_iff]; simp; omega
  rw [hhk] at HL
  have B0 : Bx ((w.alloc (.cells #[.slice A p.keepers.length cap] 34)).alloc (.cells #[.int .i64 0, .string ⟨#[]⟩, .int .i64 0, .int .i64 0, .string ⟨#[]⟩] 42)) w.heap.size 34 #[.slice A p.keepers.length cap] := bxc
  have B1 : Bx ((w.alloc (.cells #[.slice A p.keepers.length cap] 34)).alloc (.cells #[.int .i64 0, .string ⟨#[]⟩, .int .i64 0, .int .i64 0, .string ⟨#[]⟩] 42)) (w.heap.size + 1) 42 #[.int .i64 0, .string ⟨#[]⟩, .int .i64 0, .int .i64 0, .string ⟨#[]⟩] := bxc
  have hno : linkB p k s m = (noRef, 2) → getS p k s m = (zeroF, 2) := fun hl => by
    unfold getS
    split
    · unfold getB
      rw [hl]
      rfl
    · rfl
  cases hp : lodB p
  · have HV : Hid (getS p k s m = (zeroF, 2)) := by
      show getS p k s m = _
      unfold getS
      rw [hp]
      rfl
    rw [hp] at HK
    clear hp hno
    generalize getS p k s m = V at *
    unfold getV lfV
    clear h hkw hhk
    go_enter Tryz.func11, Tryz.ntmps11
    go_wp2_with (first
      | (go_at_call 15; refine (HK _ frc).mono ?_; rintro e w1 ⟨rfl, hf1⟩; have C0 := B0.keep hf1; have C1 := B1.keep hf1; have b0 := C0.c1; have l0 := C0.lt; have ⟨z0, z1, z2, z3, z4⟩ := C1.c5; have zf := (fun j => C1.frozen j); have zl := C1.lt)
      | (go_at_call 16; refine (HL _).mono ?_; rintro e w2 ⟨rfl, rfl⟩)
      | (go_at_call_of 17 (Value.string s); refine (HN _).mono ?_; rintro e w2 ⟨rfl, rfl⟩)
      | (go_at_call_of 17 (Value.string m); refine (HM _).mono ?_; rintro e w2 ⟨rfl, rfl⟩))
    refine bodyPost_ret (v := .tuple #[.agg #[.int .i64 0, .string ⟨#[]⟩, .int .i64 0, .int .i64 0, .string ⟨#[]⟩], .int .i64 2]) (by simp [results, Tryz.results11, go_sem, *]) rfl ?_
    exact .mk1 (by rw [HV.out]; rfl) frc
  rw [hp] at HK
  cases hk : hasK p k
  · have HV : Hid (getS p k s m = (zeroF, 2)) := by
      refine hno ?_
      unfold linkB
      rw [classB_no (no_find hk)]
      cases namB m <;> rfl
    rw [hk] at HL
    clear hp hk hno
    generalize getS p k s m = V at *
    unfold getV lfV
    clear h hkw hhk
    go_enter Tryz.func11, Tryz.ntmps11
    go_wp2_with (first
      | (go_at_call 15; refine (HK _ frc).mono ?_; rintro e w1 ⟨rfl, hf1⟩; have C0 := B0.keep hf1; have C1 := B1.keep hf1; have b0 := C0.c1; have l0 := C0.lt; have ⟨z0, z1, z2, z3, z4⟩ := C1.c5; have zf := (fun j => C1.frozen j); have zl := C1.lt)
      | (go_at_call 16; refine (HL _).mono ?_; rintro e w2 ⟨rfl, rfl⟩)
      | (go_at_call_of 17 (Value.string s); refine (HN _).mono ?_; rintro e w2 ⟨rfl, rfl⟩)
      | (go_at_call_of 17 (Value.string m); refine (HM _).mono ?_; rintro e w2 ⟨rfl, rfl⟩))
    refine bodyPost_ret (v := .tuple #[.agg #[.int .i64 0, .string ⟨#[]⟩, .int .i64 0, .int .i64 0, .string ⟨#[]⟩], .int .i64 2]) (by simp [results, Tryz.results11, go_sem, *]) rfl ?_
    exact .mk1 (by rw [HV.out]; rfl) frc
  rw [hk] at HL
  cases hns : namB s
  · have HV : Hid (getS p k s m = (zeroF, 2)) := by
      refine hno ?_
      unfold linkB
      rw [classB_no (bad_find hp hns)]
      cases namB m <;> rfl
    rw [hns] at HN
    clear hp hk hns hno
    generalize getS p k s m = V at *
    unfold getV lfV
    clear h hkw hhk
    go_enter Tryz.func11, Tryz.ntmps11
    go_wp2_with (first
      | (go_at_call 15; refine (HK _ frc).mono ?_; rintro e w1 ⟨rfl, hf1⟩; have C0 := B0.keep hf1; have C1 := B1.keep hf1; have b0 := C0.c1; have l0 := C0.lt; have ⟨z0, z1, z2, z3, z4⟩ := C1.c5; have zf := (fun j => C1.frozen j); have zl := C1.lt)
      | (go_at_call 16; refine (HL _).mono ?_; rintro e w2 ⟨rfl, rfl⟩)
      | (go_at_call_of 17 (Value.string s); refine (HN _).mono ?_; rintro e w2 ⟨rfl, rfl⟩)
      | (go_at_call_of 17 (Value.string m); refine (HM _).mono ?_; rintro e w2 ⟨rfl, rfl⟩))
    refine bodyPost_ret (v := .tuple #[.agg #[.int .i64 0, .string ⟨#[]⟩, .int .i64 0, .int .i64 0, .string ⟨#[]⟩], .int .i64 2]) (by simp [results, Tryz.results11, go_sem, *]) rfl ?_
    exact .mk1 (by rw [HV.out]; rfl) frc
  rw [hns] at HN
  cases hnm : namB m
  · have HV : Hid (getS p k s m = (zeroF, 2)) := by
      refine hno ?_
      unfold linkB
      rw [hnm]
      rfl
    rw [hnm] at HM
    clear hp hk hns hnm hno
    generalize getS p k s m = V at *
    unfold getV lfV
    clear h hkw hhk
    go_enter Tryz.func11, Tryz.ntmps11
    go_wp2_with (first
      | (go_at_call 15; refine (HK _ frc).mono ?_; rintro e w1 ⟨rfl, hf1⟩; have C0 := B0.keep hf1; have C1 := B1.keep hf1; have b0 := C0.c1; have l0 := C0.lt; have ⟨z0, z1, z2, z3, z4⟩ := C1.c5; have zf := (fun j => C1.frozen j); have zl := C1.lt)
      | (go_at_call 16; refine (HL _).mono ?_; rintro e w2 ⟨rfl, rfl⟩)
      | (go_at_call_of 17 (Value.string s); refine (HN _).mono ?_; rintro e w2 ⟨rfl, rfl⟩)
      | (go_at_call_of 17 (Value.string m); refine (HM _).mono ?_; rintro e w2 ⟨rfl, rfl⟩))
    refine bodyPost_ret (v := .tuple #[.agg #[.int .i64 0, .string ⟨#[]⟩, .int .i64 0, .int .i64 0, .string ⟨#[]⟩], .int .i64 2]) (by simp [results, Tryz.results11, go_sem, *]) rfl ?_
    exact .mk1 (by rw [HV.out]; rfl) frc
  rw [hnm] at HM
  · have hV : getS p k s m = getG p k m (classB p k s) := by
      unfold getS getB linkB
      rw [hp, if_pos rfl, hnm, if_pos rfl]
    unfold hasK at hk
    rw [Bool.and_eq_true, decide_eq_true_eq, decide_eq_true_eq] at hk
    obtain ⟨k, rfl⟩ := Int.eq_ofNat_of_zero_le hk.1
    have HF := fun W (hW : Fr No w W) => s_get X p _ k s m W hp (hkw W hW) (by omega) hs hm
    rw [← hV] at HF
    clear hV h hkw hhk hp hk hns hnm hno
    generalize getS p k s m = V at *
    obtain ⟨⟨⟨uk, un⟩, ui, ⟨ud, us⟩⟩, uc⟩ := V
    unfold getV lfV at HF ⊢
    dsimp only at HF ⊢
    go_enter Tryz.func11, Tryz.ntmps11
    go_wp2_with (first
      | (go_at_call 15; refine (HK _ frc).mono ?_; rintro e w1 ⟨rfl, hf1⟩; have C0 := B0.keep hf1; have C1 := B1.keep hf1; have b0 := C0.c1; have l0 := C0.lt; have l1 := C1.lt)
      | (go_at_call 16; refine (HL _).mono ?_; rintro e w2 ⟨rfl, rfl⟩)
      | (go_at_call_of 17 (Value.string s); refine (HN _).mono ?_; rintro e w2 ⟨rfl, rfl⟩)
      | (go_at_call_of 17 (Value.string m); refine (HM _).mono ?_; rintro e w2 ⟨rfl, rfl⟩)
      | (go_at_call 25; refine (HF _ frc).mono ?_; rintro e w2 ⟨rfl, hf2⟩; have D1 := C1.keep hf2; have ⟨z0, z1, z2, z3, z4⟩ := D1.c5; have zf := (fun j => D1.frozen j); have zl := D1.lt))
    refine bodyPost_ret (v := .tuple #[.agg #[.int .i64 uk, .string un, .int .i64 ui, .int .i64 ud, .string us], .int .i64 uc]) (by simp [results, Tryz.results11, go_sem, *]) rfl ?_
    exact .mk1 rfl frc
end Go.Proofs.YtghmnkafpnkojaaGreatDoor
