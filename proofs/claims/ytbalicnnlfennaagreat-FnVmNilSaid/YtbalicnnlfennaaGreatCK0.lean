/- The program's get: the walk. -/
import Derived.Test.YtbalicnnlfennaaGreatCG20
namespace Go.Proofs.YtbalicnnlfennaaGreat
open Go.RowKit

set_option maxRecDepth 100000 in
set_option maxHeartbeats 8000000 in
theorem get_ok (l bl n : Nat) (p : Plan) (k : Int) (s m : Str) (w : World) (h : Lg w l bl n p) (hs : s.size ≤ maxLen) (hm : m.size ≤ maxLen) (hn : n < 999999) :
  Calls Tryz.prog 86 #[.pointer (some ⟨l, 0, none⟩), .int .i64 k, .string s, .string m] w (GetPost (getB p k s m) p l bl n w) := by
 have hp := h.ok
 have hlt := h.lt
 have h0 := h
 have B0 : Bx (w.alloc (.cells #[.int .i64 0, .string ⟨#[]⟩, .int .i64 0, .int .i64 0, .string ⟨#[]⟩] 154)) w.heap.size 154 #[.int .i64 0, .string ⟨#[]⟩, .int .i64 0, .int .i64 0, .string ⟨#[]⟩] := bxc
 have HK := fun W (hW : Fr No w W) => linkClass_ok l bl n p k s m W (h.keep hW) hs hm (by omega)
 obtain ⟨q, hq⟩ : ∃ q, q = linkB p k s m := ⟨_, rfl⟩
 have hV : getB p k s m = getG p k m q := by unfold getB; rw [hq]
 rw [← hq] at HK
 generalize getB p k s m = V at *
 obtain ⟨⟨rk, rn⟩, c⟩ := q
 unfold LinkPost at HK
 dsimp only at HK
 clear h
 by_cases hc : c = 1
 ·subst hc
  obtain ⟨kc, i, hr, hh⟩ := linkB_one hp hq.symm
  have hcan := linkB_can hp hq.symm
  obtain ⟨rfl, rfl⟩ := Ref.mk.inj hr
  have h3 := lodB_len hp
  have hkl := hh.2.1
  have wk := small_wf (show kc < 4 by omega)
  have HP := fun W (hW : Lg W l bl (n + 1) p) => layout_ok l bl (n + 1) p ⟨(kc : Int), rn⟩ W hW hs wk (by omega)
  unfold LayPost at HP
  have hLB : layB p ⟨(kc : Int), rn⟩ = layGo 0 (fldsOf p (chainK p ⟨(kc : Int), rn⟩).reverse) := by unfold layB; rw [if_pos hcan]; rfl
  rw [hLB] at HP
  unfold getG at hV
  dsimp only at hV
  rw [if_pos rfl] at hV
  have hall := chainK_here hp ⟨(kc : Int), rn⟩
  have hnd : (chainK p ⟨(kc : Int), rn⟩).reverse.Nodup := nodup_rev (chainK_nodup hp _)
  have hlen := chainK_len hp ⟨(kc : Int), rn⟩
  have HFF := fun (g : Int → Str → Option Int) (q : Ref) W (hW : Lodge W l bl (n + 2) p g) (hq : q.name.size ≤ maxLen) => firstField_ok l bl (n + 2) p g q ⟨(kc : Int), rn⟩ W hW hs hq
  generalize chainK p ⟨(kc : Int), rn⟩ = xs at *
  replace hV := Lib.hid hV
  clear hq hr hh h3 hkl wk hLB hcan
  go_enter Tryz.func86, Tryz.ntmps86
  go_wp2_with (go_at_call 73; refine (HK _ frc).mono ?_; rintro e w1 ⟨ev, rfl, he, hf1, hL1⟩; obtain rfl := he.nil; clear he)
  have hw1 : Fr (fun b => b = bl) w w1 := (show Fr No w (w.alloc (.cells #[.int .i64 0, .string ⟨#[]⟩, .int .i64 0, .int .i64 0, .string ⟨#[]⟩] 154)) from frc).of0.same hf1
  have B1 := B0.keepX hf1 (by omega)
  have l1 := B1.lt
  clear HK B0
  go_wp2_with fail
  refine calls_world (fun W => Bx W w.heap.size 154 #[.int .i64 0, .string ⟨#[]⟩, .int .i64 0, .int .i64 0, .string ⟨#[]⟩] ∧ Bx W w1.heap.size 54 #[.int .i64 kc, .string rn] ∧ Fr No w1 W) ⟨bxc, bxc, frc⟩ ?_
  rintro Wz ⟨hB, hR, hwz⟩
  have sB := hB.lt
  have sR := hR.lt
  refine (HP Wz (hL1.keep hwz)).mono ?_
  rintro e w2 ⟨v2, rfl, hrow, hf2, hL2⟩
  have hw2 : Fr (fun b => b = bl) w w2 := (hw1.trans0 hwz).same hf2
  have hB2 := hB.keepX hf2 (by omega)
  have hR2 := hR.keepX hf2 (by have := hlt; have := hw1.size; omega)
  obtain ⟨g2, hLo2, hg2⟩ := hL2
  have hrs : AllHere p xs.reverse := fun x hx => hall x (by simpa using hx)
  have hsl := flds_sl hrow (lay_small hp hrs 0)
  have hF18 := fldsOf_len hp hrs
  have hfa := fun i (hi : i < (fldsOf p xs.reverse).length) => fld_at (p := p) hnd i hi
  obtain ⟨A2, c2, rfl, _, _⟩ := hsl.form
  have hll := layGo_len (fldsOf p xs.reverse) 0
  have hlg : ∀ i (hi : i < (fldsOf p xs.reverse).length) (h2 : i < (layGo 0 (fldsOf p xs.reverse)).length), (layGo 0 (fldsOf p xs.reverse))[i] = ⟨(fldsOf p xs.reverse)[i].1, ((0 + i : Nat) : Int), (fldsOf p xs.reverse)[i].2.kind⟩ := fun i hi _ => layGo_get (fldsOf p xs.reverse) 0 i hi
  have hlh : ∀ x ∈ fldsOf p xs.reverse, ∃ kq iq : Nat, x.1.keeper = (kq : Int) ∧ Here p x.1 kq iq ∧ x.1.name.size ≤ maxLen := fun x hx => by
   obtain ⟨h1, _⟩ := fldsOf_mem hx
   obtain ⟨h3, kq, iq, hh⟩ := hrs _ h1
   exact ⟨kq, iq, hh.1, hh, h3⟩
  generalize layGo 0 (fldsOf p xs.reverse) = L at *
  generalize fldsOf p xs.reverse = F at *
  simp only [List.length_reverse] at hF18
  clear hrow hf1 hf2 hwz HP hB hR B1 hall hnd hrs hL1
  have hLm : L.length ≤ 100 := by omega
  replace hlg := Lib.hid hlg
  replace hfa := Lib.hid hfa
  replace hlh := Lib.hid hlh
  replace HFF := Lib.hid HFF
  replace hll := Lib.hid hll
  have hFm : F.length ≤ 100 := by omega
  replace hF18 := Lib.hid hF18
  go_wp2_with fail
  go_loopw [31] (fun i wr => ∃ j : Nat, j ≤ L.length ∧ i = .int .i64 j ∧ Hid (V = getGo p k m j (F.drop j)) ∧ Fr No w2 wr) (fun i _ => L.length - (intOf i).toNat)
  case atStart => exact ⟨0, Nat.zero_le _, rfl, hV, Fr.refl _ _⟩
  case round =>
   clear hV
   obtain ⟨j, hj, rfl, hd, hwr⟩ := hrel
   by_cases hlt2' : j < L.length
   ·have hjl := hlt2'
    have hlt2 : j < F.length := by have := hll.out; omega
    obtain ⟨b, off, rfl, _, c0, c1, c2, c3, c4, hsn, hsk⟩ := (hsl.keep (R' := LFldC) hwr (fun _ h => h.elim) (fun _ _ _ h => h)).lfld hjl
    rw [hlg.out j hlt2 hjl] at c0 c1 c2 c3 c4 hsn hsk
    rw [List.drop_eq_getElem_cons hlt2, getGo] at hd
    obtain ⟨fa1, fa2, _⟩ := hfa.out j hlt2
    obtain ⟨kq, iq, hqk, hhq, hqs⟩ := hlh.out _ (List.getElem_mem hlt2)
    have hd := Lib.hid hd
    have cl := lt_of_cell c0
    clear hsl hlg hfa hlh
    generalize F[j] = x at *
    obtain ⟨⟨qk, qn⟩, f⟩ := x
    dsimp only at *
    subst hqk
    rw [Nat.zero_add] at c2
    generalize hfl : firstLen p xs.reverse ⟨(kq : Int), qn⟩ = fo at *
    have hB3 := hB2.keep hwr
    have hR3 := hR2.keep hwr
    obtain ⟨r0, r1⟩ := hR3.c2
    have rl := hR3.lt
    go_wp2_with fail
    refine calls_world (fun W => Bx W wr.heap.size 154 #[.int .i64 kq, .string qn, .int .i64 j, .int .i64 f.kind.kind, .string f.kind.name] ∧ Fr No wr W) ⟨bxc, frc⟩ ?_
    rintro W4 ⟨hF4, hf4⟩
    have hf4R := hf4
    refine (HFF.out g2 ⟨kq, qn⟩ W4 (hLo2.keep (hwr.trans0 hf4)) hqs).mono ?_
    rintro e w5 ⟨rfl, hf5⟩
    have hf5R := hf5
    rw [hfl]
    have hF5 := hF4.keep hf5
    have hw5 : Fr No w2 w5 := (hwr.trans0 hf4).trans0 hf5
    obtain ⟨Af, cf, Am, cm, hCR, HCl⟩ := here_class (hLo2.keep hw5) hhq hqs
    have hflds : Sl (fun b => b = bl) w5 3 FldC (.slice Af (clsAt p ⟨kq, qn⟩).fields.length cf) (clsAt p ⟨kq, qn⟩).fields := by obtain ⟨_, _, he, _, _, h, _⟩ := hCR; cases he; exact h
    have hbi := (List.getElem?_eq_some_iff.1 fa2)
    obtain ⟨hbi1, hbi2⟩ := hbi
    obtain ⟨bf, of, rfl, _, g0, _, _, hgn, _⟩ := hflds.fld hbi1
    rw [hbi2] at g0 hgn
    have gl := lt_of_cell g0
    have KG := fun W (hW : Fr No w5 W) => hW.keep0 g0
    have KF := hF5.r5
    have hsub : IntKind.i64.wrap ((j : Int) - (fo : Int)) = ((j - fo : Nat) : Int) := (IntWalk.i64_in _ (by omega)).trans (by omega)
    have hfm := clsB_fields (Here.clsB hp hhq)
    have hd2 : Hid (V = if f.name.toList == m.toList then (if agreeK p k kq f.kind then (⟨⟨kq, qn⟩, j, f.kind⟩, 1) else (zeroF, 4)) else getGo p k m (j + 1) (F.drop (j + 1))) := hd.out.out
    clear hd c0 c1 c2 c3 c4 cl r0 r1 rl hF4 hf4 hf5 hCR hflds hbi2 fa2 g0
    clear hgn
    go_wp2_with fail
    refine wp_region_monL 13 [isV (.pointer (some ⟨l, 0, none⟩)), isV (.pointer (some ⟨wr.heap.size, 0, none⟩)), isV (.agg #[.int .i64 kq, .string qn]), isV (.agg #[.string (clsAt p ⟨kq, qn⟩).name, .string (clsAt p ⟨kq, qn⟩).super, .slice (some ⟨bf, of, none⟩) (clsAt p ⟨kq, qn⟩).fields.length cf, .slice Am (clsAt p ⟨kq, qn⟩).methods.length cm]), isV (.slice (some ⟨bf, of, none⟩) (clsAt p ⟨kq, qn⟩).fields.length cf), isV (.pointer (some ⟨wr.heap.size, 2, none⟩)), isV (.int .i64 j), isV (.int .i64 fo), isV (.int .i64 ((j - fo : Nat) : Int)), isV (.pointer (some ⟨bf, of + (j - fo) * 3, none⟩)), isV (.pointer (some ⟨bf, of + (j - fo) * 3, none⟩)), isV (.string f.name), isV (.string m)] [false, false, false, false, false, false, false, false, false, false, false, false, false] [false, false, false, false, false, false, false, false, false, false, false, false, false] ?_ (by kernel_rfl) (by kernel_rfl) ?_ ?_ ?_ ?_
    ·intro x hx hb v W h
     simp only [List.zip_cons_cons, List.zip_nil_left, List.mem_cons, List.not_mem_nil, or_false] at hx
     rcases hx with rfl | rfl | rfl | rfl | rfl | rfl | rfl | rfl | rfl | rfl | rfl | rfl | rfl <;> first | (cases hb; done) | exact atB_bk h
    ·intro o ho d hd; simp only [List.take_succ_cons, List.take_zero, List.mem_cons, List.not_mem_nil, or_false] at ho; rcases ho with rfl | rfl | rfl | rfl | rfl | rfl | rfl | rfl | rfl | rfl | rfl | rfl | rfl <;> (cases hd; simp)
    ·intro x hx
     simp only [List.mem_cons, List.not_mem_nil, or_false] at hx
     rcases hx with rfl | rfl | rfl | rfl | rfl | rfl | rfl | rfl | rfl | rfl | rfl | rfl | rfl
     ·exact isV_mono _
     ·exact isV_mono _
     ·exact isV_mono _
     ·exact isV_mono _
     ·exact isV_mono _
     ·exact isV_mono _
     ·exact isV_mono _
     ·exact isV_mono _
     ·exact isV_mono _
     ·exact isV_mono _
     ·exact isV_mono _
     ·exact isV_mono _
     ·exact isV_mono _
    ·intro k o ho a' W hW hoff hdep
     have hbs := hW.size
     have H0 := hoff 0 (by simp)
     have H13 := hoff 13 (by simp)
     have H14 := hoff 14 (by simp)
     have H3 := hoff 3 (by simp)
     simp only [Act.eval] at H0 H13 H14 H3
     simp only [List.take_succ_cons, List.take_zero] at ho hdep
     rcases k with _ | _ | _ | _ | _ | _ | _ | _ | _ | _ | _ | _ | _ | k
     all_goals (first | (simp at ho; done) | skip)
     all_goals simp only [List.getElem?_cons_zero, List.getElem?_cons_succ, Option.some.injEq] at ho
     all_goals subst ho
     ·refine ⟨fun h => absurd h (by decide), fun _ => ?_⟩
      unfold opGives
      simp [execOp, Act.eval, H0, go_sem, givesUpon]
      exact ⟨Fr.refl _ _, rfl⟩
     ·refine ⟨fun h => absurd h (by decide), fun _ => ?_⟩
      unfold opGives
      simp [execOp, Act.eval, H13, go_sem, givesUpon]
      exact ⟨Fr.refl _ _, rfl⟩
     ·have D41 : a'.eval (.tmp 41) = .pointer (some ⟨wr.heap.size, 0, none⟩) := hdep ⟨1, .data⟩ (by simp) rfl _ 41 rfl rfl
      simp only [Act.eval] at D41
      refine ⟨fun h => absurd h (by decide), fun _ => ?_⟩
      unfold opGives
      simp [execOp, Act.eval, go_sem, givesUpon, *]
      exact ⟨Fr.refl _ _, rfl⟩
     ·have D40 : a'.eval (.tmp 40) = .pointer (some ⟨l, 0, none⟩) := hdep ⟨0, .data⟩ (by simp) rfl _ 40 rfl rfl
      have D42 : a'.eval (.tmp 42) = .agg #[.int .i64 kq, .string qn] := hdep ⟨2, .data⟩ (by simp) rfl _ 42 rfl rfl
      simp only [Act.eval] at D40 D42
      refine ⟨fun h => absurd h (by decide), fun _ => ?_⟩
      unfold opGives
      simp [Act.eval, D40, D42, go_sem, givesUpon]
      exact (HCl _ hW).mono fun e w' h => ⟨_, h.1, h.2, rfl⟩
     ·have D43 : a'.eval (.tmp 43) = .agg #[.string (clsAt p ⟨kq, qn⟩).name, .string (clsAt p ⟨kq, qn⟩).super, .slice (some ⟨bf, of, none⟩) (clsAt p ⟨kq, qn⟩).fields.length cf, .slice Am (clsAt p ⟨kq, qn⟩).methods.length cm] := hdep ⟨3, .data⟩ (by simp) rfl _ 43 rfl rfl
      simp only [Act.eval] at D43
      refine ⟨fun h => absurd h (by decide), fun _ => ?_⟩
      unfold opGives
      simp [execOp, Act.eval, D43, go_sem, givesUpon]
      exact ⟨Fr.refl _ _, rfl⟩
     ·refine ⟨fun h => absurd h (by decide), fun _ => ?_⟩
      unfold opGives
      simp [execOp, Act.eval, H13, go_sem, givesUpon]
      exact ⟨Fr.refl _ _, rfl⟩
     ·have D45 : a'.eval (.tmp 45) = .pointer (some ⟨wr.heap.size, 2, none⟩) := hdep ⟨5, .data⟩ (by simp) rfl _ 45 rfl rfl
      simp only [Act.eval] at D45
      refine ⟨fun h => absurd h (by decide), fun _ => ?_⟩
      unfold opGives
      simp [execOp, Act.eval, go_sem, givesUpon, *]
      exact ⟨Fr.refl _ _, rfl⟩
     ·refine ⟨fun h => absurd h (by decide), fun _ => ?_⟩
      unfold opGives
      simp [execOp, Act.eval, H14, go_sem, givesUpon]
      exact ⟨Fr.refl _ _, rfl⟩
     ·have D46 : a'.eval (.tmp 46) = .int .i64 j := hdep ⟨6, .data⟩ (by simp) rfl _ 46 rfl rfl
      have D47 : a'.eval (.tmp 47) = .int .i64 fo := hdep ⟨7, .data⟩ (by simp) rfl _ 47 rfl rfl
      simp only [Act.eval] at D46 D47
      refine ⟨fun h => absurd h (by decide), fun _ => ?_⟩
      unfold opGives
      simp [execOp, Act.eval, D46, D47, go_sem, givesUpon]
      exact ⟨Fr.refl _ _, by show Value.int _ _ = _; rw [hsub]⟩
     ·have D44 : a'.eval (.tmp 44) = .slice (some ⟨bf, of, none⟩) (clsAt p ⟨kq, qn⟩).fields.length cf := hdep ⟨4, .data⟩ (by simp) rfl _ 44 rfl rfl
      have D48 : a'.eval (.tmp 48) = .int .i64 ((j - fo : Nat) : Int) := hdep ⟨8, .data⟩ (by simp) rfl _ 48 rfl rfl
      simp only [Act.eval] at D44 D48
      refine ⟨fun h => absurd h (by decide), fun _ => ?_⟩
      unfold opGives
      simp [execOp, Act.eval, go_sem, givesUpon, *]
      exact ⟨Fr.refl _ _, rfl⟩
     ·have D49 : a'.eval (.tmp 49) = .pointer (some ⟨bf, of + (j - fo) * 3, none⟩) := hdep ⟨9, .data⟩ (by simp) rfl _ 49 rfl rfl
      simp only [Act.eval] at D49
      refine ⟨fun h => absurd h (by decide), fun _ => ?_⟩
      unfold opGives
      simp [execOp, Act.eval, D49, go_sem, givesUpon]
      exact ⟨Fr.refl _ _, rfl⟩
     ·have D50 : a'.eval (.tmp 50) = .pointer (some ⟨bf, of + (j - fo) * 3, none⟩) := hdep ⟨10, .data⟩ (by simp) rfl _ 50 rfl rfl
      simp only [Act.eval] at D50
      refine ⟨fun h => absurd h (by decide), fun _ => ?_⟩
      unfold opGives
      simp [execOp, Act.eval, go_sem, givesUpon, *]
      exact ⟨Fr.refl _ _, rfl⟩
     ·refine ⟨fun h => absurd h (by decide), fun _ => ?_⟩
      unfold opGives
      simp [execOp, Act.eval, H3, go_sem, givesUpon]
      exact ⟨Fr.refl _ _, rfl⟩
    intro vs WR hWR hv hne
    have e0 : vs 0 = _ := hv 0 (by omega)
    have e1 : vs 1 = _ := hv 1 (by omega)
    have e2 : vs 2 = _ := hv 2 (by omega)
    have e3 : vs 3 = _ := hv 3 (by omega)
    have e4 : vs 4 = _ := hv 4 (by omega)
    have e5 : vs 5 = _ := hv 5 (by omega)
    have e6 : vs 6 = _ := hv 6 (by omega)
    have e7 : vs 7 = _ := hv 7 (by omega)
    have e8 : vs 8 = _ := hv 8 (by omega)
    have e9 : vs 9 = _ := hv 9 (by omega)
    have e10 : vs 10 = _ := hv 10 (by omega)
    have e11 : vs 11 = _ := hv 11 (by omega)
    have e12 : vs 12 = _ := hv 12 (by omega)
    simp only [List.take_succ_cons, List.take_zero, List.drop_succ_cons, List.drop_zero, putsL, if_true, Nat.zero_add, Nat.reduceAdd, e0, e1, e2, e3, e4, e5, e6, e7, e8, e9, e10, e11, e12]
    simp only [Act.put, List.setIfInBounds_toArray, List.set_cons_zero, List.set_cons_succ]
    clear e0 e1 e2 e3 e4 e5 e6 e7 e8 e9 e10 e11 e12 hv
    have hF6 := hF5.keep hWR
    have hB6 := hB3.keep ((hf4R.trans0 hf5R).trans0 hWR)
    have hw6 : Fr No w2 WR := hw5.trans0 hWR
    obtain ⟨y0, y1, y2, y3, y4⟩ := hF6.c5
    have yl := hF6.lt
    clear KG KF HCl hsub
    by_cases hnm : f.name.toList = m.toList
    ·have HA := fun W (hW : Fr No WR W) => agree_ok l bl (n + 2) p g2 k kq f.kind W ((hLo2.keep hw6).keep hW) (by have := hsk; exact this)
     have hd3 : Hid (V = if agreeK p k kq f.kind then (⟨⟨kq, qn⟩, j, f.kind⟩, 1) else (zeroF, 4)) := hd2.out.trans (by rw [if_pos (by simpa using hnm)])
     clear hd2
     generalize agreeK p k kq f.kind = ag at *
     replace hnm := Lib.hid hnm
     have hnb : (f.name.toList == m.toList) = true := by simpa using hnm.out
     cases ag
     ·go_wp2_with (go_at_call 116; refine (HA _ (Fr.refl _ _)).mono ?_; rintro e w7 ⟨rfl, hf7⟩; have hF7 := hF6.keep hf7; have hB7 := hB6.keep hf7; have ⟨z0, z1, z2, z3, z4⟩ := hB7.c5; have zf := (fun j => hB7.frozen j); have zl := hB7.lt; have ⟨x0, x1, x2, x3, x4⟩ := hF7.c5; have xl := hF7.lt; clear y0 y1 y2 y3 y4 yl)
      refine bodyPost_ret (v := .tuple #[.agg #[.int .i64 0, .string ⟨#[]⟩, .int .i64 0, .int .i64 0, .string ⟨#[]⟩], .iface 145 (.pointer (some ⟨w7.heap.size, 0, none⟩))]) (by simp [results, Tryz.results86, go_sem, *]) rfl ?_
      exact .mk (hd3.out.trans (if_neg Bool.false_ne_true)) rfl (.mk (by decide) bx5) (set5 ((hw2.trans0 hw6).trans0 hf7) (Nat.le_refl _)) (h0.over ⟨g2, hLo2.keep (hw6.trans0 hf7), hg2⟩ ((hw2.trans0 hw6).trans0 hf7) (set5X (Fr.refl _ _) (Nat.le_refl _)))
     ·go_wp2_with (go_at_call 116; refine (HA _ (Fr.refl _ _)).mono ?_; rintro e w7 ⟨rfl, hf7⟩; have hF7 := hF6.keep hf7; have hB7 := hB6.keep hf7; have ⟨z0, z1, z2, z3, z4⟩ := hB7.c5; have zf := (fun j => hB7.frozen j); have zl := hB7.lt; have ⟨x0, x1, x2, x3, x4⟩ := hF7.c5; have xl := hF7.lt; clear y0 y1 y2 y3 y4 yl)
      refine bodyPost_ret (v := .tuple #[.agg #[.int .i64 kq, .string qn, .int .i64 j, .int .i64 f.kind.kind, .string f.kind.name], .nilIface]) (by simp [results, Tryz.results86, go_sem, *]) rfl ?_
      exact .mk (hd3.out.trans (if_pos trivial)) rfl (.inl ⟨rfl, rfl⟩) (set5' ((hw2.trans0 hw6).trans0 hf7) (Nat.le_refl _)) (h0.over ⟨g2, hLo2.keep (hw6.trans0 hf7), hg2⟩ ((hw2.trans0 hw6).trans0 hf7) (set5X' (Fr.refl _ _) (Nat.le_refl _)))
    ·have hd3 : Hid (V = getGo p k m (j + 1) (F.drop (j + 1))) := hd2.out.trans (by rw [if_neg (by simpa using hnm)])
     clear hd2
     have hnb : (f.name.toList == m.toList) = false := by simpa using hnm
     have hnb2 : (f.name.toList != m.toList) = true := by simpa using hnm
     go_wp2
     go_roundw
     case rel => exact ⟨j + 1, by omega, by go_num, hd3, hw6⟩
     case measure => simp [intOf]; omega
   ·have HS : Hid (V = (zeroF, 3)) := hd.out.trans (by rw [List.drop_of_length_le (by have := hll.out; omega)]; rfl)
    have hBr := hB2.keep hwr
    obtain ⟨z0, z1, z2, z3, z4⟩ := hBr.c5
    have zf := fun j => hBr.frozen j
    have zl := hBr.lt
    clear hd hsl hB2 hR2 hfa hlg hlh HFF
    go_wp2
    refine bodyPost_ret (v := .tuple #[.agg #[.int .i64 0, .string ⟨#[]⟩, .int .i64 0, .int .i64 0, .string ⟨#[]⟩], .iface 145 (.pointer (some ⟨wr.heap.size, 0, none⟩))]) (by simp [results, Tryz.results86, go_sem, *]) rfl ?_
    exact .mk HS.out rfl (.mk (by decide) bx5) (set5 (hw2.trans0 hwr) (Nat.le_refl _)) (h0.over ⟨g2, hLo2.keep hwr, hg2⟩ (hw2.trans0 hwr) (set5X (Fr.refl _ _) (Nat.le_refl _)))
 ·unfold getG at hV
  dsimp only at hV
  rw [if_neg hc] at hV
  replace hV := Lib.hid hV
  go_enter Tryz.func86, Tryz.ntmps86
  go_wp2_with (go_at_call 73; refine (HK _ frc).mono ?_; rintro e w1 ⟨ev, rfl, he, hf1, hL1⟩; obtain ⟨eb, rfl, heb⟩ := he.some hc; clear he; have hw1 : Fr (fun b => b = bl) w w1 := (show Fr No w (w.alloc (.cells #[.int .i64 0, .string ⟨#[]⟩, .int .i64 0, .int .i64 0, .string ⟨#[]⟩] 154)) from frc).of0.same hf1; have B1 := B0.keepX hf1 (by omega); have ⟨z0, z1, z2, z3, z4⟩ := B1.c5; have zf := (fun j => B1.frozen j); have zl := B1.lt)
  have hne : eb ≠ w.heap.size := by
   intro h9
   rw [h9] at heb
   unfold Bx at heb B1
   rw [heb] at B1
   simp at B1
  clear HK B0
  refine bodyPost_ret (v := .tuple #[.agg #[.int .i64 0, .string ⟨#[]⟩, .int .i64 0, .int .i64 0, .string ⟨#[]⟩], .iface 145 (.pointer (some ⟨eb, 0, none⟩))]) (by simp [results, Tryz.results86, go_sem, *]) rfl ?_
  exact .mk hV.out rfl (.inr ⟨hc, eb, rfl, bxc⟩) frc ((h0.over hL1 hw1 frx).mono (by omega))
end Go.Proofs.YtbalicnnlfennaaGreat
