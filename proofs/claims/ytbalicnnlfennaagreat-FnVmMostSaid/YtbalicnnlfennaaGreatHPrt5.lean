/- The law FnVmMost. -/
import Derived.Test.YtbalicnnlfennaaGreatHPrt4
namespace Go.Proofs.YtbalicnnlfennaaGreat
open Go.RowKit

theorem SmS_out {o : List Int} (ho : OutsOk o) : SmS (doneO o) := ⟨by simp [doneO], by simp [doneO], by have := ho.1; simp [doneO]; omega, by simp [doneO], by simp [doneO]⟩
theorem SmS_at {o : List Int} (ho : OutsOk o) (x : Int) : SmS (atO 12 (locM x) [] o) := ⟨by simp [atO], by simp [atO], by have := ho.1; simp [atO]; omega, by simp [atO], by simp [atO, locM]⟩
theorem stB_out {o : List Int} (ho : OutsOk o) : stB mostP (doneO o) = true := by
  have h1 : o.all numB = true := List.all_eq_true.2 ho.2
  have h2 := ho.1
  simp [stB, doneO, heapB, objB, p_can, valB, layK, layL, p_chain, p_clsAt, mainCls, fldsOf, layGo, show numB 8 = true from by decide]
  exact ⟨decide_eq_true h2, ho.2⟩
theorem stB_at {o : List Int} (ho : OutsOk o) {x : Int} (hx : numB x = true) : stB mostP (atO 12 (locM x) [] o) = true := by
  have h2 := ho.1
  simp [stB, atO, locM, frmB, hasMB, heapB, objB, p_can, p_clsAt, mainCls, p_mth, mainMth, valB, noVal, layK, layL, p_chain, fldsOf, layGo, hx, mostCode]
  exact ⟨decide_eq_true h2, ho.2⟩
theorem most_go1 {x : Nat} (hx : x ≤ 44) : GoOk mostP (begT x) := p_go most_lod (by simp [mostCode]) (numB_nat hx) ((mostRun_ok hx).less (by omega)) (by
  obtain ⟨o, ho, h | ⟨y, _, h⟩⟩ := most_half hx
  · rw [h]; exact SmS_out ho
  · rw [h]; exact SmS_at ho _)
theorem most_two {x : Nat} (hx : x ≤ 44) : runM mostP true 400 (runM mostP true 400 (begT x)) = doneO (outR x []) := by
  rw [← runM_add, most_all hx]
theorem most_go2 {x : Nat} (hx : x ≤ 44) : GoOk mostP (runM mostP true 400 (begT x)) := by
  have hr : RunOk mostP true (runM mostP true 400 (begT x)) 400 := (mostRun_ok hx).later
  have hs : SmS (runM mostP true 400 (runM mostP true 400 (begT x))) := by rw [most_two hx]; exact SmS_out (outR_ok x hx [] ⟨by simp, by simp⟩)
  obtain ⟨o, ho, h | ⟨y, hy, h⟩⟩ := most_half hx
  · rw [h] at hr hs ⊢
    exact ⟨most_lod, stB_out ho, by simp [doneO]; decide, by simp [doneO], by simp [doneO], SmS_out ho, hr, hs⟩
  · rw [h] at hr hs ⊢
    exact ⟨most_lod, stB_at ho (numB_nat hy), by simp [atO]; decide, by simp [atO]; decide, by simp [atO], SmS_at ho _, hr, hs⟩
theorem outs_len (x : Nat) : (outR x []).length = min x 40 := by rw [outs_fin]; simp
theorem outs_at (x : Nat) (j : Nat) (h : j < (outR x []).length) : (outR x [])[j] = (x : Int) - (j : Int) := by
  have h2 := outs_fin x
  simp only [h2, List.getElem_map, List.getElem_range]
def mapCells (v w : Value) (m : Mp) : List Value := [.int .i64 m.at_, v, match m.stack with | [] => .slice none 0 0 | _ => w]
theorem loGivesV_ok (A1 A2 A3 : Option Addr) (n1 c1 n2 c2 n3 c3 : Nat) (n : Int) (w : World) : Calls Tryz.prog 13 #[.agg #[.int .i64 2, .slice A1 n1 c1, .slice A2 n2 c2, .slice A3 n3 c3, .int .i64 1, .int .i64 n], .int .i64 n] w (Gives (.bool true) w) := by
  go_enter Tryz.func13, Tryz.ntmps13
  go_wp2
  refine bodyPost_ret (results_tmp rfl _ _ _) rfl ?_
  exact ⟨rfl, frc⟩

set_option maxRecDepth 100000 in
set_option maxHeartbeats 4000000 in
theorem fnVmMost_ok (v : Value) (bs : List Int) (w : World) (h : Sl No w 1 ByC v bs) :
    Calls Tryz.prog 3 #[v] w (BoolFr true w) := by
  obtain ⟨A, c, rfl, _, hlen⟩ := h.form
  unfold maxLen at hlen
  clear h
  by_cases hb : 1048576 < bs.length
  · have hb' : (1048576 : Int) < (bs.length : Int) := by omega
    go_enter Tryz.func3, Tryz.ntmps3
    go_wp2
    go_ret
    exact .mk rfl frc
  · have hb' : ¬ (1048576 : Int) < (bs.length : Int) := by omega
    obtain ⟨x, hx⟩ : ∃ x : Nat, x = bs.length % 45 := ⟨_, rfl⟩
    have hx44 : x ≤ 44 := by omega
    have hm : ((bs.length : Int) % 45) = (x : Int) := by omega
    have hnx := numB_nat hx44
    have HD := p_do most_lod most_right hnx (okOps_of rfl)
    have HG1 := most_go1 hx44
    have HG2 := most_go2 hx44
    have HZ := most_two hx44
    replace hx := Lib.hid hx
    go_enter Tryz.func3, Tryz.ntmps3
    go_wp2_with fail
    obtain ⟨w4, hw4⟩ : ∃ w4, w4 = ((((w.alloc (.cells (selfT.flatMap tagCells).toArray 24)).alloc (.cells (mostCode.flatMap insCells).toArray 27)).alloc (.cells ([numT].flatMap tagCells).toArray 24)).alloc (.cells (mostMaps.flatMap (mapCells (.slice (some ⟨w.heap.size, 0, none⟩) 3 3) (.slice (some ⟨w.heap.size + 1 + 1, 0, none⟩) 1 1))).toArray 34)) := ⟨_, rfl⟩
    have B2 : Bx w4 w.heap.size 24 (selfT.flatMap tagCells).toArray := hw4 ▸ (((Bx.new _ _ _).alloc _).alloc _).alloc _
    have B3 : Bx w4 (w.heap.size + 1) 27 (mostCode.flatMap insCells).toArray := hw4 ▸ ((Bx.new_ (by simp)).alloc _).alloc _
    have B5 : Bx w4 (w.heap.size + 1 + 1) 24 ([numT].flatMap tagCells).toArray := hw4 ▸ (Bx.new_ (by simp)).alloc _
    have B4 : Bx w4 (w.heap.size + 1 + 1 + 1) 34 (mostMaps.flatMap (mapCells (.slice (some ⟨w.heap.size, 0, none⟩) 3 3) (.slice (some ⟨w.heap.size + 1 + 1, 0, none⟩) 1 1))).toArray := hw4 ▸ Bx.new_ (by simp)
    have hf4 : Fr No w w4 := hw4 ▸ frc
    have hsf : Sl No w4 2 TagC (.slice (some ⟨w.heap.size, 0, none⟩) 3 3) selfT := Sl.tagBx B2 (by decide) (by decide)
    have hsn : Sl No w4 2 TagC (.slice (some ⟨w.heap.size + 1 + 1, 0, none⟩) 1 1) [numT] := Sl.tagBx B5 (by decide) (by decide)
    have hmp : Sl No w4 3 (MapC No w4) (.slice (some ⟨w.heap.size + 1 + 1 + 1, 0, none⟩) 3 3) mostMaps := Sl.ofBx (xs := mostMaps) (fun _ => rfl) B4 (fun m hm => by
      unfold mostMaps at hm
      rcases List.mem_cons.1 hm with rfl | hm
      · exact ⟨_, _, rfl, hsf, slNil⟩
      · rcases List.mem_cons.1 hm with rfl | hm
        · exact ⟨_, _, rfl, hsf, slNil⟩
        · rw [List.mem_singleton.1 hm]
          exact ⟨_, _, rfl, hsf, hsn⟩) (by decide)
    have HM := loMain0_ok mostCode mostMaps (.slice (some ⟨w.heap.size + 1, 0, none⟩) 13 13) (.slice (some ⟨w.heap.size + 1 + 1 + 1, 0, none⟩) 3 3) w4 (Sl.insBx B3 (by decide) (by decide)) hmp
    rw [hw4] at HM
    delta mostP at HG1 HG2 HZ
    generalize mainP [] mostCode mostMaps = P at *
    obtain ⟨o, ho⟩ : ∃ o, o = outR x [] := ⟨_, rfl⟩
    have hol : o.length = min x 40 := by rw [ho]; exact outs_len x
    have hoa : ∀ (j : Nat) (y : Int), o[j]? = some y → y = (x : Int) - (j : Int) := fun j y h => by
      rw [ho] at h
      obtain ⟨h1, h2⟩ := List.getElem?_eq_some_iff.1 h
      rw [← h2, outs_at x j h1]
    rw [← ho] at HZ
    clear ho
    generalize begT (x : Int) = T0 at *
    generalize hT1 : runM P true 400 T0 = T1 at *
    refine HM.mono ?_
    clear HM
    rintro e w5 ⟨⟨pv, rfl, hpv⟩, hf5⟩
    have hw5 : Fr No w w5 := hf4.trans0 (hw4 ▸ hf5)
    obtain ⟨Ap, cp, rfl, _, _⟩ := hpv.form
    clear B2 B3 B4 B5 hsf hsn hmp hf4 hw4 hf5
    go_wp2_with fail
    obtain ⟨w6, hw6⟩ : ∃ w6, w6 = ((w5.alloc (.cells #[.slice Ap P.keepers.length cp] 31)).alloc (.cells #[.int .i64 (x : Int)] 3)) := ⟨_, rfl⟩
    have B6 : Bx w6 w5.heap.size 31 #[.slice Ap P.keepers.length cp] := hw6 ▸ (Bx.new _ _ _).alloc _
    have B7 : Bx w6 (w5.heap.size + 1) 3 #[.int .i64 (x : Int)] := hw6 ▸ Bx.new_ (by simp)
    have hf6 : Fr No w5 w6 := hw6 ▸ frc
    rw [← hw6]
    clear hw6
    have hpk := fun W (hW : Fr No w6 W) => hpv.keep (hf6.trans0 hW) (fun _ h => h) (fun _ _ _ h => h.keep (hf6.trans0 hW) (fun _ h => h))
    refine (vmNew_do HD _ _ w6 (hpk _ (Fr.refl _ _)) (OutC.one B7)).mono ?_
    rintro e w7 ⟨⟨cs, rfl, hst⟩, hf7⟩
    have hs0 : StC No w7 cs T0 := hst.weaken (fun _ h => h.elim)
    clear hst hpv
    have hs1 := hs0
    obtain ⟨vf, vh, vo, rfl, hh1, hh2, hh3⟩ := hs0
    obtain ⟨Af, cf, rfl, _, _⟩ := hh1.form
    obtain ⟨Ah, ch, rfl, _, _⟩ := hh2.form
    obtain ⟨Ao, co, rfl, _, _⟩ := hh3.form
    clear hh1 hh2 hh3
    go_wp2_with fail
    obtain ⟨w8, hw8⟩ : ∃ w8, w8 = (w7.alloc (.cells #[.int .i64 T0.status, .slice Af T0.frames.length cf, .slice Ah T0.heap.length ch, .slice Ao T0.outs.length co, .int .i64 T0.back.kind, .int .i64 T0.back.n] tVSt)) := ⟨_, rfl⟩
    have B8 : Bx w8 w7.heap.size tVSt #[.int .i64 T0.status, .slice Af T0.frames.length cf, .slice Ah T0.heap.length ch, .slice Ao T0.outs.length co, .int .i64 T0.back.kind, .int .i64 T0.back.n] := hw8 ▸ bxc
    have hf8 : Fr No w7 w8 := hw8 ▸ frc
    rw [← hw8]
    clear hw8
    have hf68 := hf7.trans0 hf8
    have KP := (B6.keep hf68).r1
    have KS := B8.r6
    have HR1 := fun W (hW : Fr No w8 W) => vmRun_go HG1 _ (.slice Ap P.keepers.length cp) W (hpk W (hf68.trans0 hW)) (hs1.keep (hf8.trans0 hW) (fun _ h => h))
    rw [hT1] at HR1
    have HR2 := fun W (hW : Fr No w8 W) cs (hc : StC No W cs T1) => vmRun_go HG2 cs (.slice Ap P.keepers.length cp) W (hpk W (hf68.trans0 hW)) hc
    rw [HZ] at HR2
    have hw8 : Fr No w w8 := (hw5.trans0 hf6).trans0 hf68
    clear HD HG1 HG2 HZ hT1 hs1 hpk B6 B7 B8 hw5 hf6 hf7 hf8 hf68
    refine wp_region_monR 6 54 [mV (.agg #[.slice Ap P.keepers.length cp]), mV (.agg #[.slice Ap P.keepers.length cp]), mV (.agg #[.int .i64 T0.status, .slice Af T0.frames.length cf, .slice Ah T0.heap.length ch, .slice Ao T0.outs.length co, .int .i64 T0.back.kind, .int .i64 T0.back.n]), mC (newP T1) (newP_mono T1), mC (newP (doneO o)) (newP_mono (doneO o)), mB 42 (#[.int .i64 0, .slice none 0 0, .slice none 0 0, .slice none 0 0, .int .i64 0, .int .i64 0]) w8.heap.size] (by kernel_rfl) (by kernel_rfl) (by simp) ?_ ?_
    · refine hopC ?_ <| hopC ?_ <| hopC ?_ <| hopC ?_ <| hopC ?_ <| hopC ?_ <| hopZ
      all_goals (intro a' W hW hoff hdep; have hbs := hW.size; have H6 := hoff 6 rfl; have H7 := hoff 7 rfl; refine nE rfl ?_)
      · clear hoff hdep; simp [execOp, Act.eval, go_sem, givesUpon, *]; exact fr1 rfl
      · clear hoff hdep; simp [execOp, Act.eval, go_sem, givesUpon, *]; exact fr1 rfl
      · clear hoff hdep; simp [execOp, Act.eval, go_sem, givesUpon, *]; exact fr1 rfl
      · have D50 : _ = _ := hdep 1 50 rfl; have D51 : _ = _ := hdep 2 51 rfl; simp [Act.eval, D50, D51, go_sem, givesUpon]; exact (HR1 _ hW).mono (by rintro e w9 ⟨⟨cs, rfl, h3⟩, h4⟩; exact ⟨_, rfl, h4, cs, rfl, h3.weaken (fun _ h => h.elim)⟩)
      · have D49 : _ = _ := hdep 0 49 rfl; obtain ⟨cs, D52, ht⟩ : (newP T1) _ W := hdep 3 52 rfl; simp [Act.eval, D49, D52, go_sem, givesUpon]; exact (HR2 _ hW cs ht).mono (by rintro e w9 ⟨⟨cs, rfl, h3⟩, h4⟩; exact ⟨_, rfl, h4, cs, rfl, h3.weaken (fun _ h => h.elim)⟩)
      · simp [execOp, go_sem, givesUpon]; exact ⟨(Fr.refl _ _).alloc _, ⟨_, rfl, Bx.new_ rfl, hbs⟩, Nat.le_refl _⟩
    intro vs WR hWR hv hne
    obtain ⟨csR3, e3, htR3⟩ := hv 3 (by omega)
    obtain ⟨csR4, e4, htR4⟩ := hv 4 (by omega)
    obtain ⟨b5, e5, hb5, hl5⟩ := hv 5 (by omega)
    simp only [List.drop_succ_cons, List.drop_zero, putsR_B, putsR_C, putsR_V, putsR_0, Nat.zero_add, Nat.reduceAdd, e3, e4, e5]
    simp only [Act.put, List.setIfInBounds_toArray, List.set_cons_zero, List.set_cons_succ]
    clear e3 e4 e5 hv
    have hwR : Fr No w WR := hw8.trans0 hWR
    clear hne HR1 HR2 htR3 KP KS
    obtain ⟨vf2, vh2, vo2, rfl, k1, k2, k3⟩ := htR4
    obtain ⟨Af2, cf2, rfl, _, _⟩ := k1.form
    obtain ⟨Ah2, ch2, rfl, _, _⟩ := k2.form
    obtain ⟨Ao2, co2, rfl, hco, _⟩ := k3.form
    have hco : o.length ≤ co2 := hco
    change Sl No WR 1 OutC (.slice Ao2 o.length co2) o at k3
    obtain ⟨x0, x1, x2, x3, x4, x5⟩ := hb5.c6
    have xf := fun i => hb5.frozen i
    have xl := hb5.lt
    have hx40 : Hid (o.length = x ∧ (x : Int) ≤ 40 ∨ o.length = 40 ∧ ¬ (x : Int) ≤ 40 ∧ (40 : Int) < (x : Int)) := by
      rcases Nat.lt_or_ge 40 x with h9 | h9
      · exact .inr ⟨by omega, by omega, by omega⟩
      · exact .inl ⟨by omega, by omega⟩
    have k4 : Sl (fun b => b = b5) WR 1 OutC (.slice Ao2 o.length co2) o := by
      obtain ⟨A9, c9, e9, q1, q2, q3⟩ := k3
      refine ⟨A9, c9, e9, q1, q2, fun h0 => ?_⟩
      obtain ⟨g, off, rfl, _, hc⟩ := q3 h0
      refine ⟨g, off, rfl, fun e => ?_, hc⟩
      obtain ⟨cs9, r1, r2, r3⟩ := hc 0 h0
      have hv0 := hoa 0 _ (List.getElem?_eq_getElem h0)
      have hcell := hb5.cell (off + 0 * 1 + 0)
      rw [← e, r3 0 (by decide), r1] at hcell
      rcases off with _ | _ | _ | _ | _ | _ | off
      all_goals simp at hcell
      all_goals omega
    clear k1 k2 k3 hol
    unfold doneO
    dsimp only
    generalize hN : o.length = N at *
    rcases hx40.out with ⟨h8, h9⟩ | ⟨h8, h9, h7⟩
    all_goals (
      clear hx40
      replace hN := Lib.hid hN
      subst h8
      go_wp2_with fail)
    · obtain ⟨W7, hW7⟩ : ∃ W7, W7 = ((((((WR.setCell ⟨b5, 0, none⟩ (.int .i64 2)).setCell ⟨b5, 1, none⟩ (.slice Af2 0 cf2)).setCell ⟨b5, 2, none⟩ (.slice Ah2 1 ch2)).setCell ⟨b5, 3, none⟩ (.slice Ao2 N co2)).setCell ⟨b5, 4, none⟩ (.int .i64 1)).setCell ⟨b5, 5, none⟩ (.int .i64 8)) := ⟨_, rfl⟩
      have B7 : Bx W7 b5 tVSt #[.int .i64 2, .slice Af2 0 cf2, .slice Ah2 1 ch2, .slice Ao2 N co2, .int .i64 1, .int .i64 8] := hW7 ▸ hb5.fill6
      have hf7 : Fr (fun b => b = b5) WR W7 := hW7 ▸ (((((Fr.one _ _ _ _).same (Fr.one _ _ _ _)).same (Fr.one _ _ _ _)).same (Fr.one _ _ _ _)).same (Fr.one _ _ _ _)).same (Fr.one _ _ _ _)
      rw [← hW7]
      clear hW7 x0 x1 x2 x3 x4 x5 xf xl hb5
      have k7 := k4.keep (R' := OutC) hf7 (fun _ h => h) (fun _ _ _ h => h)
      have hw7 : Fr No w W7 := hwR.trans hf7 (fun b hb e => by have := hw8.size; omega)
      clear k4 hf7 hwR hWR
      refine (loGivesV_ok _ _ _ _ _ _ _ _ _ 8 _).mono ?_
      rintro e w9 ⟨rfl, hf9⟩
      have k9 := k7.keep (R' := OutC) hf9 (fun _ h => h.elim) (fun _ _ _ h => h)
      have B9 := B7.keep hf9
      have hw9 := hw7.trans0 hf9
      obtain ⟨_, _, _, y3, _, _⟩ := B9.c6
      have yf := fun i => B9.frozen i
      have yl := B9.lt
      have hI0 : Hid (Fr No w9 w9) := Fr.refl _ _
      clear k7 B7 hf9 hw7
      go_wp2_with fail
      clear y3 yf yl
      go_loopw [9] (fun i wr => ∃ j : Nat, j ≤ N ∧ i = .int .i64 j ∧ Hid (Fr No w9 wr)) (fun i _ => N - (intOf i).toNat)
      case atStart => exact ⟨0, Nat.zero_le _, rfl, hI0⟩
      case round =>
        clear hI0
        obtain ⟨j, hj, rfl, hI⟩ := hrel
        have hfr := hI.out
        clear hI
        have Br := B9.keep hfr
        obtain ⟨_, _, _, y3, _, _⟩ := Br.c6
        have yf := fun i => Br.frozen i
        have yl := Br.lt
        have kr := k9.keep (R' := OutC) hfr (fun _ h => h.elim) (fun _ _ _ h => h)
        by_cases hlt : j < N
        · have hjo : j < o.length := by rw [hN.out]; exact hlt
          obtain ⟨g, off, rfl, _, o0⟩ := kr.num hjo
          have hv0 := hoa j _ (List.getElem?_eq_getElem hjo)
          rw [hv0] at o0
          have hadd : IntKind.i64.wrap ((j : Int) + 1) = ((j + 1 : Nat) : Int) := by rw [IntWalk.i64_in _ (by omega)]; simp
          have hsub : IntKind.i64.wrap ((N : Int) - (j : Int)) = (N : Int) - (j : Int) := IntWalk.i64_in _ (by omega)
          clear kr Br k9 B9 hv0 hjo
          go_wp2_with fail
          exact ⟨⟨j + 1, by omega, by simp, Lib.hid hfr⟩, by simp [intOf]; omega⟩
        · obtain rfl : j = N := by omega
          clear kr Br k9 B9
          go_wp2_with fail
          go_ret
          exact .mk rfl (hw9.trans0 hfr)
    · obtain ⟨W7, hW7⟩ : ∃ W7, W7 = ((((((WR.setCell ⟨b5, 0, none⟩ (.int .i64 2)).setCell ⟨b5, 1, none⟩ (.slice Af2 0 cf2)).setCell ⟨b5, 2, none⟩ (.slice Ah2 1 ch2)).setCell ⟨b5, 3, none⟩ (.slice Ao2 40 co2)).setCell ⟨b5, 4, none⟩ (.int .i64 1)).setCell ⟨b5, 5, none⟩ (.int .i64 8)) := ⟨_, rfl⟩
      have B7 : Bx W7 b5 tVSt #[.int .i64 2, .slice Af2 0 cf2, .slice Ah2 1 ch2, .slice Ao2 40 co2, .int .i64 1, .int .i64 8] := hW7 ▸ hb5.fill6
      have hf7 : Fr (fun b => b = b5) WR W7 := hW7 ▸ (((((Fr.one _ _ _ _).same (Fr.one _ _ _ _)).same (Fr.one _ _ _ _)).same (Fr.one _ _ _ _)).same (Fr.one _ _ _ _)).same (Fr.one _ _ _ _)
      rw [← hW7]
      clear hW7 x0 x1 x2 x3 x4 x5 xf xl hb5
      have k7 := k4.keep (R' := OutC) hf7 (fun _ h => h) (fun _ _ _ h => h)
      have hw7 : Fr No w W7 := hwR.trans hf7 (fun b hb e => by have := hw8.size; omega)
      clear k4 hf7 hwR hWR
      refine (loGivesV_ok _ _ _ _ _ _ _ _ _ 8 _).mono ?_
      rintro e w9 ⟨rfl, hf9⟩
      have k9 := k7.keep (R' := OutC) hf9 (fun _ h => h.elim) (fun _ _ _ h => h)
      have B9 := B7.keep hf9
      have hw9 := hw7.trans0 hf9
      obtain ⟨_, _, _, y3, _, _⟩ := B9.c6
      have yf := fun i => B9.frozen i
      have yl := B9.lt
      have hI0 : Hid (Fr No w9 w9) := Fr.refl _ _
      clear k7 B7 hf9 hw7
      go_wp2_with fail
      clear y3 yf yl
      go_loopw [9] (fun i wr => ∃ j : Nat, j ≤ 40 ∧ i = .int .i64 j ∧ Hid (Fr No w9 wr)) (fun i _ => 40 - (intOf i).toNat)
      case atStart => exact ⟨0, Nat.zero_le _, rfl, hI0⟩
      case round =>
        clear hI0
        obtain ⟨j, hj, rfl, hI⟩ := hrel
        have hfr := hI.out
        clear hI
        have Br := B9.keep hfr
        obtain ⟨_, _, _, y3, _, _⟩ := Br.c6
        have yf := fun i => Br.frozen i
        have yl := Br.lt
        have kr := k9.keep (R' := OutC) hfr (fun _ h => h.elim) (fun _ _ _ h => h)
        by_cases hlt : j < 40
        · have hjo : j < o.length := by rw [hN.out]; exact hlt
          obtain ⟨g, off, rfl, _, o0⟩ := kr.num hjo
          have hv0 := hoa j _ (List.getElem?_eq_getElem hjo)
          rw [hv0] at o0
          have hadd : IntKind.i64.wrap ((j : Int) + 1) = ((j + 1 : Nat) : Int) := by rw [IntWalk.i64_in _ (by omega)]; simp
          have hsub : IntKind.i64.wrap ((x : Int) - (j : Int)) = (x : Int) - (j : Int) := IntWalk.i64_in _ (by omega)
          clear kr Br k9 B9 hv0 hjo
          go_wp2_with fail
          exact ⟨⟨j + 1, by omega, by simp, Lib.hid hfr⟩, by simp [intOf]; omega⟩
        · obtain rfl : j = 40 := by omega
          clear kr Br k9 B9
          go_wp2_with fail
          go_ret
          exact .mk rfl (hw9.trans0 hfr)
end Go.Proofs.YtbalicnnlfennaaGreat
