/- The law FnLookWrong. -/
import Derived.Test.YtbalicnnlfennaaGreatHPrj4
namespace Go.Proofs.YtbalicnnlfennaaGreat
open Go.RowKit

theorem p_here {code : List Ins} {maps : List Mp} (hp : lodB (mainP [] code maps) = true) : ∃ i, Here (mainP [] code maps) ⟨(0 : Nat), sMain⟩ 0 i := by
  have hw : whoseK (mainP [] code maps) 0 sMain = (⟨0, sMain⟩, 1) := by
    unfold whoseK
    rw [if_pos (show hasK (mainP [] code maps) 0 = true from rfl), p_whose]
  obtain ⟨kc, i, h1, h2⟩ := whoseK_here hp (k := 0) (s := sMain) (by rw [hw])
  rw [hw] at h1
  have h3 : (0 : Int) = kc := congrArg Ref.keeper h1
  obtain rfl : kc = 0 := by omega
  exact ⟨i, h2⟩
theorem p_hasM (code : List Ins) (maps : List Mp) : hasMB (mainP [] code maps) ⟨⟨(0 : Nat), sMain⟩, (0 : Nat)⟩ = true := by
  show hasMB (mainP [] code maps) ⟨⟨0, sMain⟩, 0⟩ = true
  simp [hasMB, p_can, p_clsAt, mainCls]
theorem lw_ops (a : Int) (k : Nat) : OkOps (lwCode a k) := by
  revert k
  refine five ?_ ?_ ?_ ?_ (fun k => ?_)
  all_goals exact okOps_of rfl
section
variable {a : Int} (ha : numB a = true) (h2 : numB (a + a) = true) (k : Nat)
include ha
theorem lwLook_ok (v : Value) (w : World) (h : Sl No w 2 (KprC No w) v (lwP a k).keepers) :
    Calls Tryz.prog 16 #[.agg #[v], .agg #[.int .i64 0, .string sMain], .int .i64 0] w (SaysI (lwAt k) w) := by
  obtain ⟨i, hh⟩ := p_here (lw_lod ha k)
  have hl : 0 < (clsAt (lwP a k) ⟨(0 : Nat), sMain⟩).methods.length := by
    show 0 < (clsAt (lwP a k) ⟨0, sMain⟩).methods.length
    rw [p_clsAt]
    exact Nat.zero_lt_one
  have e : (clsAt (lwP a k) ⟨(0 : Nat), sMain⟩).methods[0] = mainMth (lwCode a k) [] := by
    have h1 : (clsAt (lwP a k) ⟨(0 : Nat), sMain⟩).methods = [mainMth (lwCode a k) []] := by
      show (clsAt (lwP a k) ⟨0, sMain⟩).methods = _
      rw [p_clsAt]
      rfl
    simp only [h1, List.getElem_cons_zero]
  have h9 := lookMethodI_ok (lwP a k) v 0 i 0 sMain w h (lw_lod ha k) hh (by decide) (by decide) hl (by rw [e]; exact lw_ops a k) (p_hasM _ _)
  rw [e] at h9
  have h8 := lw_look (lwP a k) a k
  rw [show lookF (lwP a k) ((0 : Nat) : Int) sMain (mainMth (lwCode a k) []) = ([], lwAt k) from h8] at h9
  exact h9
theorem lwNew_ok (look : Bool) (T : St) (hT : T = enterM (lwP a k) look ⟨1, [], [⟨⟨0, sMain⟩, newVals (lwP a k) ⟨0, sMain⟩⟩], [], noVal⟩ [] ⟨⟨0, sMain⟩, 0⟩ [⟨2, 0⟩, ⟨1, a⟩]) (hs : SmS T) (va pv : Value) (w : World) (hp : Sl No w 2 (KprC No w) pv (lwP a k).keepers) (hv : Sl No w 1 OutC va [a]) :
    Calls Tryz.prog 11 #[.agg #[pv], .bool look, .int .i64 0, .string sMain, .string sRun, va] w (StPost T w) := by
  have hops : OkOps (mthAt (lwP a k) (callB (lwP a k) 0 sMain sRun).1).code := by
    rw [p_call]
    have e : mthAt (lwP a k) (⟨0, sMain⟩, 0) = mainMth (lwCode a k) [] := by unfold mthAt; rw [p_clsAt]; rfl
    show OkOps (mthAt (lwP a k) (⟨0, sMain⟩, 0)).code
    rw [e]
    exact lw_ops a k
  exact (vmNew_ok (lwP a k) look 0 sMain sRun [a] va pv w hp (by decide) (by decide) hv (by simp) (lw_lod ha k) rfl (by decide) (by decide) (by simp [ha]) ⟨0, sMain⟩ (p_class _ _) (by rw [p_call]) (by rw [p_call]; exact p_start _ _ _) (by simp) (by rw [p_lay]; decide) hops T (by rw [p_call]; exact hT) hs)
include h2
theorem lwRun_ok (cs : List Value) (pv : Value) (w : World) (hp : Sl No w 2 (KprC No w) pv (lwP a k).keepers) (hs : StC No w cs (begT a)) :
    Calls Tryz.prog 12 #[.agg #[pv], .bool false, .agg cs.toArray, .int .i64 400] w (StPost (endT 10) w) := by
  obtain ⟨h3, h4⟩ := lw_both ha h2 k
  have h9 := vmRun_ok (lwP a k) false (begT a) 400 cs pv w hp hs (by simp [begT]; decide) (by simp [begT]; decide) (by decide) (lw_lod ha k) (p_stB (by revert k; intro k; revert k; refine five ?_ ?_ ?_ ?_ (fun k => ?_) <;> (intros; simp [lwCode])) ha) (by simp [begT]) (SmS_beg a).flds h4 (by rw [h3]; exact SmS_end 10)
  rw [h3] at h9
  exact h9
end

set_option maxRecDepth 100000 in
set_option maxHeartbeats 8000000 in
theorem fnLookWrong_ok (v : Value) (bs : List Int) (w : World) (h : Sl No w 1 ByC v bs) :
    Calls Tryz.prog 8 #[v] w (BoolFr true w) := by
  obtain ⟨A, c, rfl, _, hlen⟩ := h.form
  unfold maxLen at hlen
  by_cases hb : 1048576 < bs.length
  · have hb' : (1048576 : Int) < (bs.length : Int) := by omega
    clear h
    go_enter Tryz.func8, Tryz.ntmps8
    go_wp2
    go_ret
    exact .mk rfl frc
  · have hb' : ¬ (1048576 : Int) < (bs.length : Int) := by omega
    have HN1 := fun W (hW : Fr No w W) => loNum_ok (.slice A bs.length c) bs 1 W (h.keep hW (fun _ h => h) (fun _ _ _ h => h)) (.inl rfl)
    clear h
    go_enter Tryz.func8, Tryz.ntmps8
    go_wp2_with fail
    refine (HN1 _ frc).mono ?_
    rintro e w1 ⟨x0, rfl, hf1, a1, a2⟩
    clear HN1
    have hxa : -999 ≤ x0.tmod 1000 ∧ x0.tmod 1000 ≤ 999 := by
      have h8 := Int.lt_tmod_of_pos x0 (b := 1000) (by decide)
      have h9 := Int.tmod_lt_of_pos x0 (b := 1000) (by decide)
      omega
    go_wp2_with fail
    generalize x0.tmod 1000 = a at *
    have hna : numB a = true := by unfold numB; simp; omega
    have hn2 : numB (a + a) = true := by unfold numB; simp; omega
    obtain ⟨w2, hw2⟩ : ∃ w2, w2 = ((((((((w1.alloc (.cells #[.int .i64 1, .int .i64 a, .string ⟨#[]⟩, .string ⟨#[]⟩] 27)).alloc (.cells #[.int .i64 1, .int .i64 a, .string ⟨#[]⟩, .string ⟨#[]⟩, .int .i64 2, .int .i64 0, .string ⟨#[]⟩, .string ⟨#[]⟩, .int .i64 4, .int .i64 0, .string ⟨#[]⟩, .string ⟨#[]⟩, .int .i64 10, .int .i64 0, .string ⟨#[]⟩, .string ⟨#[]⟩] 27)).alloc (.cells #[.int .i64 1, .int .i64 a, .string ⟨#[]⟩, .string ⟨#[]⟩, .int .i64 1, .int .i64 a, .string ⟨#[]⟩, .string ⟨#[]⟩, .int .i64 4, .int .i64 0, .string ⟨#[]⟩, .string ⟨#[]⟩, .int .i64 4, .int .i64 0, .string ⟨#[]⟩, .string ⟨#[]⟩, .int .i64 10, .int .i64 0, .string ⟨#[]⟩, .string ⟨#[]⟩] 27)).alloc (.cells #[.int .i64 1, .int .i64 a, .string ⟨#[]⟩, .string ⟨#[]⟩, .int .i64 2, .int .i64 0, .string ⟨#[]⟩, .string ⟨#[]⟩, .int .i64 10, .int .i64 0, .string ⟨#[]⟩, .string ⟨#[]⟩] 27)).alloc (.cells #[.int .i64 1, .int .i64 a, .string ⟨#[]⟩, .string ⟨#[]⟩, .int .i64 1, .int .i64 a, .string ⟨#[]⟩, .string ⟨#[]⟩, .int .i64 1, .int .i64 a, .string ⟨#[]⟩, .string ⟨#[]⟩, .int .i64 1, .int .i64 a, .string ⟨#[]⟩, .string ⟨#[]⟩, .int .i64 10, .int .i64 0, .string ⟨#[]⟩, .string ⟨#[]⟩] 27)).alloc (.cells #[.int .i64 1, .int .i64 a, .string ⟨#[]⟩, .string ⟨#[]⟩, .int .i64 2, .int .i64 2, .string ⟨#[]⟩, .string ⟨#[]⟩, .int .i64 10, .int .i64 0, .string ⟨#[]⟩, .string ⟨#[]⟩] 27)).alloc (.cells #[.slice (some ⟨w1.heap.size + 1, 0, none⟩) 4 4, .slice (some ⟨w1.heap.size + 1 + 1, 0, none⟩) 5 5, .slice (some ⟨w1.heap.size + 1 + 1 + 1, 0, none⟩) 3 3, .slice (some ⟨w1.heap.size + 1 + 1 + 1 + 1, 0, none⟩) 5 5, .slice (some ⟨w1.heap.size + 1 + 1 + 1 + 1 + 1, 0, none⟩) 3 3] 28)).alloc (.cells #[.int .i64 3, .int .i64 4, .int .i64 3, .int .i64 4, .int .i64 2] 3)) := ⟨_, rfl⟩
    have D0 : Bx w2 (w1.heap.size + 1) 27 #[.int .i64 1, .int .i64 a, .string ⟨#[]⟩, .string ⟨#[]⟩, .int .i64 2, .int .i64 0, .string ⟨#[]⟩, .string ⟨#[]⟩, .int .i64 4, .int .i64 0, .string ⟨#[]⟩, .string ⟨#[]⟩, .int .i64 10, .int .i64 0, .string ⟨#[]⟩, .string ⟨#[]⟩] := hw2 ▸ ((((((Bx.new_ (by simp)).alloc _).alloc _).alloc _).alloc _).alloc _).alloc _
    have C0 : Bx w2 (w1.heap.size + 1) 27 ((lwCode a 0).flatMap insCells).toArray := D0
    have D1 : Bx w2 (w1.heap.size + 1 + 1) 27 #[.int .i64 1, .int .i64 a, .string ⟨#[]⟩, .string ⟨#[]⟩, .int .i64 1, .int .i64 a, .string ⟨#[]⟩, .string ⟨#[]⟩, .int .i64 4, .int .i64 0, .string ⟨#[]⟩, .string ⟨#[]⟩, .int .i64 4, .int .i64 0, .string ⟨#[]⟩, .string ⟨#[]⟩, .int .i64 10, .int .i64 0, .string ⟨#[]⟩, .string ⟨#[]⟩] := hw2 ▸ (((((Bx.new_ (by simp)).alloc _).alloc _).alloc _).alloc _).alloc _
    have C1 : Bx w2 (w1.heap.size + 1 + 1) 27 ((lwCode a 1).flatMap insCells).toArray := D1
    have D2 : Bx w2 (w1.heap.size + 1 + 1 + 1) 27 #[.int .i64 1, .int .i64 a, .string ⟨#[]⟩, .string ⟨#[]⟩, .int .i64 2, .int .i64 0, .string ⟨#[]⟩, .string ⟨#[]⟩, .int .i64 10, .int .i64 0, .string ⟨#[]⟩, .string ⟨#[]⟩] := hw2 ▸ ((((Bx.new_ (by simp)).alloc _).alloc _).alloc _).alloc _
    have C2 : Bx w2 (w1.heap.size + 1 + 1 + 1) 27 ((lwCode a 2).flatMap insCells).toArray := D2
    have D3 : Bx w2 (w1.heap.size + 1 + 1 + 1 + 1) 27 #[.int .i64 1, .int .i64 a, .string ⟨#[]⟩, .string ⟨#[]⟩, .int .i64 1, .int .i64 a, .string ⟨#[]⟩, .string ⟨#[]⟩, .int .i64 1, .int .i64 a, .string ⟨#[]⟩, .string ⟨#[]⟩, .int .i64 1, .int .i64 a, .string ⟨#[]⟩, .string ⟨#[]⟩, .int .i64 10, .int .i64 0, .string ⟨#[]⟩, .string ⟨#[]⟩] := hw2 ▸ (((Bx.new_ (by simp)).alloc _).alloc _).alloc _
    have C3 : Bx w2 (w1.heap.size + 1 + 1 + 1 + 1) 27 ((lwCode a 3).flatMap insCells).toArray := D3
    have D4 : Bx w2 (w1.heap.size + 1 + 1 + 1 + 1 + 1) 27 #[.int .i64 1, .int .i64 a, .string ⟨#[]⟩, .string ⟨#[]⟩, .int .i64 2, .int .i64 2, .string ⟨#[]⟩, .string ⟨#[]⟩, .int .i64 10, .int .i64 0, .string ⟨#[]⟩, .string ⟨#[]⟩] := hw2 ▸ ((Bx.new_ (by simp)).alloc _).alloc _
    have C4 : Bx w2 (w1.heap.size + 1 + 1 + 1 + 1 + 1) 27 ((lwCode a 4).flatMap insCells).toArray := D4
    have BO : Bx w2 (w1.heap.size + 1 + 1 + 1 + 1 + 1 + 1) 28 #[.slice (some ⟨w1.heap.size + 1, 0, none⟩) 4 4, .slice (some ⟨w1.heap.size + 1 + 1, 0, none⟩) 5 5, .slice (some ⟨w1.heap.size + 1 + 1 + 1, 0, none⟩) 3 3, .slice (some ⟨w1.heap.size + 1 + 1 + 1 + 1, 0, none⟩) 5 5, .slice (some ⟨w1.heap.size + 1 + 1 + 1 + 1 + 1, 0, none⟩) 3 3] := hw2 ▸ (Bx.new_ (by simp)).alloc _
    have BA : Bx w2 (w1.heap.size + 1 + 1 + 1 + 1 + 1 + 1 + 1) 3 #[.int .i64 3, .int .i64 4, .int .i64 3, .int .i64 4, .int .i64 2] := hw2 ▸ Bx.new_ (by simp)
    have hf2 : Fr No w1 w2 := hw2 ▸ frc
    rw [← hw2]
    clear hw2
    have hcs : ∀ j, ∀ x ∈ lwCode a j, x.name.size ≤ maxLen ∧ x.member.size ≤ maxLen := by
      refine five ?_ ?_ ?_ ?_ (fun k => ?_) <;> (simp [lwCode, insN, insP]; decide)
    have hO : ∀ W, Fr No w2 W → ∀ j, j < 5 → ∃ g, W.cell? ⟨w1.heap.size + 1 + 1 + 1 + 1 + 1 + 1, j, none⟩ = some (.slice (some ⟨g, 0, none⟩) (lwCode a j).length (lwCode a j).length) ∧ Sl No W 4 InsC (.slice (some ⟨g, 0, none⟩) (lwCode a j).length (lwCode a j).length) (lwCode a j) ∧ W.cell? ⟨w1.heap.size + 1 + 1 + 1 + 1 + 1 + 1 + 1, j, none⟩ = some (.int .i64 (lwAt j)) := fun W hW j hj => by
      have KO := BO.keep hW
      have KA := BA.keep hW
      rcases j with _ | _ | _ | _ | _ | j
      · exact ⟨_, KO.cell 0, Sl.insBx (C0.keep hW) (hcs 0) (by simp [lwCode, maxLen]), KA.cell 0⟩
      · exact ⟨_, KO.cell 1, Sl.insBx (C1.keep hW) (hcs 1) (by simp [lwCode, maxLen]), KA.cell 1⟩
      · exact ⟨_, KO.cell 2, Sl.insBx (C2.keep hW) (hcs 2) (by simp [lwCode, maxLen]), KA.cell 2⟩
      · exact ⟨_, KO.cell 3, Sl.insBx (C3.keep hW) (hcs 3) (by simp [lwCode, maxLen]), KA.cell 3⟩
      · exact ⟨_, KO.cell 4, Sl.insBx (C4.keep hW) (hcs 4) (by simp [lwCode, maxLen]), KA.cell 4⟩
      · omega
    have lO := BO.lt
    have lA := BA.lt
    have fO := fun i => BO.frozen i
    have fA := fun i => BA.frozen i
    have hw2 : Fr No w w2 := hf1.trans0 hf2
    have hI0 : Hid (Fr No w2 w2) := Fr.refl _ _
    clear C0 C1 C2 C3 C4 D0 D1 D2 D3 D4 hf1 hf2 hcs
    generalize hq6 : w1.heap.size + 1 + 1 + 1 + 1 + 1 + 1 = q6 at *
    generalize hq7 : w1.heap.size + 1 + 1 + 1 + 1 + 1 + 1 + 1 = q7 at *
    clear hq6 hq7
    go_loopw [7] (fun i wr => ∃ j : Nat, j ≤ 5 ∧ i = .int .i64 j ∧ Hid (Fr No w2 wr)) (fun i _ => 5 - (intOf i).toNat)
    case atStart => exact ⟨0, Nat.zero_le _, rfl, hI0⟩
    case round =>
      clear hI0
      obtain ⟨j, hj, rfl, hI⟩ := hrel
      have hfr := hI.out
      clear hI
      by_cases hlt : j < 5
      · obtain ⟨g, k1, k2, k3⟩ := hO wr hfr j hlt
        have hadd : IntKind.i64.wrap ((j : Int) + 1) = ((j + 1 : Nat) : Int) := by rw [IntWalk.i64_in _ (by omega)]; simp
        have lO2 := (BO.keep hfr).lt
        go_wp2_with fail
        refine (loMain0_ok (lwCode a j) [] (.slice (some ⟨g, 0, none⟩) (lwCode a j).length (lwCode a j).length) (.slice none 0 0) wr k2 slNil).mono ?_
        rintro e w3 ⟨⟨pv, rfl, hpv⟩, hf3⟩
        obtain ⟨Ap, cp, rfl, _, _⟩ := hpv.form
        clear k1 k2
        go_wp2_with fail
        obtain ⟨w4, hw4⟩ : ∃ w4, w4 = (w3.alloc (.cells #[.slice Ap (mainP [] (lwCode a j) []).keepers.length cp] 31)) := ⟨_, rfl⟩
        have B4 : Bx w4 w3.heap.size 31 #[.slice Ap (mainP [] (lwCode a j) []).keepers.length cp] := hw4 ▸ bxc
        have hf4 : Fr No w3 w4 := hw4 ▸ frc
        rw [← hw4]
        clear hw4
        have hpk := fun W (hW : Fr No w4 W) => hpv.keep (hf4.trans0 hW) (fun _ h => h) (fun _ _ _ h => h.keep (hf4.trans0 hW) (fun _ h => h))
        refine (lwLook_ok hna j _ _ (hpk _ (Fr.refl _ _))).mono ?_
        rintro e w5 ⟨⟨u, rfl⟩, hf5⟩
        go_wp2_with fail
        have hpk2 := fun W (hW : Fr No w5 W) => hpk W (hf5.trans0 hW)
        have KP := (B4.keep hf5).r1
        have hwr : Fr No wr w5 := (hf3.trans0 hf4).trans0 hf5
        have B5 := B4.keep hf5
        have lO3 : q6 < wr.heap.size := lO2
        have hq5 : q6 + 1 < w5.heap.size := (BA.keep (hfr.trans0 hwr)).lt
        have hp5 : w3.heap.size < w5.heap.size := B5.lt
        clear hpk hpv B4 hf3 hf4 hf5
        refine wp_region_monR 7 70 [mV (.agg #[.slice Ap (mainP [] (lwCode a j) []).keepers.length cp]), mV (.agg #[.slice Ap (mainP [] (lwCode a j) []).keepers.length cp]), mV (.int .i64 a), mS 3 (#[.int .i64 a]) 1 w5.heap.size, mC (newP (begT a)) (newP_mono (begT a)), mC (newP (endT 10)) (newP_mono (endT 10)), mB 42 (#[.int .i64 0, .slice none 0 0, .slice none 0 0, .slice none 0 0, .int .i64 0, .int .i64 0]) w5.heap.size] (by kernel_rfl) (by kernel_rfl) (by simp) ?_ ?_
        · refine hopC ?_ <| hopC ?_ <| hopC ?_ <| hopC ?_ <| hopC ?_ <| hopC ?_ <| hopC ?_ <| hopZ
          all_goals (intro a' W hW hoff hdep; have hbs := hW.size; have H8 := hoff 8 rfl; have H3 := hoff 3 rfl; refine nE rfl ?_)
          · clear hoff hdep; simp [execOp, Act.eval, go_sem, givesUpon, *]; exact fr1 rfl
          · clear hoff hdep; simp [execOp, Act.eval, go_sem, givesUpon, *]; exact fr1 rfl
          · simp [execOp, Act.eval, H3, go_sem, givesUpon]; exact fr1 rfl
          · have D66 : _ = _ := hdep 2 66 rfl; simp at D66; simp [execOp, Act.eval, D66, go_sem, givesUpon]; exact ⟨(Fr.refl _ _).alloc _, ⟨_, rfl, Bx.new_ rfl, hbs⟩, Nat.le_refl _⟩
          · have D65 : _ = _ := hdep 1 65 rfl; obtain ⟨b, D67, hb, hl⟩ : (slB 3 #[.int .i64 a] 1 w5.heap.size) _ W := hdep 3 67 rfl; simp [Act.eval, D65, D67, go_sem, givesUpon]; exact (lwNew_ok hna j false (begT a) (lw_enterF a a j).symm (SmS_beg a) _ _ _ (hpk2 _ hW) (OutC.one hb)).mono (by rintro e w9 ⟨⟨cs, rfl, h3⟩, h4⟩; exact ⟨_, rfl, h4, cs, rfl, h3.weaken (fun _ h => h.elim)⟩)
          · have D64 : _ = _ := hdep 0 64 rfl; obtain ⟨cs, D68, ht⟩ : (newP (begT a)) _ W := hdep 4 68 rfl; simp [Act.eval, D64, D68, go_sem, givesUpon]; exact (lwRun_ok hna hn2 j cs _ _ (hpk2 _ hW) ht).mono (by rintro e w9 ⟨⟨cs, rfl, h3⟩, h4⟩; exact ⟨_, rfl, h4, cs, rfl, h3.weaken (fun _ h => h.elim)⟩)
          · simp [execOp, go_sem, givesUpon]; exact ⟨(Fr.refl _ _).alloc _, ⟨_, rfl, Bx.new_ rfl, hbs⟩, Nat.le_refl _⟩
        intro vs WR hWR hv hne
        obtain ⟨b3, e3, hb3, hl3⟩ := hv 3 (by omega)
        obtain ⟨csR4, e4, htR4⟩ := hv 4 (by omega)
        obtain ⟨csR5, e5, htR5⟩ := hv 5 (by omega)
        obtain ⟨b6, e6, hb6, hl6⟩ := hv 6 (by omega)
        simp only [List.drop_succ_cons, List.drop_zero, putsR_B, putsR_C, putsR_S, putsR_V, putsR_0, Nat.zero_add, Nat.reduceAdd, e3, e4, e5, e6]
        simp only [Act.put, List.setIfInBounds_toArray, List.set_cons_zero, List.set_cons_succ]
        clear e3 e4 e5 e6 hv
        have hwR : Fr No wr WR := hwr.trans0 hWR
        obtain ⟨vf, vh, vo, rfl, h1, h2, h3⟩ := htR5
        obtain ⟨Af, cf, rfl, _, _⟩ := h1.form
        obtain ⟨Ah, ch, rfl, _, _⟩ := h2.form
        obtain ⟨Ao, co, rfl, _, _⟩ := h3.form
        obtain ⟨x0', x1, x2, x3, x4, x5⟩ := hb6.c6
        have xf := fun i => hb6.frozen i
        have xl := hb6.lt
        have BR := B5.keep hWR
        have kb0 := BR.c1
        have kbf := fun i => BR.frozen i
        have kbl := BR.lt
        obtain ⟨g2, _, _, k4⟩ := hO WR (hfr.trans0 hwR) j hlt
        have hne1 : q6 + 1 ≠ b6 := by omega
        have hne2 : w3.heap.size ≠ b6 := by omega
        have fA2 := fun i => (BA.keep (hfr.trans0 hwR)).frozen i
        have lA2 := (BA.keep (hfr.trans0 hwR)).lt
        unfold endT
        dsimp only
        clear hne h1 h2 h3 htR4 KP B5 hb3 hO BO lO fO lO2 lO3 k3
        go_wp2_with fail
        obtain ⟨W7, hW7⟩ : ∃ W7, W7 = ((((((WR.setCell ⟨b6, 0, none⟩ (.int .i64 10)).setCell ⟨b6, 1, none⟩ (.slice Af 0 cf)).setCell ⟨b6, 2, none⟩ (.slice Ah 1 ch)).setCell ⟨b6, 3, none⟩ (.slice Ao 0 co)).setCell ⟨b6, 4, none⟩ (.int .i64 noVal.kind)).setCell ⟨b6, 5, none⟩ (.int .i64 noVal.n)) := ⟨_, rfl⟩
        have B7 : Bx W7 b6 tVSt #[.int .i64 10, .slice Af 0 cf, .slice Ah 1 ch, .slice Ao 0 co, .int .i64 noVal.kind, .int .i64 noVal.n] := hW7 ▸ hb6.fill6
        have hf7 : Fr (fun b => b = b6) WR W7 := hW7 ▸ (((((Fr.one _ _ _ _).same (Fr.one _ _ _ _)).same (Fr.one _ _ _ _)).same (Fr.one _ _ _ _)).same (Fr.one _ _ _ _)).same (Fr.one _ _ _ _)
        rw [← hW7]
        have hz7 : WR.heap.size = W7.heap.size := by rw [hW7]; simp
        clear hW7 x0' x1 x2 x3 x4 x5 xf xl hb6 kb0 kbf kbl k4 fA2 lA2 BR
        obtain ⟨W8, hW8⟩ : ∃ W8, W8 = W7.alloc (.cells #[.int .i64 a] 3) := ⟨_, rfl⟩
        have B8 : Bx W8 WR.heap.size 3 #[.int .i64 a] := hW8 ▸ Bx.new_ hz7
        have hf8 : Fr No W7 W8 := hW8 ▸ frc
        rw [← hW8]
        clear hW8
        have hs5 := hWR.size
        have hsr := hwr.size
        have hf58 : Fr No w5 W8 := (hWR.trans hf7 (fun b hb e => by omega)).trans0 hf8
        refine (lwNew_ok hna j true (endT 5) (lw_enterT a a j).symm (SmS_end 5) _ _ W8 (hpk2 _ hf58) (OutC.one B8)).mono ?_
        rintro e W9 ⟨⟨cs9, rfl, v1, v2, v3, rfl, g1, g2, g3⟩, hf9⟩
        obtain ⟨Bf, df, rfl, _, _⟩ := g1.form
        obtain ⟨Bh, dh, rfl, _, _⟩ := g2.form
        obtain ⟨Bo, d9, rfl, _, _⟩ := g3.form
        have B9 := (B7.keep hf8).keep hf9
        obtain ⟨y0, _, _, _, _, _⟩ := B9.c6
        have yf := fun i => B9.frozen i
        have yl := B9.lt
        have hfin : Fr No w2 W9 := (hfr.trans0 (hwr.trans0 hf58)).trans0 hf9
        unfold endT
        dsimp only
        have hfd : (Instr.field tVSt (.agg #[.int .i64 5, .slice Bf 0 df, .slice Bh 1 dh, .slice Bo 0 d9, .int .i64 noVal.kind, .int .i64 noVal.n]) 0).run Tryz.prog W9 = .ok (.int .i64 5) W9 := by
          simp [Instr.field, asAgg, go_sem]
        clear g1 g2 g3 B7 B8 B9 hf7 hf8 hf58 hf9 hpk2
        go_wp2_with fail
        exact ⟨⟨j + 1, by omega, by simp, Lib.hid hfin⟩, by simp [intOf]; omega⟩
      · obtain rfl : j = 5 := by omega
        clear hO
        go_wp2_with fail
        go_ret
        exact .mk rfl (hw2.trans0 hfr)
end Go.Proofs.YtbalicnnlfennaaGreat
