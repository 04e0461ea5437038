/- The program's own machine: a run is begun. -/
import Derived.Test.YtbalicnnlfennaaGreatCK20
import Derived.Test.YtbalicnnlfennaaGreatCK21
namespace Go.Proofs.YtbalicnnlfennaaGreat
open Go.RowKit

set_option maxRecDepth 100000 in
set_option maxHeartbeats 8000000 in
theorem start_ok (l bl n : Nat) (p : Plan) (look : Bool) (k : Int) (s mb : Str) (args : List Int) (va : Value) (w : World) (hlg : Lg w l bl n p) (hs : s.size ≤ maxLen) (hmb : mb.size ≤ maxLen) (hn : n < 100000) (hv : Sl (fun b => b = bl) w 1 OutC va args)
  (r : Ref) (hc : classM p k s = some r) (hcall : (callB p k s mb).2 = 1) (hsb : startB (mthAt p (callB p k s mb).1) args = true) (hargs : 0 < args.length) (hL : (layB p r).length ≤ 1000) (hops : OkOps (mthAt p (callB p k s mb).1).code)
  (hsm : SmS (enterM p look ⟨1, [], [⟨r, newVals p r⟩], [], noVal⟩ [] ⟨(callB p k s mb).1.1, (callB p k s mb).1.2⟩ (⟨2, 0⟩ :: args.map (⟨1, ·⟩)))) :
  Calls Tryz.prog 23 #[.pointer (some ⟨l, 0, none⟩), .bool look, .int .i64 k, .string s, .string mb, va] w (fun e w' => (∃ cs : List Value, e = .returned (.agg cs.toArray) ∧ StC (fun b => b < w.heap.size) w' cs (enterM p look ⟨1, [], [⟨r, newVals p r⟩], [], noVal⟩ [] ⟨(callB p k s mb).1.1, (callB p k s mb).1.2⟩ (⟨2, 0⟩ :: args.map (⟨1, ·⟩)))) ∧ Fr (fun b => b = bl) w w') := by
 have hp := hlg.ok
 have hbl := hlg.lt
 obtain ⟨hrn, wk, hcb⟩ := classM_some hp hc
 have hrs : r.name.size ≤ maxLen := by rw [hrn]; exact hs
 obtain ⟨hqs, kq, ix, a, hh, hqa, ha⟩ := callB_one hp hcall
 obtain ⟨hm1, hm2⟩ := mthAt_ok (q := (callB p k s mb).1) hp hh hqa ha
 obtain ⟨m1, _, _, m4, m5, _⟩ := mthB_facts hm2
 have hf : findK p k s = (r, 1) := by
  unfold classM at hc
  split at hc
  ·rename_i h1
   split at hc
   ·exact Prod.ext (Option.some.inj hc) h1
   ·cases hc
  ·cases hc
 unfold startB at hsb
 rw [Bool.and_eq_true, decide_eq_true_eq, List.all_eq_true] at hsb
 obtain ⟨hsl, hsk⟩ := hsb
 obtain ⟨T, hT⟩ : ∃ T, T = enterM p look ⟨1, [], [⟨r, newVals p r⟩], [], noVal⟩ [] ⟨(callB p k s mb).1.1, (callB p k s mb).1.2⟩ (⟨2, 0⟩ :: args.map (⟨1, ·⟩)) := ⟨_, rfl⟩
 rw [← hT] at hsm ⊢
 have HCall := fun n' W (h : Lg W l bl n' p) (hn : n' < 999999) => call_ok l bl n' p k s mb W h hs hmb hn
 unfold CallPost at HCall
 rw [hcall] at HCall
 have hke := hh.1
 generalize (callB p k s mb).1 = q at *
 obtain ⟨⟨qk, qn⟩, qa⟩ := q
 dsimp only at hqs hh hqa ha hm1 hke HCall hT
 subst hqa hke
 rw [hm1] at hsl hsk m1 m4 m5 hops
 have hlgA0 := fun W (hW : Fr No w W) => hlg.keep hW
 have hlgh := Lib.hid hlg
 obtain ⟨g, hL0, hgr⟩ := hlg
 have HF := fun W (hW : Fr No w W) => find_ok l bl n p g k s W (hL0.keep hW) hs
 rw [hf] at HF
 obtain ⟨wA, hwA⟩ : ∃ wA, wA = w.alloc (.cells #[.int .i64 0, .slice none 0 0, .slice none 0 0, .slice none 0 0, .int .i64 0, .int .i64 0] tVSt) := ⟨_, rfl⟩
 have hfA : Fr No w wA := hwA ▸ frc
 have BA := (hwA ▸ bxc : Bx wA w.heap.size tVSt #[.int .i64 0, .slice none 0 0, .slice none 0 0, .slice none 0 0, .int .i64 0, .int .i64 0])
 have hlgA := hlgA0 wA hfA
 clear hL0 hgr hc hcall hf hm2 hrn hlgA0
 obtain ⟨rk, rn⟩ := r
 dsimp only at wk hrs
 go_enter Tryz.func23, Tryz.ntmps23
 go_wp2_with fail
 have HF1 := hwA ▸ HF wA hfA
 refine HF1.mono ?_
 clear HF1 HF
 rintro e w1 ⟨rfl, hf1⟩
 rw [← hwA] at hf1
 clear hwA
 unfold refV
 have hs1 := hf1.size
 have hsA := hfA.size
 have hAl := BA.lt
 obtain ⟨wB, hwB⟩ : ∃ wB, wB = w1.alloc (.cells #[.int .i64 rk, .string rn] 54) := ⟨_, rfl⟩
 have hfB : Fr No w1 wB := hwB ▸ frc
 have BR := (hwB ▸ bxc : Bx wB w1.heap.size 54 #[.int .i64 rk, .string rn])
 have HC := canLay_ok l bl n p ⟨rk, rn⟩ wB ((hlgA.keep hf1).keep hfB) hrs wk (by omega)
 unfold CanPost at HC
 go_wp2_with fail
 rw [← hwB]
 replace hwB := Lib.hid hwB
 rw [hcb] at HC
 refine HC.mono ?_
 clear HC
 rintro e w2 ⟨rfl, hf2, hlg2⟩
 have hsB := hfB.size
 have hs2 := hf2.size
 have hw1 : Fr No w w1 := hfA.trans0 hf1
 have hw2 : Fr (fun b => b = bl) w w2 := (hw1.trans0 hfB).of0.same hf2
 have BR2 := BR.keepX hf2 (by omega)
 go_wp2_with (go_at_call 34; (refine (HCall (n + 1) w2 hlg2 (by omega)).mono ?_); (rintro e w3 ⟨ev, rfl, hev, hf3, hlg3⟩); (obtain rfl := ErrV.nil hev))
 have hs3 := hf3.size
 have hw3 : Fr (fun b => b = bl) w w3 := hw2.same hf3
 have BR3 := BR2.keepX hf3 (by omega)
 obtain ⟨g3, hL3, _⟩ := id hlg3
 obtain ⟨mcs, ⟨vaM, vcd, vmp, rfl, _, _, hA1, hA2, hA3⟩, HMv⟩ := method_val hL3 hh hqs ha
 clear hL3 HCall
 obtain ⟨Ad, cd, rfl, _, _⟩ := hA2.form
 obtain ⟨Ap, cp, rfl, _, _⟩ := hA3.form
 have hvv := hv.keep (R' := OutC) hw3 (fun _ h => h) (fun _ _ _ h => h)
 generalize hMM : (clsAt p ⟨kq, qn⟩).methods[a] = M at *
 have HSt := fun W (hW : Fr No w3 W) => startable_ok (fun b => b = bl) M.name vaM M.args M.ret.kind M.locals M.stack M.ret.name (.slice Ad M.code.length cd) (.slice Ap M.maps.length cp) va args W (hA1.keep (R' := KndC) hW (fun _ h => h.elim) (fun _ _ _ h => h)) (hvv.keep (R' := OutC) hW (fun _ h => h.elim) (fun _ _ _ h => h)) hsl (fun t ht => by simpa using hsk t ht) (by omega)
 replace hMM := Lib.hid hMM
 clear hA1 hA2 hA3 hsk
 go_wp2_with (go_at_call 36; (refine (HMv _ frc).mono ?_); (rintro e w4 ⟨rfl, hf4⟩))
 obtain ⟨wC, hwC⟩ : ∃ wC, wC = w3.alloc (.cells #[.int .i64 kq, .string qn, .int .i64 a] 84) := ⟨_, rfl⟩
 have hfC : Fr No w3 wC := hwC ▸ frc
 have BL := (hwC ▸ bxc : Bx wC w3.heap.size 84 #[.int .i64 kq, .string qn, .int .i64 a])
 rw [← hwC] at hf4
 replace hwC := Lib.hid hwC
 have hf34 := hfC.trans0 hf4
 have HS4 := HSt w4 hf34
 refine HS4.mono ?_
 clear HS4 HSt HMv
 rintro e w5 ⟨rfl, hf5⟩
 have hf35 := hf34.trans0 hf5
 have hlg5 := hlg3.keep hf35
 have BR5 := BR3.keep hf35
 have BL5 := (BL.keep hf4).keep hf5
 have hs35 := hf35.size
 have hvv5 := hvv.keep (R' := OutC) hf35 (fun _ h => h.elim) (fun _ _ _ h => h)
 obtain ⟨wD, hwD⟩ : ∃ wD, wD = w5.alloc (.cells #[.pointer (some ⟨l, 0, none⟩), .bool look, .int .i64 1, .slice none 0 0, .slice none 0 0, .slice none 0 0, .int .i64 0, .int .i64 0] tMach) := ⟨_, rfl⟩
 have hfD : Fr No w5 wD := hwD ▸ frc
 have BMD := (hwD ▸ bxc : Bx wD w5.heap.size tMach #[.pointer (some ⟨l, 0, none⟩), .bool look, .int .i64 1, .slice none 0 0, .slice none 0 0, .slice none 0 0, .int .i64 0, .int .i64 0])
 have hM0 := mcs_zero (look := look) hlg5 (Nat.le_refl _) hfD BMD
 have hE : McE ⟨w5, l, bl, p, look, w5.heap.size⟩ := ⟨_, hlg5⟩
 have hCr := create_ok ⟨w5, l, bl, p, look, w5.heap.size⟩ hE _ _ _ wD hM0 ⟨rk, rn⟩ hrs wk (by omega) (by simp) hL
 unfold CreatePost at hCr
 obtain ⟨t0, t1⟩ := BR5.c2
 have tl := BR5.lt
 have hsD := hfD.size
 have BLD := BL5.keep hfD
 have hBLl := BL5.lt
 have BAD : Bx wD w.heap.size tVSt #[.int .i64 0, .slice none 0 0, .slice none 0 0, .slice none 0 0, .int .i64 0, .int .i64 0] := ((((((BA.keep hf1).keep hfB).keepX hf2 (by omega)).keepX hf3 (by omega)).keep hf35).keep hfD)
 have hwD5 : Fr (fun b => b = bl) w w5 := hw3.trans0 hf35
 replace hM0 := Lib.hid hM0
 clear BA BR BR2 BR3 BL BL5 BMD
 go_wp2_with fail
 rw [← hwD]
 replace hwD := Lib.hid hwD
 refine hCr.mono ?_
 clear hCr t0 t1 tl
 rintro e w6 ⟨rfl, m1', hM6, _, hB6, hf6⟩
 dsimp only [List.length_nil, List.nil_append] at hM6
 have hmb0 : mcB ⟨w5, l, bl, p, look, w5.heap.size⟩ ⟨.slice none 0 0, .slice none 0 0, .slice none 0 0, [], []⟩ = [w5.heap.size] := by unfold mcB; simp [rowB, rowBlk_nil]
 have hf6' : Fr (fun b => b = bl ∨ w5.heap.size ≤ b) wD w6 := hf6.mono (fun b _ e => e.elim .inl (fun e => by rw [hmb0, List.mem_singleton] at e; exact .inr (by omega)))
 have hs6 := hf6.size
 have BL6 := BLD.keepX hf6' (by have := hs3; omega)
 have BA6 := BAD.keepX hf6' (by omega)
 have hvO := ((hvv5.oldX (R' := OutC) (by decide) (fun _ _ _ h => h)).keep (R' := OutC) hfD (fun _ h => h.elim) (fun _ _ _ h => h)).keep (R' := OutC) hf6' (fun _ h => h) (fun _ _ _ h => h)
 rw [show ((List.length ([] : List Obj) : Nat) : Int) = 0 from rfl]
 obtain ⟨Av, cv, rfl, _, hvl⟩ := hvO.form
 obtain ⟨wE, hwE⟩ : ∃ wE, wE = w6.alloc (.cells #[.int .i64 2, .int .i64 0] tVal) := ⟨_, rfl⟩
 have hfE : Fr No w6 wE := hwE ▸ frc
 have hrow0 : ValRow wE (.slice (some ⟨w6.heap.size, 0, none⟩) 1 1) [⟨2, 0⟩] := hwE ▸ RowV.newOne w6 _ 2 [.int .i64 2, .int .i64 0] rfl
 have hmlt : ∀ b ∈ mcB ⟨w5, l, bl, p, look, w5.heap.size⟩ m1', b < w6.heap.size := fun b hb => hM6.lt hb
 have hI0 : Hid (ValRow wE (.slice (some ⟨w6.heap.size, 0, none⟩) 1 1) (⟨2, 0⟩ :: (args.take 0).map (⟨1, ·⟩)) ∧ (∀ q, rowBlk (.slice (some ⟨w6.heap.size, 0, none⟩) 1 1) = some q → w6.heap.size ≤ q) ∧ Fr (fun b => w6.heap.size ≤ b) wE wE) := Lib.hid ⟨hrow0, fun q hq => by rw [rowBlk_some (by decide)] at hq; have := Option.some.inj hq; omega, Fr.refl _ _⟩
 replace hM6 := Lib.hid hM6
 replace hB6 := Lib.hid hB6
 have hsE := hfE.size
 clear hvv hvv5 hrow0
 go_wp2_with fail
 rw [← hwE]
 replace hwE := Lib.hid hwE
 go_loopw [66, 18] (fun i v wr => ∃ j : Nat, j ≤ args.length ∧ i = .int .i64 j ∧ Hid (ValRow wr v (⟨2, 0⟩ :: (args.take j).map (⟨1, ·⟩)) ∧ (∀ q, rowBlk v = some q → w6.heap.size ≤ q) ∧ Fr (fun b => w6.heap.size ≤ b) wE wr)) (fun i _ _ => args.length - (intOf i).toNat)
 case atStart => exact ⟨0, Nat.zero_le _, rfl, hI0⟩
 case round =>
  clear hI0
  obtain ⟨j, hj, rfl, hI⟩ := hrel
  obtain ⟨hvr, hvq, hfr⟩ := hI.out
  clear hI
  have hlj : (⟨2, 0⟩ :: (args.take j).map (fun x => (⟨1, x⟩ : Val))).length = j + 1 := by simp; omega
  by_cases hlt : j < args.length
  ·obtain ⟨b, off, rfl, _, o0⟩ := ((hvO.keep (R' := OutC) hfE (fun _ h => h.elim) (fun _ _ _ h => h)).keep (R' := OutC) hfr (fun b h => .inr (by omega)) (fun _ _ _ h => h)).num hlt
   obtain ⟨gv, cv2, hve⟩ := ValRow.pos hvr (by simp)
   rw [hlj] at hve
   subst hve
   have htk : (args.take (j + 1)).map (fun x => (⟨1, x⟩ : Val)) = (args.take j).map (fun x => (⟨1, x⟩ : Val)) ++ [⟨1, args[j]⟩] := by rw [List.take_succ_eq_append_getElem hlt, List.map_append]; rfl
   have hj100 : j < 100 := by omega
   generalize args[j] = x at *
   generalize hPV : (args.take j).map (fun x => (⟨1, x⟩ : Val)) = PV at *
   replace htk := Lib.hid htk
   replace hlgh := Lib.hid hlgh
   have hvrh := Lib.hid hvr
   clear hvr
   go_wp2_with fail
   refine (numVal_ok _ _).mono ?_
   rintro e w7 ⟨rfl, hf7⟩
   simp only []
   go_at_K
   go_step
   go_step
   go_step
   go_step
   have hs7 := hf7.size
   have hsr := hfr.size
   have hf78 : Fr No w7 (w7.alloc (.cells #[.int .i64 1, .int .i64 x] tVal)) := (Fr.refl No w7).alloc _
   have hrow8 : RowV (w7.alloc (.cells #[.int .i64 1, .int .i64 x] tVal)) tVal 2 (.slice (some ⟨gv, 0, none⟩) (j + 1) cv2) (j + 1) ((⟨2, 0⟩ :: PV).flatMap valCells) := by
    have := RowV.keep0 (RowV.keep0 hvrh.out hf7) hf78
    rw [hlj] at this
    exact this
   have hnews := Lib.hid ((bxc : Bx (w7.alloc (.cells #[.int .i64 1, .int .i64 x] tVal)) w7.heap.size tVal [Value.int .i64 1, .int .i64 x].toArray).news)
   have hfin := fun (g' cap' : Nat) (w8 : World) (hrow : RowV w8 tVal 2 (.slice (some ⟨g', 0, none⟩) (j + 1 + 1) cap') (j + 1 + 1) ((⟨2, 0⟩ :: PV).flatMap valCells ++ [.int .i64 1, .int .i64 x])) (hgf : Fr (fun b => rowBlk (.slice (some ⟨gv, 0, none⟩) (j + 1) cv2) = some b) (w7.alloc (.cells #[.int .i64 1, .int .i64 x] tVal)) w8) (hor : rowBlk (.slice (some ⟨gv, 0, none⟩) (j + 1) cv2) = some g' ∨ g' = (w7.alloc (.cells #[.int .i64 1, .int .i64 x] tVal)).heap.size) (hcap : j + 1 + 1 ≤ cap') =>
    (show ValRow w8 (.slice (some ⟨g', 0, none⟩) (j + 1 + 1) cap') (⟨2, 0⟩ :: (args.take (j + 1)).map (⟨1, ·⟩)) ∧ (∀ q, rowBlk (.slice (some ⟨g', 0, none⟩) (j + 1 + 1) cap') = some q → w6.heap.size ≤ q) ∧ Fr (fun b => w6.heap.size ≤ b) wE w8 from by
     refine ⟨?_, fun q hq => ?_, ((hfr.trans0 hf7).trans0 hf78).trans hgf (fun b hb e => hvq b e)⟩
     ·rw [htk.out]
      unfold ValRow
      have e1 : (⟨2, 0⟩ :: (PV ++ [⟨1, x⟩]) : List Val).length = j + 1 + 1 := by have := hlj; simp at this ⊢; omega
      rw [e1, ← List.cons_append, List.flatMap_append]
      exact hrow
     ·rw [rowBlk_some (by omega)] at hq
      have := Option.some.inj hq
      subst this
      rcases hor with h9 | h9
      ·exact hvq _ h9
      ·rw [h9]; simp; omega)
   obtain ⟨j0, hj0, hk0, hk1, hk2⟩ := info_parts info_val
   replace hj0 := Lib.hid hj0
   replace hk0 := Lib.hid hk0
   replace hk1 := Lib.hid hk1
   replace hk2 := Lib.hid hk2
   replace hfin := Lib.hid hfin
   have hadd : IntKind.i64.wrap ((j : Int) + 1) = ((j + 1 : Nat) : Int) := by rw [IntWalk.i64_in _ (by omega)]; simp
   replace hlj := Lib.hid hlj
   clear hvq o0
   refine wpList_append_row _ rfl _ _ 102 rfl 40 j0 (.agg #[.int .i64 0, .int .i64 0]) 2 16 Tryz.underlying102 hj0.out hk0.out hk1.out hk2.out rfl (by decide) (.slice (some ⟨gv, 0, none⟩) (j + 1) cv2) (j + 1) _ rfl hrow8 ⟨w7.heap.size, 0, none⟩ 1 1 [Value.int .i64 1, .int .i64 x] rfl rfl hnews.out (by simp [Value.oneCell']) (by decide) (by unfold maxLen; omega) (by omega) ?_
   intro g2 cap2 w8 hrow9 hcap9 hgf9 hor9
   have hfi := Lib.hid (hfin.out _ _ _ hrow9 hgf9 hor9 hcap9)
   simp only [Act.put, List.setIfInBounds_toArray, List.set_cons_zero, List.set_cons_succ]
   go_wp2_with fail
   exact ⟨⟨j + 1, by omega, by simp, hfi⟩, by simp [intOf]; omega⟩
  ·obtain rfl : j = args.length := by omega
   rw [List.take_length] at hvr hlj
   have hsr := hfr.size
   have hMr : McS ⟨w5, l, bl, p, look, w5.heap.size⟩ (n + 1 + 2 + 1) ⟨1, [], [⟨⟨rk, rn⟩, newVals p ⟨rk, rn⟩⟩], [], noVal⟩ m1' wr := ((hM6.out.keep hE hfE).far hE hfr (fun b hb => ⟨by dsimp only; omega, fun hx => by have := hmlt b hx; omega⟩)).mono (by omega)
   have hmM := hMM.out
   have hEn := menter_ok _ hE _ _ m1' wr hMr rfl (by simp) (by simp) (by omega) kq ix a qn hh hqs ha (by rw [hmM]; exact hops) u18 (⟨2, 0⟩ :: args.map (⟨1, ·⟩)) hvr (fun q hq => ⟨by have := hvq q hq; dsimp only; omega, fun hx => by have := hmlt q hx; have := hvq q hq; omega⟩) (by simp) (by rw [hmM, hsl]; simp) (by rw [hmM]; simp only [List.length_cons, List.length_map]; omega) (by rw [hmM]; exact m5) (by rw [hmM, hsl]; exact hargs) (by rw [hmM]; omega) (fun x hx hk2 => by
    rcases List.mem_cons.1 hx with rfl | hx
    ·exact ⟨0, rfl, by simp⟩
    ·obtain ⟨y, _, rfl⟩ := List.mem_map.1 hx
     cases hk2)
   dsimp only at hEn
   rw [← hT] at hEn
   have hnil : T.status ≠ 1 → T.frames = [] := by rw [hT]; exact enterM_nil
   have BLr := (BL6.keep hfE).keepX hfr (by omega)
   have BAr := (BA6.keep hfE).keepX hfr (by omega)
   obtain ⟨z0, z1, z2⟩ := BLr.c3
   have zl := BLr.lt
   clear hvr hvO hMM
   replace hT := Lib.hid hT
   go_wp2_with (first
    | (go_at_call 40; (refine hEn.mono ?_); (rintro e w7 ⟨rfl, fs7, m7, hS7, h17, hB7, hf7⟩))
    | (go_at_call 39; (refine (mend_ok _ hE _ T fs7 m7 w7 hS7 h17 hnil).mono ?_); (rintro e w8 ⟨rfl, m8, hM8, hB8, hf8⟩)))
   have hnw1 : ∀ b ∈ mcB ⟨w5, l, bl, p, look, w5.heap.size⟩ m1', w5.heap.size ≤ b := hM6.out.new
   have hnw7 : ∀ b ∈ mcB ⟨w5, l, bl, p, look, w5.heap.size⟩ m7, w5.heap.size ≤ b := hS7.new
   have hwr : Fr (fun b => b = bl) w wr := ((((hwD5.trans0 hfD).trans hf6' (fun b hb e => by omega)).trans0 hfE).trans hfr (fun b hb e => by omega))
   have hw8 : Fr (fun b => b = bl) w w8 := (hwr.trans hf7 (fun b hb e => e.elim id (fun e => by have := hnw1 b e; omega))).trans hf8 (fun b hb e => e.elim id (fun e => by have := hnw7 b e; omega))
   have BA8 := (BAr.keepX hf7 (fun e => e.elim (fun e => by dsimp only at e; omega) (fun e => by have := hnw1 _ e; omega))).keepX hf8 (fun e => e.elim (fun e => by dsimp only at e; omega) (fun e => by have := hnw7 _ e; omega))
   refine (state_ok _ _ T m8 w8 hM8 hsm).mono ?_
   rintro e w9 ⟨⟨cs5, rfl, vf5, vh5, vo5, rfl, hf5', hh5, ho5⟩, hfr9⟩
   obtain ⟨A1, c1, rfl, _, _⟩ := hf5'.form
   obtain ⟨A2, c2, rfl, _, _⟩ := hh5.form
   obtain ⟨A3, c3, rfl, _, _⟩ := ho5.form
   have hB9 := BA8.keep hfr9
   obtain ⟨x0, x1, x2, x3, x4, x5⟩ := hB9.c6
   have xf := fun i => hB9.frozen i
   have xl := hB9.lt
   have hw8s := hw8.size
   have hl8 := BA8.lt
   clear z0 z1 z2 zl BLr BAr BA8
   go_wp2_with fail
   obtain ⟨W7, hW7⟩ : ∃ W7, W7 = ((((((w9.setCell ⟨w.heap.size, 0, none⟩ (.int .i64 T.status)).setCell ⟨w.heap.size, 1, none⟩ (.slice A1 T.frames.length c1)).setCell ⟨w.heap.size, 2, none⟩ (.slice A2 T.heap.length c2)).setCell ⟨w.heap.size, 3, none⟩ (.slice A3 T.outs.length c3)).setCell ⟨w.heap.size, 4, none⟩ (.int .i64 T.back.kind)).setCell ⟨w.heap.size, 5, none⟩ (.int .i64 T.back.n)) := ⟨_, rfl⟩
   have B7 : Bx W7 w.heap.size tVSt #[.int .i64 T.status, .slice A1 T.frames.length c1, .slice A2 T.heap.length c2, .slice A3 T.outs.length c3, .int .i64 T.back.kind, .int .i64 T.back.n] := hW7 ▸ hB9.fill6
   have hf7' : Fr (fun b => b = w.heap.size) w9 W7 := hW7 ▸ (((((Fr.one _ _ _ _).same (Fr.one _ _ _ _)).same (Fr.one _ _ _ _)).same (Fr.one _ _ _ _)).same (Fr.one _ _ _ _)).same (Fr.one _ _ _ _)
   rw [← hW7]
   clear hW7
   obtain ⟨r0, r1, r2, r3, r4, r5⟩ := B7.c6
   have rl := B7.lt
   refine bodyPost_ret (v := .agg #[.int .i64 T.status, .slice A1 T.frames.length c1, .slice A2 T.heap.length c2, .slice A3 T.outs.length c3, .int .i64 T.back.kind, .int .i64 T.back.n]) (by simp [results, Tryz.results23, go_sem, r0, r1, r2, r3, r4, r5]) rfl ?_
   have hnx : ∀ b, b = w.heap.size → b < w8.heap.size := fun b e => by omega
   exact ⟨⟨[_, _, _, _, _, _], rfl, _, _, _, rfl, (hf5'.keep hf7' hnx (fun _ _ _ h => h.keep hf7' hnx)).weaken (Y := fun b => b < w.heap.size) (fun b e => by omega) (fun _ _ _ h => h.weaken (fun b e => by omega)), (hh5.keep hf7' hnx (fun _ _ _ h => h.keep hf7' hnx)).weaken (Y := fun b => b < w.heap.size) (fun b e => by omega) (fun _ _ _ h => h.weaken (fun b e => by omega)), (ho5.keep hf7' hnx (fun _ _ _ h => h)).weaken (Y := fun b => b < w.heap.size) (fun b e => by omega) (fun _ _ _ h => h)⟩, (hw8.trans0 hfr9).trans hf7' (fun b hb e => by omega)⟩
end Go.Proofs.YtbalicnnlfennaaGreat

namespace Go.Proofs.YtbalicnnlfennaaGreat
open Go.RowKit

set_option maxRecDepth 100000 in
set_option maxHeartbeats 4000000 in
theorem vmNew_ok (p : Plan) (look : Bool) (k : Int) (s mb : Str) (args : List Int) (va pv : Value) (w : World) (h : Sl No w 2 (KprC No w) pv p.keepers) (hs : s.size ≤ maxLen) (hmb : mb.size ≤ maxLen) (hv : Sl No w 1 OutC va args) (hal : args.length ≤ 1000)
  (hp : lodB p = true) (hk : hasK p k = true) (hn1 : namB s = true) (hn2 : namB mb = true) (hnum : args.all numB = true)
  (r : Ref) (hc : classM p k s = some r) (hcall : (callB p k s mb).2 = 1) (hsb : startB (mthAt p (callB p k s mb).1) args = true) (hargs : 0 < args.length) (hL : (layB p r).length ≤ 1000) (hops : OkOps (mthAt p (callB p k s mb).1).code)
  (T : St) (hT : T = enterM p look ⟨1, [], [⟨r, newVals p r⟩], [], noVal⟩ [] ⟨(callB p k s mb).1.1, (callB p k s mb).1.2⟩ (⟨2, 0⟩ :: args.map (⟨1, ·⟩))) (hsm : SmS T) :
  Calls Tryz.prog 11 #[.agg #[pv], .bool look, .int .i64 k, .string s, .string mb, va] w (fun e w' => (∃ cs : List Value, e = .returned (.agg cs.toArray) ∧ StC (fun b => b < w.heap.size) w' cs T) ∧ Fr No w w') := by
 obtain ⟨A, cap, rfl, _, _⟩ := h.form
 obtain ⟨Av, cv, rfl, _, _⟩ := hv.form
 have hvO := hv.old (R' := OutC) (by decide) (fun _ _ _ h => h)
 obtain ⟨wA, hwA⟩ : ∃ wA, wA = ((w.alloc (.cells #[.slice A p.keepers.length cap] 31)).alloc (.cells #[.int .i64 0, .slice none 0 0, .slice none 0 0, .slice none 0 0, .int .i64 0, .int .i64 0] tVSt)) := ⟨_, rfl⟩
 have hfA : Fr No w wA := hwA ▸ frc
 have B2 : Bx wA (w.heap.size + 1) tVSt #[.int .i64 0, .slice none 0 0, .slice none 0 0, .slice none 0 0, .int .i64 0, .int .i64 0] := hwA ▸ Bx.new_ (by simp)
 have HN := newLodge_ok p _ wA (h.keep hfA (fun _ h => h.elim) (fun _ _ _ h => h.keep hfA (fun _ h => h.elim)))
 unfold NewPost at HN
 have l2 := B2.lt
 have hsA := hfA.size
 clear h hv
 rw [hp] at HN
 go_enter Tryz.func11, Tryz.ntmps11
 go_wp2_with fail
 rw [← hwA]
 replace hwA := Lib.hid hwA
 refine HN.mono ?_
 clear HN
 rintro e w1 ⟨hf1, ⟨hno, _⟩ | ⟨_, l, bl, rfl, hll, hbl, hLo⟩⟩
 ·cases hno
 have hLg : Lg w1 l bl 0 p := ⟨_, hLo, fun _ _ _ h => by cases h⟩
 have hw1 : Fr No w w1 := hfA.trans0 hf1
 have hs1 := hf1.size
 have HH := fun W (hW : Fr No w1 W) => lg_has (hLg.keep hW) k
 rw [hk] at HH
 have HN1 := fun W => nam_ok s W hs
 have HN2 := fun W => nam_ok mb W hmb
 rw [hn1] at HN1
 rw [hn2] at HN2
 have B21 := B2.keep hf1
 have hvO1 := hvO.keep (R' := OutC) hw1 (fun _ h => h.elim) (fun _ _ _ h => h)
 have hI0 : Hid (Fr No w1 w1) := Fr.refl _ _
 clear B2 hLo hvO
 go_wp2_with (first
  | (go_at_call 20; refine (HH _ frc).mono ?_; rintro e w' ⟨rfl, rfl⟩)
  | (go_at_call 21; refine (HN1 _).mono ?_; rintro e w' ⟨rfl, rfl⟩)
  | (go_at_call 21; refine (HN2 _).mono ?_; rintro e w' ⟨rfl, rfl⟩))
 clear HH HN1 HN2
 go_loopw [39] (fun i wr => ∃ j : Nat, j ≤ args.length ∧ i = .int .i64 j ∧ Hid (Fr No w1 wr)) (fun i _ => args.length - (intOf i).toNat)
 case atStart => exact ⟨0, Nat.zero_le _, rfl, hI0⟩
 case round =>
  clear hI0
  obtain ⟨j, hj, rfl, hI⟩ := hrel
  have hfr := hI.out
  clear hI
  have hvr := hvO1.keep (R' := OutC) hfr (fun _ h => h.elim) (fun _ _ _ h => h)
  by_cases hlt : j < args.length
  ·obtain ⟨b, off, rfl, _, o0⟩ := hvr.num hlt
   have hnj := List.all_eq_true.1 hnum _ (List.getElem_mem hlt)
   have hadd : IntKind.i64.wrap ((j : Int) + 1) = ((j + 1 : Nat) : Int) := by rw [IntWalk.i64_in _ (by omega)]; simp
   generalize args[j] = x at *
   have HNm := fun W => num_ok x W
   rw [hnj] at HNm
   clear hnj hvr
   go_wp2_with (go_at_call 22; refine (HNm _).mono ?_; rintro e w7 ⟨rfl, hf7⟩)
   exact ⟨⟨j + 1, by omega, by simp, Lib.hid (hfr.trans0 hf7)⟩, by simp [intOf]; omega⟩
  ·obtain rfl : j = args.length := by omega
   have hS := start_ok l bl 0 p look k s mb args _ wr (hLg.keep hfr) hs hmb (by omega) (hvr.weaken (Y := fun b => b = bl) (fun b e => by omega) (fun _ _ _ h => h)) r hc hcall hsb hargs hL hops (by rw [← hT]; exact hsm)
   rw [← hT] at hS
   have hBr := B21.keep hfr
   have hbr := hBr.lt
   have hwr := hw1.trans0 hfr
   have hsr := hfr.size
   clear hT hvr
   go_wp2_with fail
   refine hS.mono ?_
   rintro e w5 ⟨⟨cs5, rfl, vf5, vh5, vo5, rfl, hf5, hh5, ho5⟩, hfr5⟩
   obtain ⟨A1, c1, rfl, _, _⟩ := hf5.form
   obtain ⟨A2, c2, rfl, _, _⟩ := hh5.form
   obtain ⟨A3, c3, rfl, _, _⟩ := ho5.form
   have hB5 := hBr.keepX hfr5 (by omega)
   obtain ⟨x0, x1, x2, x3, x4, x5⟩ := hB5.c6
   have xf := fun i => hB5.frozen i
   have xl := hB5.lt
   go_wp2_with fail
   obtain ⟨W7, hW7⟩ : ∃ W7, W7 = ((((((w5.setCell ⟨w.heap.size + 1, 0, none⟩ (.int .i64 T.status)).setCell ⟨w.heap.size + 1, 1, none⟩ (.slice A1 T.frames.length c1)).setCell ⟨w.heap.size + 1, 2, none⟩ (.slice A2 T.heap.length c2)).setCell ⟨w.heap.size + 1, 3, none⟩ (.slice A3 T.outs.length c3)).setCell ⟨w.heap.size + 1, 4, none⟩ (.int .i64 T.back.kind)).setCell ⟨w.heap.size + 1, 5, none⟩ (.int .i64 T.back.n)) := ⟨_, rfl⟩
   have B7 : Bx W7 (w.heap.size + 1) tVSt #[.int .i64 T.status, .slice A1 T.frames.length c1, .slice A2 T.heap.length c2, .slice A3 T.outs.length c3, .int .i64 T.back.kind, .int .i64 T.back.n] := hW7 ▸ hB5.fill6
   have hf7 : Fr (fun b => b = w.heap.size + 1) w5 W7 := hW7 ▸ (((((Fr.one _ _ _ _).same (Fr.one _ _ _ _)).same (Fr.one _ _ _ _)).same (Fr.one _ _ _ _)).same (Fr.one _ _ _ _)).same (Fr.one _ _ _ _)
   rw [← hW7]
   clear hW7
   obtain ⟨r0, r1, r2, r3, r4, r5⟩ := B7.c6
   have rl := B7.lt
   refine bodyPost_ret (v := .agg #[.int .i64 T.status, .slice A1 T.frames.length c1, .slice A2 T.heap.length c2, .slice A3 T.outs.length c3, .int .i64 T.back.kind, .int .i64 T.back.n]) (by simp [results, Tryz.results11, go_sem, r0, r1, r2, r3, r4, r5]) rfl ?_
   have hnx : ∀ b, b = w.heap.size + 1 → b < wr.heap.size := fun b e => by omega
   exact ⟨⟨[_, _, _, _, _, _], rfl, _, _, _, rfl, (hf5.keep hf7 hnx (fun _ _ _ h => h.keep hf7 hnx)).weaken (Y := fun b => b < w.heap.size) (fun b e => by omega) (fun _ _ _ h => h.weaken (fun b e => by omega)), (hh5.keep hf7 hnx (fun _ _ _ h => h.keep hf7 hnx)).weaken (Y := fun b => b < w.heap.size) (fun b e => by omega) (fun _ _ _ h => h.weaken (fun b e => by omega)), (ho5.keep hf7 hnx (fun _ _ _ h => h)).weaken (Y := fun b => b < w.heap.size) (fun b e => by omega) (fun _ _ _ h => h)⟩, (hwr.trans hfr5 (fun b hb e => by omega)).trans hf7 (fun b hb e => by omega)⟩
end Go.Proofs.YtbalicnnlfennaaGreat

namespace Go.Proofs.YtbalicnnlfennaaGreat
open Go.RowKit

def ByC (cs : List Value) (n : Int) : Prop := cs = [.int .u8 n] ∧ 0 ≤ n ∧ n < 256
def NumPost (w : World) (e : Ending) (w' : World) : Prop := ∃ x : Int, e = .returned (.int .i64 x) ∧ Fr No w w' ∧ -9999 ≤ x ∧ x ≤ 9999
theorem Sl.by {X : Nat → Prop} {w : World} {A : Option Addr} {n cap : Nat} {xs : List Int} (h : Sl X w 1 ByC (.slice A n cap) xs) {k : Nat} (hk : k < xs.length) :
  ∃ b off, A = some ⟨b, off, none⟩ ∧ ¬ X b ∧ w.cell? ⟨b, off + k, none⟩ = some (.int .u8 xs[k]) ∧ 0 ≤ xs[k] ∧ xs[k] < 256 := by
 obtain ⟨b, off, cs, hA, hX, ⟨rfl, h1, h2⟩, hc⟩ := h.cells hk
 refine ⟨b, off, hA, hX, ?_, h1, h2⟩
 have := hc 0 _ (by decide) rfl
 simpa using this

set_option maxRecDepth 100000 in
set_option maxHeartbeats 4000000 in
theorem loNum_ok (v : Value) (bs : List Int) (t : Int) (w : World) (h : Sl No w 1 ByC v bs) (ht : t = 1 ∨ t = 2) :
  Calls Tryz.prog 14 #[v, .int .i64 t] w (NumPost w) := by
 obtain ⟨A, c, rfl, hc1, hc2⟩ := h.form
 unfold maxLen at hc2
 by_cases h0 : bs.length = 0
 ·have h0i : (bs.length : Int) = 0 := by omega
  clear hc1 hc2
  go_enter Tryz.func14, Tryz.ntmps14
  go_wp2_with fail
  refine bodyPost_ret (results_tmp rfl _ _ _) rfl ?_
  exact ⟨t, rfl, frc, by omega, by omega⟩
 ·have h0i : ¬ (bs.length : Int) = 0 := by omega
  obtain ⟨i, hi, hil⟩ : ∃ i : Nat, Int.tmod t bs.length = i ∧ i < bs.length := ⟨(Int.tmod t bs.length).toNat, by have := Int.tmod_nonneg (bs.length : Int) (show 0 ≤ t by omega); omega, by have := Int.tmod_lt_of_pos t (show (0 : Int) < bs.length by omega); have := Int.tmod_nonneg (bs.length : Int) (show 0 ≤ t by omega); omega⟩
  obtain ⟨k, hk, hkl⟩ : ∃ k : Nat, Int.tmod (t * 7 + 1) bs.length = k ∧ k < bs.length := ⟨(Int.tmod (t * 7 + 1) bs.length).toNat, by have := Int.tmod_nonneg (bs.length : Int) (show 0 ≤ t * 7 + 1 by omega); omega, by have := Int.tmod_lt_of_pos (t * 7 + 1) (show (0 : Int) < bs.length by omega); have := Int.tmod_nonneg (bs.length : Int) (show 0 ≤ t * 7 + 1 by omega); omega⟩
  obtain ⟨b, off, rfl, _, o1, p1, p2⟩ := h.by hil
  obtain ⟨b', off', hb', _, o2, p3, p4⟩ := h.by hkl
  cases hb'
  generalize bs[i] = x at *
  generalize bs[k] = y at *
  clear h
  have e7 : IntKind.i64.wrap (t * 7) = t * 7 := IntWalk.i64_in _ (by omega)
  have e8 : IntKind.i64.wrap (t * 7 + 1) = t * 7 + 1 := IntWalk.i64_in _ (by omega)
  have ex : IntKind.i64.wrap x = x := IntWalk.i64_in _ (by omega)
  have ey : IntKind.i64.wrap y = y := IntWalk.i64_in _ (by omega)
  have e9 : IntKind.i64.wrap (x * 40) = x * 40 := IntWalk.i64_in _ (by omega)
  have e10 : IntKind.i64.wrap (x * 40 + y) = x * 40 + y := IntWalk.i64_in _ (by omega)
  go_enter Tryz.func14, Tryz.ntmps14
  go_wp2_with fail
  refine bodyPost_ret (results_tmp rfl _ _ _) rfl ?_
  exact ⟨_, rfl, frc, by omega, by omega⟩

set_option maxRecDepth 100000 in
set_option maxHeartbeats 2000000 in
theorem loKind_ok (w : World) : Calls Tryz.prog 18 #[] w (Gives (.agg #[.int .i64 1, .string ⟨#[]⟩]) w) := by
 go_enter Tryz.func18, Tryz.ntmps18
 go_wp2
 refine bodyPost_ret (v := .agg #[.int .i64 1, .string ⟨#[]⟩]) (by simp [results, Tryz.results18, go_sem]) rfl ?_
 exact ⟨rfl, frc⟩

def givesB (s : St) (n : Int) : Bool := decide (s.status = 2) && (decide (s.back.kind = 1) && decide (s.back.n = n))
set_option maxRecDepth 100000 in
set_option maxHeartbeats 2000000 in
theorem loGives_ok (X : Nat → Prop) (s : St) (n : Int) (cs : List Value) (w : World) (h : StC X w cs s) (hg : givesB s n = true) : Calls Tryz.prog 13 #[.agg cs.toArray, .int .i64 n] w (Gives (.bool true) w) := by
 obtain ⟨vf, vh, vo, rfl, hf, hh, ho⟩ := h
 obtain ⟨Af, cf, rfl, _, _⟩ := hf.form
 obtain ⟨Ah, ch, rfl, _, _⟩ := hh.form
 obtain ⟨Ao, co, rfl, _, _⟩ := ho.form
 unfold givesB at hg
 simp only [Bool.and_eq_true, decide_eq_true_eq] at hg
 obtain ⟨g1, g2, g3⟩ := hg
 rw [g1, g2, g3]
 clear hf hh ho g1 g2 g3
 go_enter Tryz.func13, Tryz.ntmps13
 go_wp2
 refine bodyPost_ret (results_tmp rfl _ _ _) rfl ?_
 exact ⟨rfl, frc⟩

def sMain : Str := ⟨#[109, 97, 105, 110]⟩
def sRun : Str := ⟨#[114, 117, 110]⟩
structure DoOk (p : Plan) (n : Int) (T : St) : Prop where
 lod : lodB p = true
 has : hasK p 0 = true
 num : numB n = true
 cls : ∃ r, classM p 0 sMain = some r ∧ (layB p r).length ≤ 1000 ∧ T = enterM p true ⟨1, [], [⟨r, newVals p r⟩], [], noVal⟩ [] ⟨(callB p 0 sMain sRun).1.1, (callB p 0 sMain sRun).1.2⟩ [⟨2, 0⟩, ⟨1, n⟩]
 call : (callB p 0 sMain sRun).2 = 1
 start : startB (mthAt p (callB p 0 sMain sRun).1) [n] = true
 small : SmS T
 ops : OkOps (mthAt p (callB p 0 sMain sRun).1).code
theorem SmS.flds {s : St} (h : SmS s) : ∀ o ∈ s.heap, o.fields.length ≤ 1000 := h.2.1
structure GoOk (p : Plan) (T : St) : Prop where
 lod : lodB p = true
 ok : stB p T = true
 wfh : ∀ o ∈ T.heap, (Lit.int .i64 o.of_.keeper).wf = true
 wff : ∀ f ∈ T.frames, (Lit.int .i64 f.of_.of_.keeper).wf = true
 stk : ∀ f ∈ T.frames, f.stack = []
 small : SmS T
 run : RunOk p true T 400
 smallR : SmS (runM p true 400 T)
def newP (T : St) : Value → World → Prop := fun v W => ∃ cs : List Value, v = .agg cs.toArray ∧ StC No W cs T
theorem newP_mono (T : St) : MonP (newP T) := fun _ _ _ ⟨cs, h1, h2⟩ hf => ⟨cs, h1, h2.keep hf (fun _ h => h)⟩
def StPost (T : St) (w : World) (e : Ending) (w' : World) : Prop := (∃ cs : List Value, e = .returned (.agg cs.toArray) ∧ StC (fun b => b < w.heap.size) w' cs T) ∧ Fr No w w'
theorem OutC.one {w : World} {b : Nat} {n : Int} (h : Bx w b 3 #[.int .i64 n]) : Sl No w 1 OutC (.slice (some ⟨b, 0, none⟩) 1 1) [n] :=
 ⟨_, _, rfl, Nat.le_refl _, by unfold maxLen; simp, fun _ => ⟨b, 0, rfl, fun h => h, fun k hk => by
  obtain rfl : k = 0 := by simp at hk; omega
  refine ⟨[.int .i64 n], rfl, rfl, fun j hj => ?_⟩
  obtain rfl : j = 0 := by omega
  exact h.cell 0⟩⟩

theorem vmNew_do {p : Plan} {n : Int} {T : St} (h : DoOk p n T) (va pv : Value) (w : World) (hp : Sl No w 2 (KprC No w) pv p.keepers) (hv : Sl No w 1 OutC va [n]) :
  Calls Tryz.prog 11 #[.agg #[pv], .bool true, .int .i64 0, .string sMain, .string sRun, va] w (StPost T w) := by
 obtain ⟨r, c1, c2, c3⟩ := h.cls
 exact (vmNew_ok p true 0 sMain sRun [n] va pv w hp (by decide) (by decide) hv (by simp) h.lod h.has (by decide) (by decide) (by simp [h.num]) r c1 h.call h.start (by simp) c2 h.ops T c3 h.small)
theorem vmRun_go {p : Plan} {T : St} (h : GoOk p T) (cs : List Value) (pv : Value) (w : World) (hp : Sl No w 2 (KprC No w) pv p.keepers) (hs : StC No w cs T) :
  Calls Tryz.prog 12 #[.agg #[pv], .bool true, .agg cs.toArray, .int .i64 400] w (StPost (runM p true 400 T) w) := by
 exact (vmRun_ok p true T 400 cs pv w hp hs h.wfh h.wff (by decide) h.lod h.ok h.stk h.small.flds h.run h.smallR)

set_option maxRecDepth 100000 in
set_option maxHeartbeats 4000000 in
theorem loDo_ok {p : Plan} {n : Int} {T : St} (h : DoOk p n T) (hg : GoOk p T) (pv : Value) (w : World) (hp : Sl No w 2 (KprC No w) pv p.keepers) :
  Calls Tryz.prog 15 #[.agg #[pv], .int .i64 n] w (StPost (runM p true 400 T) w) := by
 obtain ⟨A, cap, rfl, _, _⟩ := hp.form
 obtain ⟨wA, hwA⟩ : ∃ wA, wA = ((w.alloc (.cells #[.slice A p.keepers.length cap] 31)).alloc (.cells #[.int .i64 0, .slice none 0 0, .slice none 0 0, .slice none 0 0, .int .i64 0, .int .i64 0] tVSt)) := ⟨_, rfl⟩
 have hfA : Fr No w wA := hwA ▸ frc
 have B0 : Bx wA w.heap.size 31 #[.slice A p.keepers.length cap] := hwA ▸ (Bx.new _ _ _).alloc _
 have B2 : Bx wA (w.heap.size + 1) tVSt #[.int .i64 0, .slice none 0 0, .slice none 0 0, .slice none 0 0, .int .i64 0, .int .i64 0] := hwA ▸ Bx.new_ (by simp)
 have hpk := fun W (hW : Fr No wA W) => hp.keep (hfA.trans0 hW) (fun _ h => h) (fun _ _ _ h => h.keep (hfA.trans0 hW) (fun _ h => h))
 have KB := B0.r1
 have HN := fun W (hW : Fr No wA W) b (hb : Bx W b 3 #[.int .i64 n]) => vmNew_do h (.slice (some ⟨b, 0, none⟩) 1 1) (.slice A p.keepers.length cap) W (hpk W hW) (OutC.one hb)
 have HR := fun W (hW : Fr No wA W) cs (hc : StC No W cs T) => vmRun_go hg cs (.slice A p.keepers.length cap) W (hpk W hW) hc
 have hsA := hfA.size
 have l2 := B2.lt
 generalize runM p true 400 T = R at *
 clear hp hpk h hg
 go_enter Tryz.func15, Tryz.ntmps15
 go_wp2_with fail
 rw [← hwA]
 replace hwA := Lib.hid hwA
 refine wp_region_monR 5 10 [mV (.agg #[.slice A p.keepers.length cap]), mV (.agg #[.slice A p.keepers.length cap]), mV (.int .i64 n), mS 3 (#[.int .i64 n]) 1 wA.heap.size, mC (newP T) (newP_mono T)] (by kernel_rfl) (by kernel_rfl) (by simp) ?_ ?_
 ·refine hopC ?_ <| hopC ?_ <| hopC ?_ <| hopC ?_ <| hopC ?_ <| hopZ
  all_goals (intro a' W hW hoff hdep; have hbs := hW.size; have H2 := hoff 2 rfl; have H1 := hoff 1 rfl; refine nE rfl ?_)
  ·clear hoff hdep; simp [execOp, Act.eval, go_sem, givesUpon, *]; exact fr1 rfl
  ·clear hoff hdep; simp [execOp, Act.eval, go_sem, givesUpon, *]; exact fr1 rfl
  ·simp [execOp, Act.eval, H1, go_sem, givesUpon]; exact fr1 rfl
  ·have D7 : _ = _ := hdep 2 7 rfl; simp at D7; simp [execOp, Act.eval, D7, go_sem, givesUpon]; exact ⟨(Fr.refl _ _).alloc _, ⟨_, rfl, Bx.new_ rfl, hbs⟩, Nat.le_refl _⟩
  ·have D6 : _ = _ := hdep 1 6 rfl; obtain ⟨b, D8, hb, hl⟩ : (slB 3 #[.int .i64 n] 1 wA.heap.size) _ W := hdep 3 8 rfl; simp [Act.eval, D6, D8, go_sem, givesUpon]; exact (HN _ hW _ hb).mono (by rintro e w9 ⟨⟨cs, rfl, h3⟩, h4⟩; exact ⟨_, rfl, h4, cs, rfl, h3.weaken (fun _ h => h.elim)⟩)
 intro vs WR hWR hv hne
 obtain ⟨b3, e3, hb3, hl3⟩ := hv 3 (by omega)
 obtain ⟨csR4, e4, htR4⟩ := hv 4 (by omega)
 simp only [List.drop_succ_cons, List.drop_zero, putsR_C, putsR_S, putsR_V, putsR_0, Nat.zero_add, Nat.reduceAdd, e3, e4]
 simp only [Act.put, List.setIfInBounds_toArray, List.set_cons_zero, List.set_cons_succ]
 clear e3 e4 hv
 have HR4 := HR WR hWR csR4 htR4
 have hwR := hWR.size
 have hBR := B2.keep hWR
 have hwR0 : Fr No w WR := hfA.trans0 hWR
 clear hne HR HN htR4 hb3
 go_wp2_with fail
 refine HR4.mono ?_
 rintro e w5 ⟨⟨cs5, rfl, vf5, vh5, vo5, rfl, hf5, hh5, ho5⟩, hfr5⟩
 obtain ⟨A1, c1, rfl, _, _⟩ := hf5.form
 obtain ⟨A2, c2, rfl, _, _⟩ := hh5.form
 obtain ⟨A3, c3, rfl, _, _⟩ := ho5.form
 have hB5 := hBR.keep hfr5
 obtain ⟨x0, x1, x2, x3, x4, x5⟩ := hB5.c6
 have xf := fun i => hB5.frozen i
 have xl := hB5.lt
 go_wp2_with fail
 obtain ⟨W7, hW7⟩ : ∃ W7, W7 = ((((((w5.setCell ⟨w.heap.size + 1, 0, none⟩ (.int .i64 R.status)).setCell ⟨w.heap.size + 1, 1, none⟩ (.slice A1 R.frames.length c1)).setCell ⟨w.heap.size + 1, 2, none⟩ (.slice A2 R.heap.length c2)).setCell ⟨w.heap.size + 1, 3, none⟩ (.slice A3 R.outs.length c3)).setCell ⟨w.heap.size + 1, 4, none⟩ (.int .i64 R.back.kind)).setCell ⟨w.heap.size + 1, 5, none⟩ (.int .i64 R.back.n)) := ⟨_, rfl⟩
 have B7 : Bx W7 (w.heap.size + 1) tVSt #[.int .i64 R.status, .slice A1 R.frames.length c1, .slice A2 R.heap.length c2, .slice A3 R.outs.length c3, .int .i64 R.back.kind, .int .i64 R.back.n] := hW7 ▸ hB5.fill6
 have hf7 : Fr (fun b => b = w.heap.size + 1) w5 W7 := hW7 ▸ (((((Fr.one _ _ _ _).same (Fr.one _ _ _ _)).same (Fr.one _ _ _ _)).same (Fr.one _ _ _ _)).same (Fr.one _ _ _ _)).same (Fr.one _ _ _ _)
 rw [← hW7]
 clear hW7
 obtain ⟨r0, r1, r2, r3, r4, r5⟩ := B7.c6
 have rl := B7.lt
 refine bodyPost_ret (v := .agg #[.int .i64 R.status, .slice A1 R.frames.length c1, .slice A2 R.heap.length c2, .slice A3 R.outs.length c3, .int .i64 R.back.kind, .int .i64 R.back.n]) (by simp [results, Tryz.results15, go_sem, r0, r1, r2, r3, r4, r5]) rfl ?_
 have hnx : ∀ b, b = w.heap.size + 1 → b < WR.heap.size := fun b e => by omega
 exact ⟨⟨[_, _, _, _, _, _], rfl, _, _, _, rfl, (hf5.keep hf7 hnx (fun _ _ _ h => h.keep hf7 hnx)).weaken (Y := fun b => b < w.heap.size) (fun b e => by omega) (fun _ _ _ h => h.weaken (fun b e => by omega)), (hh5.keep hf7 hnx (fun _ _ _ h => h.keep hf7 hnx)).weaken (Y := fun b => b < w.heap.size) (fun b e => by omega) (fun _ _ _ h => h.weaken (fun b e => by omega)), (ho5.keep hf7 hnx (fun _ _ _ h => h)).weaken (Y := fun b => b < w.heap.size) (fun b e => by omega) (fun _ _ _ h => h)⟩, (hwR0.trans0 hfr5).trans hf7 (fun b hb e => by omega)⟩
end Go.Proofs.YtbalicnnlfennaaGreat
