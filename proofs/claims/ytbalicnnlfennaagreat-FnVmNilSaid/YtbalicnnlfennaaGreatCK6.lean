/- The program's own machine: a new thing. -/
import Derived.Test.YtbalicnnlfennaaGreatCK5
namespace Go.Proofs.YtbalicnnlfennaaGreat
open Go.RowKit

theorem ownsRow_row {w : World} {base sz n : Nat} {e : TypeId} {v : Value} {xs : List Value} (h : w.ownsRow base e sz v n xs) : RowV w e sz v n xs ∧ ∀ q, rowBlk v = some q → base ≤ q := by
 refine ⟨.inl ⟨h.1, h.2.imp id (fun ⟨g, cap, cur, h1, h2, h3⟩ => ⟨g, cap, cur, h1, Nat.zero_le _, h3⟩)⟩, fun q hq => ?_⟩
 rcases h.2 with ⟨rfl, rfl⟩ | ⟨g, cap, cur, rfl, h2, _⟩
 ·cases hq
 ·rw [rowBlk_at] at hq
  split at hq
  ·cases hq
  ·cases hq; exact h2
abbrev tLnk : TypeId := 154
def layC (K : McP) (n : Nat) (wA : World) (j : Nat) (W : World) : Prop := Fr (fun x => x = K.bl) wA W ∧ Lg W K.l K.bl (n + j) K.p
def layV (base : Nat) (L : List LFld) : Value → World → Prop := fun v W => ∃ A c, v = .slice A L.length c ∧ RowV W tLnk 5 (.slice A L.length c) L.length (L.flatMap lfCells) ∧ ∀ q, rowBlk (.slice A L.length c) = some q → base ≤ q
theorem layV.mono {base : Nat} {L : List LFld} : MonP (layV base L) := fun _ _ _ ⟨A, c, h1, h2, h3⟩ hf => ⟨A, c, h1, h2.keep0 hf, h3⟩
theorem layV.stab {base : Nat} {L : List LFld} {bl : Nat} (hb : bl < base) {v : Value} {W W' : World} (h : layV base L v W) (hs : Fr (fun x => x = bl) W W') : layV base L v W' :=
 let ⟨A, c, h1, h2, h3⟩ := h; ⟨A, c, h1, h2.keep hs (fun q hq e => by have := h3 q hq; omega), h3⟩
def fldVal (f : LFld) : Val := if f.kind.kind = 1 then ⟨1, 0⟩ else ⟨3, 0⟩
theorem info_obj : (Tryz.prog.info? 150).map (fun i => (i.zero, i.size, i.bytes)) = some (some (.agg #[.int .i64 0, .string ⟨#[]⟩, .slice none 0 0]), 3, 48) := by kernel_rfl
theorem newVals_eq (p : Plan) (r : Ref) : newVals p r = (layB p r).map fldVal := rfl
theorem lfCells_len (f : LFld) : (lfCells f).length = 5 := rfl
def CreatePost (K : McP) (n : Nat) (s : St) (m : MLay) (r : Ref) (w : World) (e : Ending) (w' : World) : Prop :=
 e = .returned (.agg #[.int .i64 2, .int .i64 (s.heap.length : Int)]) ∧ ∃ m', McS K n ⟨s.status, s.frames, s.heap ++ [⟨r, newVals K.p r⟩], s.outs, s.back⟩ m' w' ∧ m'.kc = m.kc ∧ (∀ b ∈ mcB K m', b ∈ mcB K m ∨ w.heap.size ≤ b) ∧ Fr (K.own m) w w'

set_option maxRecDepth 100000 in
set_option maxHeartbeats 4000000 in
theorem create_ok (K : McP) (E : McE K) (n : Nat) (s : St) (m : MLay) (w : World) (h : McS K n s m w) (r : Ref) (hr : r.name.size ≤ maxLen) (wk : (Lit.int .i64 r.keeper).wf = true) (hn : n < 990000) (hhl : s.heap.length < 100) (hL : (layB K.p r).length ≤ 1000) :
  Calls Tryz.prog 37 #[.pointer (some ⟨K.mb, 0, none⟩), .agg #[.int .i64 r.keeper, .string r.name]] w (CreatePost K (n + 1) s m r w) := by
 unfold CreatePost
 rw [newVals_eq]
 have hlg := h.lg
 have hbl := hlg.lt
 have hbl0 := E.bl_lt
 have hw0 := h.anchor.size
 have hmm := h.lt (mem_mcB.2 (.inl rfl))
 have hmn := h.new _ (mem_mcB.2 (.inl rfl))
 have hZ := Lib.hid (fun b (hb : b ∈ mcB K m) => h.lt hb)
 obtain ⟨Ah, ch, hvh, hh1, hh2⟩ := h.hrow.form
 replace hvh := Lib.hid hvh
 replace hh2 := Lib.hid hh2
 have HL := fun n' W (hW : Lg W K.l K.bl n' K.p) (h9 : n' < 1000000) => layout_ok K.l K.bl n' K.p r W hW hr wk h9
 unfold LayPost at HL
 obtain ⟨rk, rn⟩ := r
 dsimp only at *
 generalize layB K.p ⟨rk, rn⟩ = L at *
 obtain ⟨wA, hwA⟩ : ∃ wA, wA = ((w.alloc (.cells #[.int .i64 rk, .string rn] 54)).alloc (.cells #[.int .i64 0, .int .i64 0] 40)).alloc (.cells #[.int .i64 rk, .string rn, .slice none 0 0] 150) := ⟨_, rfl⟩
 have hfA : Fr No w wA := hwA ▸ frc
 have B3 := (hwA ▸ bxc : Bx wA w.heap.size 54 #[.int .i64 rk, .string rn])
 have B4 := (hwA ▸ bxc : Bx wA (w.heap.size + 1) 40 #[.int .i64 0, .int .i64 0])
 have B5 := (hwA ▸ bxc : Bx wA (w.heap.size + 1 + 1) 150 #[.int .i64 rk, .string rn, .slice none 0 0])
 have hzA : wA.heap.size = w.heap.size + 3 := by rw [hwA]; simp
 go_enter Tryz.func37, Tryz.ntmps37
 go_wp2_with fail
 rw [← hwA]
 have hG : ∀ j W, layC K n wA j W → Fr (fun x => x = K.bl) wA W := fun _ _ h => h.1
 have hGs : ∀ W, Fr (fun x => x = K.bl) wA W → wA.heap.size ≤ W.heap.size := fun _ h => h.size
 have KMA : ∀ W, Fr (fun x => x = K.bl) wA W → W.cell? ⟨K.mb, 0, none⟩ = some (.pointer (some ⟨K.l, 0, none⟩)) ∧ K.mb < W.heap.size := fun W hW => by
  have := (h.box.keep hfA).keepX hW (by omega)
  exact ⟨this.cell 0, this.lt⟩
 have K3 : ∀ W, Fr (fun x => x = K.bl) wA W → W.cell? ⟨w.heap.size, 0, none⟩ = some (.int .i64 rk) ∧ W.cell? ⟨w.heap.size, 1, none⟩ = some (.string rn) ∧ w.heap.size < W.heap.size := fun W hW => by
  have := B3.keepX hW (by omega)
  exact ⟨this.c2.1, this.c2.2, this.lt⟩
 have h0 : layC K n wA 0 wA.drew := ⟨(Fr.refl _ wA).drew, (hlg.keep hfA).keep ((Fr.refl No wA).drew)⟩
 replace hwA := Lib.hid hwA
 refine wp_region_allL [isV (.pointer (some ⟨K.mb, 0, none⟩)), isV (.pointer (some ⟨K.mb, 0, none⟩)), isV (.pointer (some ⟨K.mb, 0, none⟩)), isV (.pointer (some ⟨K.l, 0, none⟩)), isV (.agg #[.int .i64 rk, .string rn]), layV wA.heap.size L, isV (.int .i64 (L.length : Int)), isV (.int .i64 0)] [false, false, false, false, false, true, false, false] [true, true, true, true, true, true, true, true] 1 (layC K n wA) (fun W W' => Fr (fun x => x = K.bl) W W') (by kernel_rfl) (by kernel_rfl) ?_ ?_ ?_ ?_ ?_ (by decide) ?_ ?_ ?_ ?_ ?_
 ·intro o ho d hd; simp only [List.mem_cons, List.not_mem_nil, or_false] at ho; rcases ho with rfl | rfl | rfl | rfl | rfl | rfl | rfl | rfl <;> (cases hd <;> simp)
 ·intro x hx
  simp only [List.mem_cons, List.not_mem_nil, or_false] at hx
  rcases hx with rfl | rfl | rfl | rfl | rfl | rfl | rfl | rfl
  ·exact isV_mono _
  ·exact isV_mono _
  ·exact isV_mono _
  ·exact isV_mono _
  ·exact isV_mono _
  ·exact layV.mono
  ·exact isV_mono _
  ·exact isV_mono _
 ·intro x hx v W W' h hs
  simp only [List.mem_cons, List.not_mem_nil, or_false] at hx
  rcases hx with rfl | rfl | rfl | rfl | rfl | rfl | rfl | rfl
  ·exact h
  ·exact h
  ·exact h
  ·exact h
  ·exact h
  ·exact layV.stab (by omega) h hs
  ·exact h
  ·exact h
 ·exact fun _ _ _ h hf => ⟨h.1.trans0 hf, h.2.keep hf⟩
 ·intro k o ho
  rcases k with _ | _ | _ | _ | _ | _ | _ | _ | k
  all_goals (first | (simp at ho; done) | skip)
  all_goals simp only [List.getElem?_cons_zero, List.getElem?_cons_succ, Option.some.injEq] at ho
  all_goals subst ho
  all_goals refine ⟨fun h => ?_, fun g b h v W hv => ?_⟩
  all_goals first | rfl | (cases h; done) | (cases h; obtain rfl : v = Value.bool _ := hv; rfl) | (cases h; obtain rfl : v = undef := hv; rfl)
 ·intro k hk h W; exfalso; revert h; revert hk; revert k; decide
 ·exact h0
 ·intro k o ho hu hg a' W jc hjc hW0 hoff hdep
  have hW := hG jc _ hW0
  have hbs := hGs _ hW
  have H0 := hoff 0 (by simp)
  have H3 := hoff 3 (by simp)
  simp only [Act.eval] at H0 H3
  rcases k with _ | _ | _ | _ | _ | _ | _ | _ | k
  all_goals (first | (simp at ho; done) | skip)
  all_goals (first | (exact absurd hu (by decide)) | skip)
  all_goals (first | (exact absurd hg (by decide)) | skip)
  all_goals simp only [List.getElem?_cons_zero, List.getElem?_cons_succ, Option.some.injEq] at ho
  all_goals subst ho
  ·unfold opGives
   simp [execOp, Act.eval, H0, go_sem, givesUpon]
   exact ⟨Fr.refl _ _, rfl⟩
  ·have D10 : a'.eval (.tmp 10) = .pointer (some ⟨K.mb, 0, none⟩) := hdep ⟨0, .data⟩ (by simp) rfl _ 10 rfl rfl
   simp only [Act.eval] at D10
   unfold opGives
   simp [execOp, Act.eval, D10, go_sem, givesUpon]
   exact ⟨Fr.refl _ _, rfl⟩
  ·have D11 : a'.eval (.tmp 11) = .pointer (some ⟨K.mb, 0, none⟩) := hdep ⟨1, .data⟩ (by simp) rfl _ 11 rfl rfl
   simp only [Act.eval] at D11
   unfold opGives
   simp [execOp, Act.eval, D11, go_sem, givesUpon]
   exact ⟨Fr.refl _ _, rfl⟩
  ·have D12 : a'.eval (.tmp 12) = .pointer (some ⟨K.mb, 0, none⟩) := hdep ⟨2, .data⟩ (by simp) rfl _ 12 rfl rfl
   simp only [Act.eval] at D12
   unfold opGives
   simp [execOp, Act.eval, go_sem, givesUpon, *]
   exact ⟨Fr.refl _ _, rfl⟩
  ·unfold opGives
   simp [execOp, Act.eval, go_sem, givesUpon, *]
   exact ⟨Fr.refl _ _, rfl⟩
  ·obtain ⟨A, c, D15, hLr, hLq⟩ : (layV wA.heap.size L) (a'.eval (.tmp 15)) W := hdep ⟨5, .data⟩ (by simp) rfl _ 15 rfl rfl
   simp only [Act.eval] at D15
   unfold opGives
   simp [Act.eval, D15, go_sem, givesUpon]
   exact ⟨Fr.refl _ _, rfl⟩
  ·unfold opGives
   simp [execOp, go_sem, givesUpon]
   exact ⟨Fr.refl _ _, rfl⟩
 ·intro k o ho hu a' W jc hjc hW0 hoff hdep
  have hW := hG jc _ hW0
  have hbs := hGs _ hW
  have H0 := hoff 0 (by simp)
  have H3 := hoff 3 (by simp)
  simp only [Act.eval] at H0 H3
  rcases k with _ | _ | _ | _ | _ | _ | _ | _ | k
  all_goals (first | (simp at ho; done) | skip)
  all_goals (first | (exact absurd hu (by decide)) | skip)
  all_goals simp only [List.getElem?_cons_zero, List.getElem?_cons_succ, Option.some.injEq] at ho
  all_goals subst ho
  ·have D13 : a'.eval (.tmp 13) = .pointer (some ⟨K.l, 0, none⟩) := hdep ⟨3, .data⟩ (by simp) rfl _ 13 rfl rfl
   have D14 : a'.eval (.tmp 14) = .agg #[.int .i64 rk, .string rn] := hdep ⟨4, .data⟩ (by simp) rfl _ 14 rfl rfl
   simp only [Act.eval] at D13 D14
   unfold opGives
   simp [Act.eval, D13, D14, go_sem, givesUpon]
   exact (HL _ W hW0.2 (by omega)).mono (fun e w' h => by obtain ⟨v, h1, h2, h3, h4⟩ := h; obtain ⟨q1, q2⟩ := ownsRow_row h2; obtain ⟨A, c, q3, _, _⟩ := q1.form; subst q3; exact ⟨_, h1, ⟨hW0.1.trans h3 (fun _ _ h => h), h4.mono (by omega)⟩, h3, A, c, rfl, q1, fun q hq => Nat.le_trans hbs (q2 q hq)⟩)
 intro vs WR hWR hv
 have e0 : vs 0 = _ := hv 0 (by decide)
 have e1 : vs 1 = _ := hv 1 (by decide)
 have e2 : vs 2 = _ := hv 2 (by decide)
 have e3 : vs 3 = _ := hv 3 (by decide)
 have e4 : vs 4 = _ := hv 4 (by decide)
 obtain ⟨AR5, cR5, e5, hLrR5, hLqR5⟩ := hv 5 (by decide)
 have e6 : vs 6 = _ := hv 6 (by decide)
 have e7 : vs 7 = _ := hv 7 (by decide)
 simp only [putsL, if_true, Nat.zero_add, Nat.reduceAdd, e0, e1, e2, e3, e4, e5, e6, e7]
 simp only [Act.put, List.setIfInBounds_toArray, List.set_cons_zero, List.set_cons_succ]
 clear e0 e1 e2 e3 e4 e5 e6 e7 hv
 obtain ⟨hf1, hl1⟩ := id hWR
 have hWR1 := Lib.hid hWR
 obtain ⟨w1, hw1⟩ : ∃ w1, w1 = WR := ⟨_, rfl⟩
 rw [← hw1] at hf1 hl1 hLrR5 ⊢
 have hB41 := B4.keepX hf1 (by omega)
 have hB51 := B5.keepX hf1 (by omega)
 have hM1 : McS K (n + 1) s m w1 := (h.keep E hfA).lodge E hl1 hf1
 obtain ⟨i0, hi0, hz0, hz1, hz2⟩ := info_parts info_val
 replace hi0 := Lib.hid hi0
 replace hz0 := Lib.hid hz0
 replace hz1 := Lib.hid hz1
 replace hz2 := Lib.hid hz2
 have hLr1 := Lib.hid hLrR5
 have hLq := Lib.hid hLqR5
 replace hM1 := Lib.hid hM1
 replace hB41 := Lib.hid hB41
 have hI0 : Hid (∃ vf, Bx w1 (w.heap.size + 1 + 1) 150 #[.int .i64 rk, .string rn, vf] ∧ ValRow w1 vf ((L.take 0).map fldVal) ∧ (∀ q, rowBlk vf = some q → wA.heap.size ≤ q) ∧ RowV w1 tLnk 5 (.slice AR5 L.length cR5) L.length (L.flatMap lfCells) ∧ Fr (fun x => w.heap.size + 2 ≤ x) w1 w1) :=
  Lib.hid ⟨.slice none 0 0, hB51, RowV.nil _ _ _, (fun q hq => by cases hq), hLrR5, Fr.refl _ _⟩
 clear hWR hG hGs KMA K3 h0 HL hLrR5 hLqR5 hl1 B3 B4 B5 hlg h
 go_wp2_with fail
 go_loopw [17] (fun i wr => ∃ j : Nat, j ≤ L.length ∧ i = .int .i64 (j : Int) ∧ Hid (∃ vf, Bx wr (w.heap.size + 1 + 1) 150 #[.int .i64 rk, .string rn, vf] ∧ ValRow wr vf ((L.take j).map fldVal) ∧ (∀ q, rowBlk vf = some q → wA.heap.size ≤ q) ∧ RowV wr tLnk 5 (.slice AR5 L.length cR5) L.length (L.flatMap lfCells) ∧ Fr (fun x => w.heap.size + 2 ≤ x) w1 wr)) (fun i _ => L.length - (intOf i).toNat)
 case atStart => exact ⟨0, Nat.zero_le _, rfl, hI0⟩
 case round =>
  clear hI0
  obtain ⟨j, hj, rfl, hI⟩ := hrel
  obtain ⟨vf, hB5, hvf, hvq, hLr, hfr⟩ := hI.out
  clear hI
  replace hLq := hLq.out
  obtain ⟨Af, cf, hvv, hcf1, hcf2⟩ := RowV.form hvf
  have htl : ((L.take j).map fldVal).length = j := by simp; omega
  rw [htl] at hvv hcf1
  subst hvv
  unfold maxLen at hcf2
  by_cases hlt : j < L.length
  ·obtain ⟨gL, cL, curL, heL, qL1, qL2, hbL, _, _, _⟩ := RowV.at_ hLr (by omega)
   simp only [Value.slice.injEq] at heL
   obtain ⟨rfl, _, rfl⟩ := heL
   unfold maxLen at qL2
   have hcl := fun d (hd : d < 5) => (RowV.cell hLr rfl (j := j * 5 + d) (by omega)).trans (flatW_get lfCells_len L j hlt d hd)
   have l0 : wr.cell? ⟨gL, j * 5, none⟩ = some (.int .i64 L[j].of_.keeper) := hcl 0 (by decide)
   have l1 : wr.cell? ⟨gL, j * 5 + 1, none⟩ = some (.string L[j].of_.name) := hcl 1 (by decide)
   have l2 : wr.cell? ⟨gL, j * 5 + 2, none⟩ = some (.int .i64 L[j].at_) := hcl 2 (by decide)
   have l3 : wr.cell? ⟨gL, j * 5 + 3, none⟩ = some (.int .i64 L[j].kind.kind) := hcl 3 (by decide)
   have l4 : wr.cell? ⟨gL, j * 5 + 4, none⟩ = some (.string L[j].kind.name) := hcl 4 (by decide)
   have ll := hbL.lt
   clear hcl
   have hadd : IntKind.i64.wrap ((j : Int) + 1) = ((j + 1 : Nat) : Int) := by rw [IntWalk.i64_in _ (by omega)]; simp
   have hfv : fldVal L[j] = if L[j].kind.kind = 1 then ⟨1, 0⟩ else ⟨3, 0⟩ := rfl
   generalize hx : L[j] = x at *
   obtain ⟨⟨x1, x2⟩, x3, ⟨x4, x5⟩⟩ := x
   dsimp only at l0 l1 l2 l3 l4 hfv
   replace hx := Lib.hid hx
   replace hfv := Lib.hid hfv
   replace hB5 := Lib.hid hB5
   replace hvf := Lib.hid hvf
   replace hLr := Lib.hid hLr
   replace htl := Lib.hid htl
   replace hadd := Lib.hid hadd
   by_cases hk : x4 = 1
   ·subst hk
    go_wp2_with fail
    obtain ⟨wB, hwB⟩ : ∃ wB, wB = wr.alloc (.cells #[.int .i64 x1, .string x2, .int .i64 x3, .int .i64 1, .string x5] 154) := ⟨_, rfl⟩
    rw [← hwB]
    have hfB : Fr No wr wB := hwB ▸ frc
    replace hwB := Lib.hid hwB
    replace hB5 := hB5.out
    replace hvf := hvf.out
    replace hLr := hLr.out
    replace htl := htl.out
    replace hadd := hadd.out
    replace hfv := hfv.out
    have KB5 := (hB5.keep hfB).r3
    have KF : True := trivial
    clear l0 l1 l2 l3 l4 ll hbL
    refine wp_region_monR 4 29 [mV (.pointer (some ⟨w.heap.size + 1 + 1, 2, none⟩)), mV (.slice Af j cf), mV (.agg #[.int .i64 1, .int .i64 0]), mS 40 (#[.int .i64 1, .int .i64 0]) 1 wB.heap.size] (by kernel_rfl) (by kernel_rfl) (by simp) ?_ ?_
    ·refine hopC ?_ <| hopC ?_ <| hopC ?_ <| hopC ?_ <| hopZ
     all_goals (intro a' W hW hoff hdep; have hbs := hW.size; have H5 := hoff 5 rfl; refine nE rfl ?_)
     ·simp [execOp, Act.eval, H5, go_sem, givesUpon]; exact fr1 rfl
     ·have D25 : _ = _ := hdep 0 25 rfl; clear hoff hdep; simp [execOp, Act.eval, go_sem, givesUpon, *]; exact fr1 rfl
     ·simp [go_sem, givesUpon]; exact (numVal_ok 0 _).mono fun e w' h => ⟨_, h.1, h.2, rfl⟩
     ·have D27 : _ = _ := hdep 2 27 rfl; simp at D27; simp [execOp, Act.eval, D27, go_sem, givesUpon]; exact ⟨(Fr.refl _ _).alloc _, ⟨_, rfl, Bx.new_ rfl, hbs⟩, Nat.le_refl _⟩
    intro vs WR hWR hv hne
    obtain ⟨b3, e3, hb3, hl3⟩ := hv 3 (by omega)
    simp only [List.drop_succ_cons, List.drop_zero, putsR_S, putsR_V, putsR_0, Nat.zero_add, Nat.reduceAdd, e3]
    simp only [Act.put, List.setIfInBounds_toArray, List.set_cons_zero, List.set_cons_succ]
    clear e3 hv
    have hfBR := hfB.trans0 hWR
    have hrowR : RowV WR tVal 2 (.slice Af j cf) j (((L.take j).map fldVal).flatMap valCells) := by
     have := RowV.keep0 hvf hfBR
     rw [htl] at this
     exact this
    have hsrc := Lib.hid (Bx.news (cs := valCells ⟨1, 0⟩) hb3)
    have hB5R := hB5.keep hfBR
    have hLR := RowV.keep0 hLr hfBR
    have hne : ∀ q, rowBlk (.slice Af j cf) = some q → q ≠ w.heap.size + 1 + 1 := fun q hq => by have := hvq q hq; omega
    clear KB5 KF
    go_wp2_with (at_builtin; refine wpList_append_row _ rfl _ _ 102 rfl 40 i0 (.agg #[.int .i64 0, .int .i64 0]) 2 16 Tryz.underlying102 hi0.out hz0.out hz1.out hz2.out rfl (by decide) (.slice Af j cf) j (((L.take j).map fldVal).flatMap valCells) rfl hrowR ⟨b3, 0, none⟩ 1 1 (valCells ⟨1, 0⟩) rfl rfl hsrc.out (by simp [valCells, Value.oneCell']) (by decide) (by unfold maxLen; omega) (by omega) ?_; intro g' cap' w3 hrow hcap hgf hor; have hbx := hB5R.keepX hgf (fun e => hne _ e rfl); obtain ⟨z0, z1, z2⟩ := hbx.c3; have zf := (fun i => hbx.frozen i); have zl := hbx.lt)
    have hstore : Fr (fun x => x = w.heap.size + 1 + 1) w3 (w3.setCell ⟨w.heap.size + 1 + 1, 2, none⟩ (.slice (some ⟨g', 0, none⟩) (j + 1) cap')) := Fr.one _ _ _ _
    have hgn : wA.heap.size ≤ g' := by
     rcases hor with h9 | h9
     ·exact hvq _ h9
     ·rw [h9]; have := hfr.size; have := hfBR.size; have := hf1.size; omega
    have hqn : rowBlk (.slice (some ⟨g', 0, none⟩) (j + 1) cap') = some g' := rowBlk_some (by omega)
    refine ⟨⟨j + 1, by omega, by simp, Lib.hid ⟨.slice (some ⟨g', 0, none⟩) (j + 1) cap', hbx.setc rfl, ?_, fun q hq => by rw [hqn] at hq; cases hq; exact hgn, ?_, ?_⟩⟩, by simp [intOf]; omega⟩
    ·have e1 : (L.take (j + 1)).map fldVal = (L.take j).map fldVal ++ [⟨1, 0⟩] := by rw [List.take_succ_eq_append_getElem hlt, List.map_append, List.map_cons, List.map_nil, hx.out]; simp [fldVal]
     have hk := hrow.keep hstore (fun q hq e => by rw [hqn] at hq; cases hq; omega)
     unfold ValRow
     rw [e1, List.flatMap_append]
     have e2 : ((L.take j).map fldVal ++ [(⟨1, 0⟩ : Val)]).length = j + 1 := by simp; omega
     rw [e2]
     simpa using hk
    ·exact (hLR.keep hgf (fun q hq e => by
      obtain ⟨g9, c9, cs9, he9, _, _, hb9, _, _, hq9⟩ := RowV.at_ hLR (by omega)
      rw [hq9] at hq
      cases hq
      exact RowV.ne hrowR hb9 (by decide) e rfl)).keep hstore (fun q hq e => by have := hLq q hq; omega)
    ·exact ((hfr.trans0 hfBR).trans hgf (fun b hb e => by have := hvq b e; omega)).trans hstore (fun b hb e => by omega)
   ·have hd1 : (x4 == 1) = false := by simp [hk]
    go_wp2_with fail
    obtain ⟨wB, hwB⟩ : ∃ wB, wB = wr.alloc (.cells #[.int .i64 x1, .string x2, .int .i64 x3, .int .i64 x4, .string x5] 154) := ⟨_, rfl⟩
    rw [← hwB]
    have hfB : Fr No wr wB := hwB ▸ frc
    replace hwB := Lib.hid hwB
    replace hB5 := hB5.out
    replace hvf := hvf.out
    replace hLr := hLr.out
    replace htl := htl.out
    replace hadd := hadd.out
    replace hfv := hfv.out
    have KB5 := (hB5.keep hfB).r3
    have KF : True := trivial
    clear l0 l1 l2 l3 l4 ll hbL
    refine wp_region_monR 4 35 [mV (.pointer (some ⟨w.heap.size + 1 + 1, 2, none⟩)), mV (.slice Af j cf), mV (.agg #[.int .i64 3, .int .i64 0]), mS 40 (#[.int .i64 3, .int .i64 0]) 1 wB.heap.size] (by kernel_rfl) (by kernel_rfl) (by simp) ?_ ?_
    ·refine hopC ?_ <| hopC ?_ <| hopC ?_ <| hopC ?_ <| hopZ
     all_goals (intro a' W hW hoff hdep; have hbs := hW.size; have H5 := hoff 5 rfl; refine nE rfl ?_)
     ·simp [execOp, Act.eval, H5, go_sem, givesUpon]; exact fr1 rfl
     ·have D31 : _ = _ := hdep 0 31 rfl; clear hoff hdep; simp [execOp, Act.eval, go_sem, givesUpon, *]; exact fr1 rfl
     ·simp [go_sem, givesUpon]; exact (nullVal_ok _).mono fun e w' h => ⟨_, h.1, h.2, rfl⟩
     ·have D33 : _ = _ := hdep 2 33 rfl; simp at D33; simp [execOp, Act.eval, D33, go_sem, givesUpon]; exact ⟨(Fr.refl _ _).alloc _, ⟨_, rfl, Bx.new_ rfl, hbs⟩, Nat.le_refl _⟩
    intro vs WR hWR hv hne
    obtain ⟨b3, e3, hb3, hl3⟩ := hv 3 (by omega)
    simp only [List.drop_succ_cons, List.drop_zero, putsR_S, putsR_V, putsR_0, Nat.zero_add, Nat.reduceAdd, e3]
    simp only [Act.put, List.setIfInBounds_toArray, List.set_cons_zero, List.set_cons_succ]
    clear e3 hv
    have hfBR := hfB.trans0 hWR
    have hrowR : RowV WR tVal 2 (.slice Af j cf) j (((L.take j).map fldVal).flatMap valCells) := by
     have := RowV.keep0 hvf hfBR
     rw [htl] at this
     exact this
    have hsrc := Lib.hid (Bx.news (cs := valCells ⟨3, 0⟩) hb3)
    have hB5R := hB5.keep hfBR
    have hLR := RowV.keep0 hLr hfBR
    have hne : ∀ q, rowBlk (.slice Af j cf) = some q → q ≠ w.heap.size + 1 + 1 := fun q hq => by have := hvq q hq; omega
    clear KB5 KF
    go_wp2_with (at_builtin; refine wpList_append_row _ rfl _ _ 102 rfl 40 i0 (.agg #[.int .i64 0, .int .i64 0]) 2 16 Tryz.underlying102 hi0.out hz0.out hz1.out hz2.out rfl (by decide) (.slice Af j cf) j (((L.take j).map fldVal).flatMap valCells) rfl hrowR ⟨b3, 0, none⟩ 1 1 (valCells ⟨3, 0⟩) rfl rfl hsrc.out (by simp [valCells, Value.oneCell']) (by decide) (by unfold maxLen; omega) (by omega) ?_; intro g' cap' w3 hrow hcap hgf hor; have hbx := hB5R.keepX hgf (fun e => hne _ e rfl); obtain ⟨z0, z1, z2⟩ := hbx.c3; have zf := (fun i => hbx.frozen i); have zl := hbx.lt)
    have hstore : Fr (fun x => x = w.heap.size + 1 + 1) w3 (w3.setCell ⟨w.heap.size + 1 + 1, 2, none⟩ (.slice (some ⟨g', 0, none⟩) (j + 1) cap')) := Fr.one _ _ _ _
    have hgn : wA.heap.size ≤ g' := by
     rcases hor with h9 | h9
     ·exact hvq _ h9
     ·rw [h9]; have := hfr.size; have := hfBR.size; have := hf1.size; omega
    have hqn : rowBlk (.slice (some ⟨g', 0, none⟩) (j + 1) cap') = some g' := rowBlk_some (by omega)
    refine ⟨⟨j + 1, by omega, by simp, Lib.hid ⟨.slice (some ⟨g', 0, none⟩) (j + 1) cap', hbx.setc rfl, ?_, fun q hq => by rw [hqn] at hq; cases hq; exact hgn, ?_, ?_⟩⟩, by simp [intOf]; omega⟩
    ·have e1 : (L.take (j + 1)).map fldVal = (L.take j).map fldVal ++ [⟨3, 0⟩] := by rw [List.take_succ_eq_append_getElem hlt, List.map_append, List.map_cons, List.map_nil, hx.out]; simp [fldVal, hk]
     have hk := hrow.keep hstore (fun q hq e => by rw [hqn] at hq; cases hq; omega)
     unfold ValRow
     rw [e1, List.flatMap_append]
     have e2 : ((L.take j).map fldVal ++ [(⟨3, 0⟩ : Val)]).length = j + 1 := by simp; omega
     rw [e2]
     simpa using hk
    ·exact (hLR.keep hgf (fun q hq e => by
      obtain ⟨g9, c9, cs9, he9, _, _, hb9, _, _, hq9⟩ := RowV.at_ hLR (by omega)
      rw [hq9] at hq
      cases hq
      exact RowV.ne hrowR hb9 (by decide) e rfl)).keep hstore (fun q hq e => by have := hLq q hq; omega)
    ·exact ((hfr.trans0 hfBR).trans hgf (fun b hb e => by have := hvq b e; omega)).trans hstore (fun b hb e => by omega)
  ·obtain rfl : j = L.length := by omega
   rw [List.take_length] at hvf htl
   obtain ⟨j0, hj0, hk0, hk1, hk2⟩ := info_parts info_obj
   replace hj0 := Lib.hid hj0
   replace hk0 := Lib.hid hk0
   replace hk1 := Lib.hid hk1
   replace hk2 := Lib.hid hk2
   replace hh2 := hh2.out
   unfold maxLen at hh2
   have hMr : McS K (n + 1) s m wr := hM1.out.far E hfr (fun b hb => ⟨by omega, fun hx => by have := hZ.out b hx; omega⟩)
   have hB4r := hB41.out.keepX hfr (by omega)
   have KB5 := hB5.r3
   have KM := hMr.cells
   rw [hvh.out] at KM
   have hsub : IntKind.i64.wrap (s.heap.length : Int) = (s.heap.length : Int) := IntWalk.i64_in _ (by omega)
   replace hvf := Lib.hid hvf
   replace hLr := Lib.hid hLr
   replace hB5 := Lib.hid hB5
   replace hB4r := Lib.hid hB4r
   replace hMr := Lib.hid hMr
   replace htl := Lib.hid htl
   go_wp2_with fail
   refine wp_region_monR 7 45 [mE (mV (.pointer (some ⟨K.mb, 0, none⟩))), mV (.pointer (some ⟨K.mb, 0, none⟩)), mV (.pointer (some ⟨K.mb, 0, none⟩)), mV (.pointer (some ⟨K.mb, 4, none⟩)), mV (.slice Ah s.heap.length ch), mV (.agg #[.int .i64 rk, .string rn, .slice Af L.length cf]), mS 150 (#[.int .i64 rk, .string rn, .slice Af L.length cf]) 1 wr.heap.size] (by kernel_rfl) (by kernel_rfl) (by simp) ?_ ?_
   ·refine hopC ?_ <| hopC ?_ <| hopC ?_ <| hopC ?_ <| hopC ?_ <| hopC ?_ <| hopC ?_ <| hopZ
    all_goals (intro a' W hW hoff hdep; have hbs := hW.size; have H0 := hoff 0 rfl; have H5 := hoff 5 rfl)
    ·exact yE rfl ⟨.pointer (some ⟨K.mb, 0, none⟩), fun W => by simp [execOp, Act.eval, H0, go_sem], rfl, rfl⟩
    ·refine nE rfl ?_; simp [execOp, Act.eval, H0, go_sem, givesUpon]; exact fr1 rfl
    ·have D39 : _ = _ := hdep 1 39 rfl; refine nE rfl ?_; simp [execOp, Act.eval, D39, go_sem, givesUpon]; exact fr1 rfl
    ·have D40 : _ = _ := hdep 2 40 rfl; refine nE rfl ?_; simp [execOp, Act.eval, D40, go_sem, givesUpon]; exact fr1 rfl
    ·have D41 : _ = _ := hdep 3 41 rfl; refine nE rfl ?_; clear hoff hdep; simp [execOp, Act.eval, go_sem, givesUpon, *]; exact fr1 rfl
    ·refine nE rfl ?_; clear hoff hdep; simp [execOp, Act.eval, go_sem, givesUpon, *]; exact fr1 rfl
    ·have D43 : _ = _ := hdep 5 43 rfl; simp at D43; refine nE rfl ?_; simp [execOp, Act.eval, D43, go_sem, givesUpon]; exact ⟨(Fr.refl _ _).alloc _, ⟨_, rfl, Bx.new_ rfl, hbs⟩, Nat.le_refl _⟩
   intro vs WR hWR hv hne
   obtain ⟨b6, e6, hb6, hl6⟩ := hv 6 (by omega)
   simp only [List.drop_succ_cons, List.drop_zero, putsR_EV, putsR_S, putsR_V, putsR_0, Nat.zero_add, Nat.reduceAdd, e6]
   simp only [Act.put, List.setIfInBounds_toArray, List.set_cons_zero, List.set_cons_succ]
   clear e6 hv
   have hR := hMr.out.keep E hWR
   have hrowR : RowV WR tObj 3 (.slice Ah s.heap.length ch) s.heap.length (m.ko.flatMap objL.C) := by
    have := hR.hrow
    rw [hvh.out] at this
    exact this
   have hsrc := Lib.hid (Bx.news (cs := [Value.int .i64 rk, .string rn, .slice Af L.length cf]) hb6)
   have hboxR := hR.box
   have hne : ∀ q, rowBlk (.slice Ah s.heap.length ch) = some q → q ≠ K.mb := fun q hq => hR.out3.2.2.1 q (by rw [hvh.out]; exact rowB_c hq)
   have hvnR : ∀ q, rowBlk (.slice Af L.length cf) = some q → q ∉ mcB K m ∧ K.w0.heap.size ≤ q := fun q hq => ⟨fun hx => by have := hZ.out q hx; have := hvq q hq; omega, by have := hvq q hq; omega⟩
   have hfin := fun {g' cap' : Nat} {w3 : World} (hrow : RowV w3 tObj 3 (.slice (some ⟨g', 0, none⟩) (s.heap.length + 1) cap') (s.heap.length + 1) (m.ko.flatMap objL.C ++ [.int .i64 rk, .string rn, .slice Af L.length cf])) (hgf : Fr (fun b => rowBlk (.slice Ah s.heap.length ch) = some b) WR w3) (hor : rowBlk (.slice Ah s.heap.length ch) = some g' ∨ g' = WR.heap.size) (hcap : s.heap.length + 1 ≤ cap') =>
    hR.newObj E (r := ⟨rk, rn⟩) hr (ValRow.keep0 hvf.out hWR) hvnR hrow (by rw [hvh.out]; exact hgf) (by rw [hvh.out]; exact hor) hcap
   have hB4R := hB4r.out.keep hWR
   clear KM KB5
   replace hR := Lib.hid hR
   go_wp2_with (at_builtin; (refine wpList_append_row _ rfl _ _ 37 rfl 150 j0 (.agg #[.int .i64 0, .string ⟨#[]⟩, .slice none 0 0]) 3 48 Tryz.underlying37 hj0.out hk0.out hk1.out hk2.out rfl (by decide) (.slice Ah s.heap.length ch) s.heap.length (m.ko.flatMap objL.C) rfl hrowR ⟨b6, 0, none⟩ 1 1 [Value.int .i64 rk, .string rn, .slice Af L.length cf] rfl rfl hsrc.out (by simp [Value.oneCell']) (by decide) (by unfold maxLen; omega) (by omega) ?_); (intro g' cap' w3 hrow hcap hgf hor); have hbx := hboxR.keepX hgf (fun e => hne _ e rfl); (obtain ⟨m3, hS3, hk3, _, hB3, hf3⟩ := hfin hrow hgf hor hcap); (have hB43 := hB4R.keepX hgf (fun e => by have := hZ.out _ (mem_mcB.2 (.inr (.inr (.inr (.inl (rowB_c (v := m.vh) (by rw [hvh.out]; exact e))))))); omega)); have z4 : w3.cell? ⟨K.mb, 4, none⟩ = some m.vh := hbx.cell 4; have zf := (fun i => hbx.frozen i); have zl := hbx.lt; obtain ⟨y0, y1⟩ := hB43.c2; have yf := (fun i => hB43.frozen i); have yl := hB43.lt; (have hne1 : ¬ w.heap.size + 1 = K.mb := by omega); replace hf3 := Lib.hid hf3; replace hB3 := Lib.hid hB3; replace hB43 := Lib.hid hB43)
   refine bodyPost_ret (v := .agg #[.int .i64 2, .int .i64 (s.heap.length : Int)]) (by simp [results, Tryz.results37, go_sem, *]) rfl ?_
   have hB3' : ∀ b ∈ mcB K m3, b ∈ mcB K m ∨ wA.heap.size ≤ b := fun b hb => by
    rcases hB3.out b hb with h9 | h9 | h9
    ·exact .inl h9
    ·exact .inr (hvq b h9)
    ·exact .inr (by have := hWR.size; have := hfr.size; have := hf1.size; omega)
   have hst : ∀ (W : World) u v, Fr (fun b => b = w.heap.size + 1) W ((W.setCell ⟨w.heap.size + 1, 0, none⟩ u).setCell ⟨w.heap.size + 1, 1, none⟩ v) := fun W u v => (Fr.one _ _ _ _).same (Fr.one _ _ _ _)
   refine ⟨rfl, m3, hS3.far E (hst _ _ _) (fun b hb => ⟨by omega, fun hx => ?_⟩), hk3, fun b hb => (hB3' b hb).imp id (fun h => by omega), ?_⟩
   ·rcases hB3' b hx with h9 | h9
    ·have := hZ.out b h9; omega
    ·omega
   ·exact (((((hfA.of0 (X := K.own m)).trans hf1 (fun b _ h => .inl h)).trans hfr (fun b hb h => by omega)).trans0 hWR).trans hf3.out (fun b _ h => .inr h)).trans (hst _ _ _) (fun b hb h => by omega)
end Go.Proofs.YtbalicnnlfennaaGreat
