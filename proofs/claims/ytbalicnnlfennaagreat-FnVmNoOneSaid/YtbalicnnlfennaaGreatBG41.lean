/- The program's own machine: VmRun. -/
import Derived.Test.YtbalicnnlfennaaGreatBG40
namespace Go.Proofs.YtbalicnnlfennaaGreat
open Go.RowKit

/-- What a step needs: one method is at work, and its instruction may be done. -/
def OneOk (p : Plan) (s : St) : Prop := ∃ f, s.frames = [f] ∧ StepOk p s f ((mthOf p f.of_).code.getD f.pc.toNat noIns)
def RunOk (p : Plan) (look : Bool) (s : St) (fuel : Nat) : Prop := ∀ j, j < fuel → (runM p look j s).status = 1 → OneOk p (runM p look j s)
theorem runM_one {p : Plan} {look : Bool} (s : St) : ∀ j, runM p look (j + 1) s = if (runM p look j s).status = 1 then stepM p look (runM p look j s) else runM p look j s := fun j => by
  induction j generalizing s with
  | zero => rfl
  | succ j ih =>
    rw [runM]
    by_cases h : s.status = 1
    · rw [if_pos h, ih]
      have e : runM p look (j + 1) s = runM p look j (stepM p look s) := by rw [runM, if_pos h]
      rw [e]
    · rw [if_neg h]
      have e : runM p look (j + 1) s = s := by rw [runM, if_neg h]
      rw [e, if_neg h]
theorem runM_end {p : Plan} {look : Bool} {s : St} {j : Nat} (h : (runM p look j s).status ≠ 1) : ∀ d, runM p look (j + d) s = runM p look j s
  | 0 => rfl
  | d + 1 => by
    have ih := runM_end h d
    rw [show j + (d + 1) = (j + d) + 1 from rfl, runM_one, ih, if_neg h]

set_option maxRecDepth 100000 in
theorem step_run (K : McP) (E : McE K) (n : Nat) (s : St) (m : MLay) (w : World) (h : McS K n s m w) (hn : n < 980000) (hok : s.status = 1 → OneOk K.p s) :
    Calls Tryz.prog 26 #[.pointer (some ⟨K.mb, 0, none⟩)] w (fun e w' => e = .returned (.tuple #[]) ∧ StOk K (n + 3) (stepM K.p K.look s) m w w') := by
  by_cases h1 : s.status = 1
  · obtain ⟨f, hf, hs⟩ := hok h1
    have hkl := h.cels.length
    rw [hf] at hkl
    obtain ⟨k, hk⟩ : ∃ k, m.kc = [k] := by
      cases hc : m.kc with
      | nil => rw [hc] at hkl; cases hkl
      | cons k t =>
        cases t with
        | nil => exact ⟨k, rfl⟩
        | cons _ _ => rw [hc] at hkl; simp at hkl
    have hT : McT K n s [] f m [] k w := ⟨h, by rw [hf]; rfl, by rw [hk]; rfl, h1⟩
    have hp0 := hs.pc0
    have hp1 := hs.pc1
    have ha : f.pc.toNat < (mthOf K.p f.of_).code.length := by omega
    have e : (mthOf K.p f.of_).code.getD f.pc.toNat noIns = (mthOf K.p f.of_).code[f.pc.toNat] := by simp [List.getD, List.getElem?_eq_getElem ha]
    rw [e] at hs
    have h9 := step_ok K E n s f m [] k w hT hn f.pc.toNat (by omega) ha (by omega) hs
    unfold stepM
    rw [if_pos h1, hf]
    simp only [List.getLast?_singleton, List.dropLast_singleton]
    rw [e]
    exact h9
  · unfold stepM
    rw [if_neg h1]
    refine (step_idle K n s m w h h1).mono ?_
    rintro e w' ⟨rfl, m', hS, hB, hf⟩
    exact ⟨rfl, m', hS.mono (by omega), hB, hf⟩

set_option maxRecDepth 100000 in
set_option maxHeartbeats 4000000 in
theorem vmRun_ok (p : Plan) (look : Bool) (s : St) (fuel : Nat) (cs : List Value) (pv : Value) (w : World) (h : Sl No w 2 (KprC No w) pv p.keepers) (hs : StC No w cs s) (hwf : ∀ o ∈ s.heap, (Lit.int .i64 o.of_.keeper).wf = true) (hwg : ∀ f ∈ s.frames, (Lit.int .i64 f.of_.of_.keeper).wf = true)
    (hfu : fuel ≤ 400) (hp : lodB p = true) (hst : stB p s = true) (hem : ∀ f ∈ s.frames, f.stack = []) (hfl : ∀ o ∈ s.heap, o.fields.length ≤ 1000) (hrun : RunOk p look s fuel) (hsm : SmS (runM p look fuel s)) :
    Calls Tryz.prog 12 #[.agg #[pv], .bool look, .agg cs.toArray, .int .i64 fuel] w (fun e w' => (∃ cs : List Value, e = .returned (.agg cs.toArray) ∧ StC (fun b => b < w.heap.size) w' cs (runM p look fuel s)) ∧ Fr No w w') := by
  obtain ⟨A, cap, rfl, _, _⟩ := h.form
  have hsO := hs.old
  obtain ⟨vf, vh, vo, rfl, hf, hh, ho⟩ := hs
  obtain ⟨Af, cf, rfl, _, _⟩ := hf.form
  obtain ⟨Ah, ch, rfl, _, _⟩ := hh.form
  obtain ⟨Ao, co, rfl, _, _⟩ := ho.form
  clear hf hh ho
  obtain ⟨wA, hwA⟩ : ∃ wA, wA = (((w.alloc (.cells #[.slice A p.keepers.length cap] 31)).alloc (.cells #[.int .i64 s.status, .slice Af s.frames.length cf, .slice Ah s.heap.length ch, .slice Ao s.outs.length co, .int .i64 s.back.kind, .int .i64 s.back.n] tVSt)).alloc (.cells #[.int .i64 0, .slice none 0 0, .slice none 0 0, .slice none 0 0, .int .i64 0, .int .i64 0] tVSt)) := ⟨_, rfl⟩
  have hfA : Fr No w wA := hwA ▸ frc
  have B0 : Bx wA w.heap.size 31 #[.slice A p.keepers.length cap] := hwA ▸ ((Bx.new _ _ _).alloc _).alloc _
  have B1 : Bx wA (w.heap.size + 1) tVSt #[.int .i64 s.status, .slice Af s.frames.length cf, .slice Ah s.heap.length ch, .slice Ao s.outs.length co, .int .i64 s.back.kind, .int .i64 s.back.n] := hwA ▸ (Bx.new_ (by simp)).alloc _
  have B2 : Bx wA (w.heap.size + 1 + 1) tVSt #[.int .i64 0, .slice none 0 0, .slice none 0 0, .slice none 0 0, .int .i64 0, .int .i64 0] := hwA ▸ Bx.new_ (by simp)
  have HN := newLodge_ok p _ wA (h.keep hfA (fun _ h => h.elim) (fun _ _ _ h => h.keep hfA (fun _ h => h.elim)))
  unfold NewPost at HN
  have q0 := B0.c1
  have l0 := B0.lt
  have l2 := B2.lt
  have hsA := hfA.size
  have hsO := hsO.keep hfA (fun _ h => h.elim)
  clear h
  rw [hp] at HN
  go_enter Tryz.func12, Tryz.ntmps12
  go_wp2_with fail
  rw [← hwA]
  replace hwA := Lib.hid hwA
  refine HN.mono ?_
  rintro e w1 ⟨hf1, ⟨hno, _⟩ | ⟨_, l, bl, rfl, hll, hbl, hLo⟩⟩
  · cases hno
  have hLg : Lg w1 l bl 0 p := ⟨_, hLo, fun _ _ _ h => by cases h⟩
  have hw1 : Fr No w w1 := hfA.trans0 hf1
  have hs1 := hf1.size
  have hsO1 := hsO.keep hf1 (fun _ h => h.elim)
  have HVm := vm_ok (fun b => w.heap.size ≤ b) l bl 0 p s _ w1 hLg hsO1 (by omega) hwf hwg (by omega)
  rw [hst] at HVm
  unfold LgPost at HVm
  obtain ⟨y0, y1, y2, y3, y4, y5⟩ := (B1.keep hf1).c6
  have yf := fun i => (B1.keep hf1).frozen i
  have yl := (B1.keep hf1).lt
  have hfu' : ¬ (400 : Int) < (fuel : Int) := by omega
  have hfuB : decide ((400 : Int) < (fuel : Int)) = false := decide_eq_false hfu'
  clear q0 l0 HN hLo hLg hsO
  have B1' := B1.keep hf1
  have B2' := B2.keep hf1
  have hl8 := B1'.lt
  have B2h := Lib.hid B2
  clear B0 B1 B2
  go_wp2_with (go_at_call 24; (refine HVm.mono ?_); (rintro e w2 ⟨rfl, hf2, hL2⟩); (have BB2 := B1'.keepX hf2 (by omega)); (obtain ⟨v0, v1, v2, v3, v4, v5⟩ := BB2.c6); (have vf := fun i => BB2.frozen i); (have vl := BB2.lt))
  have hS2 := hsO1.keep hf2 (fun b e => by omega)
  have hs2 := hf2.size
  have hM := newMachine_ok (fun b => w.heap.size ≤ b) l bl (0 + 40) p look s _ w2 hL2 hS2 (fun b h => by omega) hst hem hfl
  have B2w := B2'.keepX hf2 (by omega)
  have hf2A : Fr (fun b => wA.heap.size ≤ b) wA w2 := (hf1.of0 (X := fun b => wA.heap.size ≤ b)).trans hf2 (fun b _ e => by omega)
  clear y0 y1 y2 y3 y4 y5 yf yl v0 v1 v2 v3 v4 v5 vf vl BB2
  refine hM.mono ?_
  rintro e w3 ⟨rfl, ⟨m0, hM0⟩, hf3⟩
  have hE : McE ⟨w2, l, bl, p, look, w2.heap.size + 1⟩ := ⟨_, hL2⟩
  have hI0 : Hid ((∃ m, McS ⟨w2, l, bl, p, look, w2.heap.size + 1⟩ (40 + 3 * 0) (runM p look 0 s) m w3) ∧ Fr (fun b => wA.heap.size ≤ b) wA w3) := Lib.hid ⟨⟨m0, hM0⟩, hf2A.trans0 hf3⟩
  clear HVm hM hM0 hS2 hsO1 hf2A hwf hwg hfl
  go_wp2_with fail
  go_loopw [11] (fun i wr => ∃ j : Nat, j ≤ fuel ∧ i = .int .i64 j ∧ Hid ((∃ m, McS ⟨w2, l, bl, p, look, w2.heap.size + 1⟩ (40 + 3 * j) (runM p look j s) m wr) ∧ Fr (fun b => wA.heap.size ≤ b) wA wr)) (fun i _ => fuel - (intOf i).toNat)
  case atStart => exact ⟨0, Nat.zero_le _, rfl, hI0⟩
  case round =>
    clear hI0
    obtain ⟨j, hj, rfl, hI⟩ := hrel
    obtain ⟨⟨m, hM⟩, hfr⟩ := hI.out
    clear hI
    have hj1 := runM_one (p := p) (look := look) s j
    have hje : ∀ d, (runM p look j s).status ≠ 1 → runM p look (j + d) s = runM p look j s := fun d h => runM_end h d
    have hro : j < fuel → (runM p look j s).status = 1 → OneOk p (runM p look j s) := fun h => hrun j h
    have hnew : ∀ b ∈ mcB ⟨w2, l, bl, p, look, w2.heap.size + 1⟩ m, w2.heap.size ≤ b := hM.new
    have hend : j = fuel ∨ (runM p look j s).status ≠ 1 → runM p look j s = runM p look fuel s := fun h => by
      rcases h with h | h
      · rw [h]
      · rw [← hje (fuel - j) h]; congr 1; omega
    by_cases hgo : j < fuel ∧ (runM p look j s).status = 1
    · obtain ⟨hlt, h1⟩ := hgo
      rw [if_pos h1] at hj1
      have hstep := step_run _ hE _ _ m wr hM (by omega) (fun _ => hro hlt h1)
      have KM := hM.cells wr (Fr.refl _ _)
      rw [h1] at KM
      obtain ⟨_, _, z2, _, _, _, _, _, zf, zl⟩ := KM
      dsimp only at z2 zf zl hstep
      rw [← hj1] at hstep
      have hadd : IntKind.i64.wrap ((j : Int) + 1) = ((j + 1 : Nat) : Int) := by rw [IntWalk.i64_in _ (by omega)]; simp
      have hltB : decide ((j : Int) < (fuel : Int)) = true := decide_eq_true (by omega)
      have hlt' : (j : Int) < (fuel : Int) := by omega
      replace hM := Lib.hid hM
      replace hj1 := Lib.hid hj1
      replace h1 := Lib.hid h1
      clear hje hro hend hrun
      go_wp2_with (go_at_call 26; (refine hstep.mono ?_); (rintro e w5 ⟨rfl, m5, hM5, hB5, hf5⟩))
      exact ⟨⟨j + 1, by omega, by simp, Lib.hid ⟨⟨m5, hM5.mono (by omega)⟩, hfr.trans hf5 (fun b _ e => e.elim (fun e => by subst e; omega) (fun e => by have := hnew b e; omega))⟩⟩, by simp [intOf]; omega⟩
    · have he : runM p look j s = runM p look fuel s := hend (by omega)
      have hS := state_ok _ _ _ m wr hM (by rw [he]; exact hsm)
      have KM := hM.cells wr (Fr.refl _ _)
      obtain ⟨_, _, z2, _, _, _, _, _, zf, zl⟩ := KM
      dsimp only at z2 zf zl hS
      rw [he] at hS
      have hw : Fr No w wr := hfA.trans hfr (fun b hb e => by omega)
      have hno : j < fuel → (runM p look fuel s).status ≠ 1 := fun h h1 => hgo ⟨h, he ▸ h1⟩
      rw [he] at z2
      have hBr := B2h.out.keepX hfr (by omega)
      have hbr := hBr.lt
      clear hj1 hje hro hend hgo hM hrun hsm
      generalize ht : runM p look fuel s = t at *
      clear he
      by_cases hlt : j < fuel
      · have h1 := hno hlt
        have h1B : (t.status == 1) = false := by simp [h1]
        have hltB : decide ((j : Int) < (fuel : Int)) = true := decide_eq_true (by omega)
        have hlt' : (j : Int) < (fuel : Int) := by omega
        clear hno
        go_wp2_with (go_at_call 27; (refine hS.mono ?_); (rintro e w5 ⟨⟨cs5, rfl, vf5, vh5, vo5, rfl, hf5, hh5, ho5⟩, hfr5⟩); (obtain ⟨A1, c1, rfl, _, _⟩ := hf5.form); (obtain ⟨A2, c2, rfl, _, _⟩ := hh5.form); (obtain ⟨A3, c3, rfl, _, _⟩ := ho5.form); (have hB5 := hBr.keep hfr5); (obtain ⟨x0, x1, x2, x3, x4, x5⟩ := hB5.c6); (have xf := fun i => hB5.frozen i); (have xl := hB5.lt))
        obtain ⟨W7, hW7⟩ : ∃ W7, W7 = ((((((w5.setCell ⟨w.heap.size + 1 + 1, 0, none⟩ (.int .i64 t.status)).setCell ⟨w.heap.size + 1 + 1, 1, none⟩ (.slice A1 t.frames.length c1)).setCell ⟨w.heap.size + 1 + 1, 2, none⟩ (.slice A2 t.heap.length c2)).setCell ⟨w.heap.size + 1 + 1, 3, none⟩ (.slice A3 t.outs.length c3)).setCell ⟨w.heap.size + 1 + 1, 4, none⟩ (.int .i64 t.back.kind)).setCell ⟨w.heap.size + 1 + 1, 5, none⟩ (.int .i64 t.back.n)) := ⟨_, rfl⟩
        have B7 : Bx W7 (w.heap.size + 1 + 1) tVSt #[.int .i64 t.status, .slice A1 t.frames.length c1, .slice A2 t.heap.length c2, .slice A3 t.outs.length c3, .int .i64 t.back.kind, .int .i64 t.back.n] := hW7 ▸ hB5.fill6
        have hf7 : Fr (fun b => b = w.heap.size + 1 + 1) w5 W7 := hW7 ▸ (((((Fr.one _ _ _ _).same (Fr.one _ _ _ _)).same (Fr.one _ _ _ _)).same (Fr.one _ _ _ _)).same (Fr.one _ _ _ _)).same (Fr.one _ _ _ _)
        rw [← hW7]
        clear hW7
        obtain ⟨r0, r1, r2, r3, r4, r5⟩ := B7.c6
        have rl := B7.lt
        refine bodyPost_ret (v := .agg #[.int .i64 t.status, .slice A1 t.frames.length c1, .slice A2 t.heap.length c2, .slice A3 t.outs.length c3, .int .i64 t.back.kind, .int .i64 t.back.n]) (by simp [results, Tryz.results12, go_sem, *]) rfl ?_
        have hnx : ∀ b, b = w.heap.size + 1 + 1 → b < wr.heap.size := fun b e => by omega
        rw [ht]
        exact ⟨⟨[_, _, _, _, _, _], rfl, _, _, _, rfl, (hf5.keep hf7 hnx (fun _ _ _ h => h.keep hf7 hnx)).weaken (Y := fun b => b < w.heap.size) (fun b e => by omega) (fun _ _ _ h => h.weaken (fun b e => by omega)), (hh5.keep hf7 hnx (fun _ _ _ h => h.keep hf7 hnx)).weaken (Y := fun b => b < w.heap.size) (fun b e => by omega) (fun _ _ _ h => h.weaken (fun b e => by omega)), (ho5.keep hf7 hnx (fun _ _ _ h => h)).weaken (Y := fun b => b < w.heap.size) (fun b e => by omega) (fun _ _ _ h => h)⟩, (hw.trans0 hfr5).trans hf7 (fun b hb e => by omega)⟩
      · have hltB : decide ((j : Int) < (fuel : Int)) = false := decide_eq_false (by omega)
        have hlt' : ¬ (j : Int) < (fuel : Int) := by omega
        clear hno
        go_wp2_with (go_at_call 27; (refine hS.mono ?_); (rintro e w5 ⟨⟨cs5, rfl, vf5, vh5, vo5, rfl, hf5, hh5, ho5⟩, hfr5⟩); (obtain ⟨A1, c1, rfl, _, _⟩ := hf5.form); (obtain ⟨A2, c2, rfl, _, _⟩ := hh5.form); (obtain ⟨A3, c3, rfl, _, _⟩ := ho5.form); (have hB5 := hBr.keep hfr5); (obtain ⟨x0, x1, x2, x3, x4, x5⟩ := hB5.c6); (have xf := fun i => hB5.frozen i); (have xl := hB5.lt))
        obtain ⟨W7, hW7⟩ : ∃ W7, W7 = ((((((w5.setCell ⟨w.heap.size + 1 + 1, 0, none⟩ (.int .i64 t.status)).setCell ⟨w.heap.size + 1 + 1, 1, none⟩ (.slice A1 t.frames.length c1)).setCell ⟨w.heap.size + 1 + 1, 2, none⟩ (.slice A2 t.heap.length c2)).setCell ⟨w.heap.size + 1 + 1, 3, none⟩ (.slice A3 t.outs.length c3)).setCell ⟨w.heap.size + 1 + 1, 4, none⟩ (.int .i64 t.back.kind)).setCell ⟨w.heap.size + 1 + 1, 5, none⟩ (.int .i64 t.back.n)) := ⟨_, rfl⟩
        have B7 : Bx W7 (w.heap.size + 1 + 1) tVSt #[.int .i64 t.status, .slice A1 t.frames.length c1, .slice A2 t.heap.length c2, .slice A3 t.outs.length c3, .int .i64 t.back.kind, .int .i64 t.back.n] := hW7 ▸ hB5.fill6
        have hf7 : Fr (fun b => b = w.heap.size + 1 + 1) w5 W7 := hW7 ▸ (((((Fr.one _ _ _ _).same (Fr.one _ _ _ _)).same (Fr.one _ _ _ _)).same (Fr.one _ _ _ _)).same (Fr.one _ _ _ _)).same (Fr.one _ _ _ _)
        rw [← hW7]
        clear hW7
        obtain ⟨r0, r1, r2, r3, r4, r5⟩ := B7.c6
        have rl := B7.lt
        refine bodyPost_ret (v := .agg #[.int .i64 t.status, .slice A1 t.frames.length c1, .slice A2 t.heap.length c2, .slice A3 t.outs.length c3, .int .i64 t.back.kind, .int .i64 t.back.n]) (by simp [results, Tryz.results12, go_sem, *]) rfl ?_
        have hnx : ∀ b, b = w.heap.size + 1 + 1 → b < wr.heap.size := fun b e => by omega
        rw [ht]
        exact ⟨⟨[_, _, _, _, _, _], rfl, _, _, _, rfl, (hf5.keep hf7 hnx (fun _ _ _ h => h.keep hf7 hnx)).weaken (Y := fun b => b < w.heap.size) (fun b e => by omega) (fun _ _ _ h => h.weaken (fun b e => by omega)), (hh5.keep hf7 hnx (fun _ _ _ h => h.keep hf7 hnx)).weaken (Y := fun b => b < w.heap.size) (fun b e => by omega) (fun _ _ _ h => h.weaken (fun b e => by omega)), (ho5.keep hf7 hnx (fun _ _ _ h => h)).weaken (Y := fun b => b < w.heap.size) (fun b e => by omega) (fun _ _ _ h => h)⟩, (hw.trans0 hfr5).trans hf7 (fun b hb e => by omega)⟩
end Go.Proofs.YtbalicnnlfennaaGreat

/- The program's own machine: how a run is begun. -/
namespace Go.Proofs.YtbalicnnlfennaaGreat
open Go.RowKit

set_option maxRecDepth 100000 in
set_option maxHeartbeats 4000000 in
theorem startable_ok (X : Nat → Prop) (mn : Str) (a0 : Value) (margs : List Knd) (m2 m4 m5 : Int) (m3 : Str) (m6 m7 : Value) (va : Value) (args : List Int) (w : World) (h : Sl X w 2 KndC a0 margs) (hv : Sl X w 1 OutC va args) (hl : margs.length = args.length) (hk : ∀ t ∈ margs, t.kind = 1) (hl3 : margs.length ≤ 100) :
    Calls Tryz.prog 35 #[.agg #[.string mn, a0, .int .i64 m2, .string m3, .int .i64 m4, .int .i64 m5, m6, m7], va] w (Gives (.bool true) w) := by
  obtain ⟨A, c, rfl, _, _⟩ := h.form
  obtain ⟨A2, c2, rfl, _, _⟩ := hv.form
  rw [hl] at h
  rw [hl]
  have hl3 : args.length ≤ 100 := by omega
  obtain ⟨wA, hwA⟩ : ∃ wA, wA = (w.alloc (.cells #[.string mn, .slice A args.length c, .int .i64 m2, .string m3, .int .i64 m4, .int .i64 m5, m6, m7] 67)) := ⟨_, rfl⟩
  have hfA : Fr No w wA := hwA ▸ frc
  have hA := h.keep (R' := KndC) hfA (fun _ h => h.elim) (fun _ _ _ h => h)
  clear h hv
  have hI0 : Hid (Fr No wA wA) := Fr.refl _ _
  go_enter Tryz.func35, Tryz.ntmps35
  go_wp2_with fail
  rw [← hwA]
  replace hwA := Lib.hid hwA
  go_loopw [16] (fun i wr => ∃ j : Nat, j ≤ args.length ∧ i = .int .i64 j ∧ Hid (Fr No wA wr)) (fun i _ => args.length - (intOf i).toNat)
  case atStart => exact ⟨0, Nat.zero_le _, rfl, hI0⟩
  case round =>
    clear hI0
    obtain ⟨j, hj, rfl, hI⟩ := hrel
    have hfr := hI.out
    clear hI
    by_cases hlt : j < args.length
    · obtain ⟨b, off, rfl, _, k0, k1, _⟩ := (hA.keep (R' := KndC) hfr (fun _ h => h.elim) (fun _ _ _ h => h)).knd (k := j) (by omega)
      have hkj := hk _ (List.getElem_mem (show j < margs.length by omega))
      rw [hkj] at k0
      have hadd : IntKind.i64.wrap ((j : Int) + 1) = ((j + 1 : Nat) : Int) := by rw [IntWalk.i64_in _ (by omega)]; simp
      clear hk hkj
      generalize margs[j] = t at *
      clear hA hl
      go_wp2_with fail
      exact ⟨⟨j + 1, by omega, by simp, Lib.hid frc⟩, by simp [intOf]; omega⟩
    · clear hl
      obtain rfl : j = args.length := by omega
      go_wp2_with fail
      refine bodyPost_ret (results_tmp rfl _ _ _) rfl ?_
      exact ⟨rfl, hfA.trans0 hfr⟩

/-- A machine that has nothing yet. -/
theorem mcs_zero {w w1 : World} {l bl n : Nat} {p : Plan} {look : Bool} {mb : Nat} (hlg : Lg w l bl n p) (hmb : w.heap.size ≤ mb) (hf1 : Fr No w w1)
    (hb : Bx w1 mb tMach #[.pointer (some ⟨l, 0, none⟩), .bool look, .int .i64 1, .slice none 0 0, .slice none 0 0, .slice none 0 0, .int .i64 0, .int .i64 0]) :
    McS ⟨w, l, bl, p, look, mb⟩ n ⟨1, [], [], [], noVal⟩ ⟨.slice none 0 0, .slice none 0 0, .slice none 0 0, [], []⟩ w1 := by
  have hmc : mcB ⟨w, l, bl, p, look, mb⟩ ⟨.slice none 0 0, .slice none 0 0, .slice none 0 0, [], []⟩ = [mb] := by
    unfold mcB
    simp [rowB, rowBlk_nil]
  refine ⟨hf1.of0, hlg.keep hf1, hb, RowV.nil _ _ _, trivial, RowV.nil _ _ _, trivial, RowV.nil _ _ _, ?_, ?_⟩
  · rw [hmc]; simp
  · rw [hmc]; intro b hb; rw [List.mem_singleton] at hb; subst hb; exact hmb
end Go.Proofs.YtbalicnnlfennaaGreat
