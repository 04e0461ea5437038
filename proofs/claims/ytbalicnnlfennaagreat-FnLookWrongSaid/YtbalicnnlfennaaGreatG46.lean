/- What the laws of the machine share. -/
import Derived.Test.YtbalicnnlfennaaGreatG45
namespace Go.Proofs.YtbalicnnlfennaaGreat
open Go.RowKit

def ByC (cs : List Value) (n : Int) : Prop := cs = [.int .u8 n] ∧ 0 ≤ n ∧ n < 256
def NumPost (w : World) (e : Ending) (w' : World) : Prop := ∃ x : Int, e = .returned (.int .i64 x) ∧ Fr No w w' ∧ -9999 ≤ x ∧ x ≤ 9999
theorem Sl.by {X : Nat → Prop} {w : World} {A : Option Addr} {n cap : Nat} {xs : List Int} (h : Sl X w 1 ByC (.slice A n cap) xs) {k : Nat} (hk : k < xs.length) :
    ∃ b off, A = some ⟨b, off, none⟩ ∧ ¬ X b ∧ w.cell? ⟨b, off + k, none⟩ = some (.int .u8 xs[k]) ∧ 0 ≤ xs[k] ∧ xs[k] < 256 := by
  obtain ⟨b, off, cs, hA, hX, ⟨rfl, h1, h2⟩, hc⟩ := h.cells hk
  refine ⟨b, off, hA, hX, ?_, h1, h2⟩
  have := hc 0 _ (by decide) rfl
  simpa using this

set_option maxRecDepth 100000 in
set_option maxHeartbeats 4000000 in
theorem loNum_ok (v : Value) (bs : List Int) (t : Int) (w : World) (h : Sl No w 1 ByC v bs) (ht : t = 1 ∨ t = 2) :
    Calls Tryz.prog 14 #[v, .int .i64 t] w (NumPost w) := by
  obtain ⟨A, c, rfl, hc1, hc2⟩ := h.form
  unfold maxLen at hc2
  by_cases h0 : bs.length = 0
  · have h0i : (bs.length : Int) = 0 := by omega
    clear hc1 hc2
    go_enter Tryz.func14, Tryz.ntmps14
    go_wp2_with fail
    refine bodyPost_ret (results_tmp rfl _ _ _) rfl ?_
    exact ⟨t, rfl, frc, by omega, by omega⟩
  · have h0i : ¬ (bs.length : Int) = 0 := by omega
    obtain ⟨i, hi, hil⟩ : ∃ i : Nat, Int.tmod t bs.length = i ∧ i < bs.length := ⟨(Int.tmod t bs.length).toNat, by have := Int.tmod_nonneg (bs.length : Int) (show 0 ≤ t by omega); omega, by have := Int.tmod_lt_of_pos t (show (0 : Int) < bs.length by omega); have := Int.tmod_nonneg (bs.length : Int) (show 0 ≤ t by omega); omega⟩
    obtain ⟨k, hk, hkl⟩ : ∃ k : Nat, Int.tmod (t * 7 + 1) bs.length = k ∧ k < bs.length := ⟨(Int.tmod (t * 7 + 1) bs.length).toNat, by have := Int.tmod_nonneg (bs.length : Int) (show 0 ≤ t * 7 + 1 by omega); omega, by have := Int.tmod_lt_of_pos (t * 7 + 1) (show (0 : Int) < bs.length by omega); have := Int.tmod_nonneg (bs.length : Int) (show 0 ≤ t * 7 + 1 by omega); omega⟩
    obtain ⟨b, off, rfl, _, o1, p1, p2⟩ := h.by hil
    obtain ⟨b', off', hb', _, o2, p3, p4⟩ := h.by hkl
    cases hb'
    generalize bs[i] = x at *
    generalize bs[k] = y at *
    clear h
    have e7 : IntKind.i64.wrap (t * 7) = t * 7 := IntWalk.i64_in _ (by omega)
    have e8 : IntKind.i64.wrap (t * 7 + 1) = t * 7 + 1 := IntWalk.i64_in _ (by omega)
    have ex : IntKind.i64.wrap x = x := IntWalk.i64_in _ (by omega)
    have ey : IntKind.i64.wrap y = y := IntWalk.i64_in _ (by omega)
    have e9 : IntKind.i64.wrap (x * 40) = x * 40 := IntWalk.i64_in _ (by omega)
    have e10 : IntKind.i64.wrap (x * 40 + y) = x * 40 + y := IntWalk.i64_in _ (by omega)
    go_enter Tryz.func14, Tryz.ntmps14
    go_wp2_with fail
    refine bodyPost_ret (results_tmp rfl _ _ _) rfl ?_
    exact ⟨_, rfl, frc, by omega, by omega⟩

set_option maxRecDepth 100000 in
set_option maxHeartbeats 2000000 in
theorem loKind_ok (w : World) : Calls Tryz.prog 18 #[] w (Gives (.agg #[.int .i64 1, .string ⟨#[]⟩]) w) := by
  go_enter Tryz.func18, Tryz.ntmps18
  go_wp2
  refine bodyPost_ret (v := .agg #[.int .i64 1, .string ⟨#[]⟩]) (by simp [results, Tryz.results18, go_sem]) rfl ?_
  exact ⟨rfl, frc⟩

/-- It is done, and has handed back this number. -/
def givesB (s : St) (n : Int) : Bool := decide (s.status = 2) && (decide (s.back.kind = 1) && decide (s.back.n = n))
set_option maxRecDepth 100000 in
set_option maxHeartbeats 2000000 in
theorem loGives_ok (X : Nat → Prop) (s : St) (n : Int) (cs : List Value) (w : World) (h : StC X w cs s) (hg : givesB s n = true) : Calls Tryz.prog 13 #[.agg cs.toArray, .int .i64 n] w (Gives (.bool true) w) := by
  obtain ⟨vf, vh, vo, rfl, hf, hh, ho⟩ := h
  obtain ⟨Af, cf, rfl, _, _⟩ := hf.form
  obtain ⟨Ah, ch, rfl, _, _⟩ := hh.form
  obtain ⟨Ao, co, rfl, _, _⟩ := ho.form
  unfold givesB at hg
  simp only [Bool.and_eq_true, decide_eq_true_eq] at hg
  obtain ⟨g1, g2, g3⟩ := hg
  rw [g1, g2, g3]
  clear hf hh ho g1 g2 g3
  go_enter Tryz.func13, Tryz.ntmps13
  go_wp2
  refine bodyPost_ret (results_tmp rfl _ _ _) rfl ?_
  exact ⟨rfl, frc⟩

def sMain : Str := ⟨#[109, 97, 105, 110]⟩
def sRun : Str := ⟨#[114, 117, 110]⟩
/-- What is known of a plan whose method run of the class main is begun with n: T is the run at its beginning. -/
structure DoOk (p : Plan) (n : Int) (T : St) : Prop where
  lod : lodB p = true
  has : hasK p 0 = true
  num : numB n = true
  cls : ∃ r, classM p 0 sMain = some r ∧ (layB p r).length ≤ 1000 ∧ T = enterM p true ⟨1, [], [⟨r, newVals p r⟩], [], noVal⟩ [] ⟨(callB p 0 sMain sRun).1.1, (callB p 0 sMain sRun).1.2⟩ [⟨2, 0⟩, ⟨1, n⟩]
  call : (callB p 0 sMain sRun).2 = 1
  start : startB (mthAt p (callB p 0 sMain sRun).1) [n] = true
  small : SmS T
  ops : OkOps (mthAt p (callB p 0 sMain sRun).1).code
theorem SmS.flds {s : St} (h : SmS s) : ∀ o ∈ s.heap, o.fields.length ≤ 1000 := h.2.1
/-- What is known of a run that goes on. -/
structure GoOk (p : Plan) (T : St) : Prop where
  lod : lodB p = true
  ok : stB p T = true
  wfh : ∀ o ∈ T.heap, (Lit.int .i64 o.of_.keeper).wf = true
  wff : ∀ f ∈ T.frames, (Lit.int .i64 f.of_.of_.keeper).wf = true
  stk : ∀ f ∈ T.frames, f.stack = []
  small : SmS T
  run : RunOk p true T 400
  smallR : SmS (runM p true 400 T)
def newP (T : St) : Value → World → Prop := fun v W => ∃ cs : List Value, v = .agg cs.toArray ∧ StC No W cs T
theorem newP_mono (T : St) : MonP (newP T) := fun _ _ _ ⟨cs, h1, h2⟩ hf => ⟨cs, h1, h2.keep hf (fun _ h => h)⟩
def StPost (T : St) (w : World) (e : Ending) (w' : World) : Prop := (∃ cs : List Value, e = .returned (.agg cs.toArray) ∧ StC (fun b => b < w.heap.size) w' cs T) ∧ Fr No w w'
theorem OutC.one {w : World} {b : Nat} {n : Int} (h : Bx w b 3 #[.int .i64 n]) : Sl No w 1 OutC (.slice (some ⟨b, 0, none⟩) 1 1) [n] :=
  ⟨_, _, rfl, Nat.le_refl _, by unfold maxLen; simp, fun _ => ⟨b, 0, rfl, fun h => h, fun k hk => by
    obtain rfl : k = 0 := by simp at hk; omega
    refine ⟨[.int .i64 n], rfl, rfl, fun j hj => ?_⟩
    obtain rfl : j = 0 := by omega
    exact h.cell 0⟩⟩

theorem vmNew_do {p : Plan} {n : Int} {T : St} (h : DoOk p n T) (va pv : Value) (w : World) (hp : Sl No w 2 (KprC No w) pv p.keepers) (hv : Sl No w 1 OutC va [n]) :
    Calls Tryz.prog 11 #[.agg #[pv], .bool true, .int .i64 0, .string sMain, .string sRun, va] w (StPost T w) := by
  obtain ⟨r, c1, c2, c3⟩ := h.cls
  exact (vmNew_ok p true 0 sMain sRun [n] va pv w hp (by decide) (by decide) hv (by simp) h.lod h.has (by decide) (by decide) (by simp [h.num]) r c1 h.call h.start (by simp) c2 h.ops T c3 h.small)
theorem vmRun_go {p : Plan} {T : St} (h : GoOk p T) (cs : List Value) (pv : Value) (w : World) (hp : Sl No w 2 (KprC No w) pv p.keepers) (hs : StC No w cs T) :
    Calls Tryz.prog 12 #[.agg #[pv], .bool true, .agg cs.toArray, .int .i64 400] w (StPost (runM p true 400 T) w) := by
  exact (vmRun_ok p true T 400 cs pv w hp hs h.wfh h.wff (by decide) h.lod h.ok h.stk h.small.flds h.run h.smallR)

set_option maxRecDepth 100000 in
set_option maxHeartbeats 4000000 in
theorem loDo_ok {p : Plan} {n : Int} {T : St} (h : DoOk p n T) (hg : GoOk p T) (pv : Value) (w : World) (hp : Sl No w 2 (KprC No w) pv p.keepers) :
    Calls Tryz.prog 15 #[.agg #[pv], .int .i64 n] w (StPost (runM p true 400 T) w) := by
  obtain ⟨A, cap, rfl, _, _⟩ := hp.form
  obtain ⟨wA, hwA⟩ : ∃ wA, wA = ((w.alloc (.cells #[.slice A p.keepers.length cap] 31)).alloc (.cells #[.int .i64 0, .slice none 0 0, .slice none 0 0, .slice none 0 0, .int .i64 0, .int .i64 0] tVSt)) := ⟨_, rfl⟩
  have hfA : Fr No w wA := hwA ▸ frc
  have B0 : Bx wA w.heap.size 31 #[.slice A p.keepers.length cap] := hwA ▸ (Bx.new _ _ _).alloc _
  have B2 : Bx wA (w.heap.size + 1) tVSt #[.int .i64 0, .slice none 0 0, .slice none 0 0, .slice none 0 0, .int .i64 0, .int .i64 0] := hwA ▸ Bx.new_ (by simp)
  have hpk := fun W (hW : Fr No wA W) => hp.keep (hfA.trans0 hW) (fun _ h => h) (fun _ _ _ h => h.keep (hfA.trans0 hW) (fun _ h => h))
  have KB := B0.r1
  have HN := fun W (hW : Fr No wA W) b (hb : Bx W b 3 #[.int .i64 n]) => vmNew_do h (.slice (some ⟨b, 0, none⟩) 1 1) (.slice A p.keepers.length cap) W (hpk W hW) (OutC.one hb)
  have HR := fun W (hW : Fr No wA W) cs (hc : StC No W cs T) => vmRun_go hg cs (.slice A p.keepers.length cap) W (hpk W hW) hc
  have hsA := hfA.size
  have l2 := B2.lt
  generalize runM p true 400 T = R at *
  clear hp hpk h hg
  go_enter Tryz.func15, Tryz.ntmps15
  go_wp2_with fail
  rw [← hwA]
  replace hwA := Lib.hid hwA
  refine wp_region_monR 5 10 [mV (.agg #[.slice A p.keepers.length cap]), mV (.agg #[.slice A p.keepers.length cap]), mV (.int .i64 n), mS 3 (#[.int .i64 n]) 1 wA.heap.size, mC (newP T) (newP_mono T)] (by kernel_rfl) (by kernel_rfl) (by simp) ?_ ?_
  · refine hopC ?_ <| hopC ?_ <| hopC ?_ <| hopC ?_ <| hopC ?_ <| hopZ
    all_goals (intro a' W hW hoff hdep; have hbs := hW.size; have H2 := hoff 2 rfl; have H1 := hoff 1 rfl; refine nE rfl ?_)
    · clear hoff hdep; simp [execOp, Act.eval, go_sem, givesUpon, *]; exact fr1 rfl
    · clear hoff hdep; simp [execOp, Act.eval, go_sem, givesUpon, *]; exact fr1 rfl
    · simp [execOp, Act.eval, H1, go_sem, givesUpon]; exact fr1 rfl
    · have D7 : _ = _ := hdep 2 7 rfl; simp at D7; simp [execOp, Act.eval, D7, go_sem, givesUpon]; exact ⟨(Fr.refl _ _).alloc _, ⟨_, rfl, Bx.new_ rfl, hbs⟩, Nat.le_refl _⟩
    · have D6 : _ = _ := hdep 1 6 rfl; obtain ⟨b, D8, hb, hl⟩ : (slB 3 #[.int .i64 n] 1 wA.heap.size) _ W := hdep 3 8 rfl; simp [Act.eval, D6, D8, go_sem, givesUpon]; exact (HN _ hW _ hb).mono (by rintro e w9 ⟨⟨cs, rfl, h3⟩, h4⟩; exact ⟨_, rfl, h4, cs, rfl, h3.weaken (fun _ h => h.elim)⟩)
  intro vs WR hWR hv hne
  obtain ⟨b3, e3, hb3, hl3⟩ := hv 3 (by omega)
  obtain ⟨csR4, e4, htR4⟩ := hv 4 (by omega)
  simp only [List.drop_succ_cons, List.drop_zero, putsR_C, putsR_S, putsR_V, putsR_0, Nat.zero_add, Nat.reduceAdd, e3, e4]
  simp only [Act.put, List.setIfInBounds_toArray, List.set_cons_zero, List.set_cons_succ]
  clear e3 e4 hv
  have HR4 := HR WR hWR csR4 htR4
  have hwR := hWR.size
  have hBR := B2.keep hWR
  have hwR0 : Fr No w WR := hfA.trans0 hWR
  clear hne HR HN htR4 hb3
  go_wp2_with fail
  refine HR4.mono ?_
  rintro e w5 ⟨⟨cs5, rfl, vf5, vh5, vo5, rfl, hf5, hh5, ho5⟩, hfr5⟩
  obtain ⟨A1, c1, rfl, _, _⟩ := hf5.form
  obtain ⟨A2, c2, rfl, _, _⟩ := hh5.form
  obtain ⟨A3, c3, rfl, _, _⟩ := ho5.form
  have hB5 := hBR.keep hfr5
  obtain ⟨x0, x1, x2, x3, x4, x5⟩ := hB5.c6
  have xf := fun i => hB5.frozen i
  have xl := hB5.lt
  go_wp2_with fail
  obtain ⟨W7, hW7⟩ : ∃ W7, W7 = ((((((w5.setCell ⟨w.heap.size + 1, 0, none⟩ (.int .i64 R.status)).setCell ⟨w.heap.size + 1, 1, none⟩ (.slice A1 R.frames.length c1)).setCell ⟨w.heap.size + 1, 2, none⟩ (.slice A2 R.heap.length c2)).setCell ⟨w.heap.size + 1, 3, none⟩ (.slice A3 R.outs.length c3)).setCell ⟨w.heap.size + 1, 4, none⟩ (.int .i64 R.back.kind)).setCell ⟨w.heap.size + 1, 5, none⟩ (.int .i64 R.back.n)) := ⟨_, rfl⟩
  have B7 : Bx W7 (w.heap.size + 1) tVSt #[.int .i64 R.status, .slice A1 R.frames.length c1, .slice A2 R.heap.length c2, .slice A3 R.outs.length c3, .int .i64 R.back.kind, .int .i64 R.back.n] := hW7 ▸ hB5.fill6
  have hf7 : Fr (fun b => b = w.heap.size + 1) w5 W7 := hW7 ▸ (((((Fr.one _ _ _ _).same (Fr.one _ _ _ _)).same (Fr.one _ _ _ _)).same (Fr.one _ _ _ _)).same (Fr.one _ _ _ _)).same (Fr.one _ _ _ _)
  rw [← hW7]
  clear hW7
  obtain ⟨r0, r1, r2, r3, r4, r5⟩ := B7.c6
  have rl := B7.lt
  refine bodyPost_ret (v := .agg #[.int .i64 R.status, .slice A1 R.frames.length c1, .slice A2 R.heap.length c2, .slice A3 R.outs.length c3, .int .i64 R.back.kind, .int .i64 R.back.n]) (by simp [results, Tryz.results15, go_sem, r0, r1, r2, r3, r4, r5]) rfl ?_
  have hnx : ∀ b, b = w.heap.size + 1 → b < WR.heap.size := fun b e => by omega
  exact ⟨⟨[_, _, _, _, _, _], rfl, _, _, _, rfl, (hf5.keep hf7 hnx (fun _ _ _ h => h.keep hf7 hnx)).weaken (Y := fun b => b < w.heap.size) (fun b e => by omega) (fun _ _ _ h => h.weaken (fun b e => by omega)), (hh5.keep hf7 hnx (fun _ _ _ h => h.keep hf7 hnx)).weaken (Y := fun b => b < w.heap.size) (fun b e => by omega) (fun _ _ _ h => h.weaken (fun b e => by omega)), (ho5.keep hf7 hnx (fun _ _ _ h => h)).weaken (Y := fun b => b < w.heap.size) (fun b e => by omega) (fun _ _ _ h => h)⟩, (hwR0.trans0 hfr5).trans hf7 (fun b hb e => by omega)⟩
end Go.Proofs.YtbalicnnlfennaaGreat

/- The plan of the laws of the machine: loMain. -/
namespace Go.Proofs.YtbalicnnlfennaaGreat
open Go.RowKit

def mainMth (code : List Ins) (maps : List Mp) : Mth := ⟨sRun, [⟨1, noS⟩], ⟨1, noS⟩, 3, 3, code, maps⟩
def mainCls (code : List Ins) (maps : List Mp) : Cls := ⟨sMain, noS, [], [mainMth code maps]⟩
def mainP (more : List Cls) (code : List Ins) (maps : List Mp) : Plan := ⟨[⟨more ++ [mainCls code maps], []⟩]⟩
def apP : Value → World → Prop := fun v _ => ∃ b, v = .slice (some ⟨b, 0, none⟩) 0 0
theorem apP_mono : MonP apP := fun _ _ _ h _ => h
theorem info_clsc : (Tryz.prog.info? 62).map (fun i => (i.zero, i.size, i.bytes)) = some (some (.agg #[.string ⟨#[]⟩, .string ⟨#[]⟩, .slice none 0 0, .slice none 0 0]), 4, 80) := by kernel_rfl
theorem Sl.oneBx {α : Type} {w : World} {b : Nat} {t : TypeId} {cs : List Value} {sz : Nat} {R : List Value → α → Prop} {x : α} (h : Bx w b t cs.toArray) (hl : cs.length = sz) (hR : R cs x) : Sl No w sz R (.slice (some ⟨b, 0, none⟩) 1 1) [x] :=
  ⟨_, _, rfl, Nat.le_refl _, by unfold maxLen; simp, fun _ => ⟨b, 0, rfl, fun h => h, fun k hk => by
    obtain rfl : k = 0 := by simp at hk; omega
    refine ⟨cs, hR, hl, fun j hj => ?_⟩
    have := h.cell j
    simp only [Nat.zero_mul, Nat.zero_add]
    rw [this]
    simp⟩⟩
theorem Sl.oneRow {α : Type} {w : World} {e : TypeId} {sz : Nat} {v : Value} {cs : List Value} {R : List Value → α → Prop} {x : α} (h : RowV w e sz v 1 cs) (hl : cs.length = sz) (hR : R cs x) : Sl No w sz R v [x] :=
  RowV.slW (C := fun _ : Unit => cs) (ks := [()]) (xs := [x]) (fun _ => hl) (by simpa using h) rfl (fun i h1 h2 => by
    obtain rfl : i = 0 := by simp at h2; omega
    exact hR) (fun _ _ h => h)
theorem slNil {α : Type} {X : Nat → Prop} {w : World} {sz : Nat} {R : List Value → α → Prop} : Sl X w sz R (.slice none 0 0) [] := ⟨none, 0, rfl, Nat.le_refl _, by unfold maxLen; simp, fun h => absurd h (by simp)⟩
def PlanPost (p : Plan) (w : World) (e : Ending) (w' : World) : Prop := (∃ pv, e = .returned (.agg #[pv]) ∧ Sl No w' 2 (KprC No w') pv p.keepers) ∧ Fr No w w'

set_option maxRecDepth 100000 in
set_option maxHeartbeats 4000000 in
theorem loMain0_ok (code : List Ins) (maps : List Mp) (vc vm : Value) (w : World) (hc : Sl No w 4 InsC vc code) (hm : Sl No w 3 (MapC No w) vm maps) :
    Calls Tryz.prog 10 #[.slice none 0 0, vc, vm] w (PlanPost (mainP [] code maps) w) := by
  obtain ⟨Ac, cc, rfl, _, _⟩ := hc.form
  obtain ⟨Am, cm, rfl, _, _⟩ := hm.form
  obtain ⟨wA, hwA⟩ : ∃ wA, wA = w.alloc (.cells #[.slice none 0 0] 31) := ⟨_, rfl⟩
  have hfA : Fr No w wA := hwA ▸ frc
  have BA : Bx wA w.heap.size 31 #[.slice none 0 0] := hwA ▸ bxc
  go_enter Tryz.func10, Tryz.ntmps10
  go_wp2_with fail
  rw [← hwA]
  replace hwA := Lib.hid hwA
  refine (loKind_ok _).mono ?_
  rintro e w1 ⟨rfl, hf1⟩
  go_wp2_with fail
  refine (loKind_ok _).mono ?_
  rintro e w2 ⟨rfl, hf2⟩
  simp only []
  go_at_K
  iterate 13 go_step
  have hs1 := hf1.size
  have hs2 := hf2.size
  have BK2 := (bxc : Bx (w1.alloc (.cells #[.int .i64 1, .string ⟨#[]⟩] 55)) w1.heap.size 55 #[.int .i64 1, .string ⟨#[]⟩]).keep hf2
  have BMz := (bxc : Bx (w2.alloc (.cells #[.string ⟨#[]⟩, .slice none 0 0, .int .i64 0, .string ⟨#[]⟩, .int .i64 0, .int .i64 0, .slice none 0 0, .slice none 0 0] 67)) w2.heap.size 67 #[.string ⟨#[]⟩, .slice none 0 0, .int .i64 0, .string ⟨#[]⟩, .int .i64 0, .int .i64 0, .slice none 0 0, .slice none 0 0])
  refine wpList_store_all rfl 67 (.tmp 7) (.tmp 14) rfl 8 (by kernel_rfl) w2.heap.size 67 _ [.string sRun, .slice (some ⟨w1.heap.size, 0, none⟩) 1 1, .int .i64 1, .string ⟨#[]⟩, .int .i64 3, .int .i64 3, .slice Ac code.length cc, .slice Am maps.length cm] rfl rfl BMz rfl rfl (by simp [Value.oneCell']) ?_
  intro w3 B3 hf3
  simp only [Act.put]
  have hf12 : Fr No w1 w2 := Fr.trans0 ((Fr.refl No w1).alloc _) hf2
  have hf23 : Fr No w2 w3 := ((Fr.refl No w2).alloc _).trans hf3 (fun b hb e => by omega)
  have hl2 := BK2.lt
  have hl3 := B3.lt
  have BK3 := (BK2.keep hf23)
  have hfw1 : Fr No w w1 := hfA.trans0 hf1
  have hwA1 : Hid (w.heap.size < w1.heap.size) := Lib.hid (by have := BA.lt; omega)
  have hs3 := hf23.size
  obtain ⟨y0, y1, y2, y3, y4, y5, y6, y7⟩ := Bx.c8 B3
  obtain ⟨w4, hw4⟩ : ∃ w4, w4 = ((w3.alloc (.cells #[.string sRun, .slice (some ⟨w1.heap.size, 0, none⟩) 1 1, .int .i64 1, .string ⟨#[]⟩, .int .i64 3, .int .i64 3, .slice Ac code.length cc, .slice Am maps.length cm] 67)).alloc (.cells #[.string ⟨#[109, 97, 105, 110]⟩, .string ⟨#[]⟩, .slice none 0 0, .slice (some ⟨w3.heap.size, 0, none⟩) 1 1] 62)) := ⟨_, rfl⟩
  have hf34 : Fr No w3 w4 := hw4 ▸ frc
  have BM4 : Bx w4 w3.heap.size 67 #[.string sRun, .slice (some ⟨w1.heap.size, 0, none⟩) 1 1, .int .i64 1, .string ⟨#[]⟩, .int .i64 3, .int .i64 3, .slice Ac code.length cc, .slice Am maps.length cm] := hw4 ▸ (Bx.new _ _ _).alloc _
  have BC4 : Bx w4 (w3.heap.size + 1) 62 #[.string ⟨#[109, 97, 105, 110]⟩, .string ⟨#[]⟩, .slice none 0 0, .slice (some ⟨w3.heap.size, 0, none⟩) 1 1] := hw4 ▸ Bx.new_ (by simp)
  have hfw4 : Fr No w w4 := ((hfw1.trans0 hf12).trans0 hf23).trans0 hf34
  have BK4 := BK3.keep hf34
  have BA4 := (((BA.keep hf1).keep hf12).keep hf23).keep hf34
  clear BK2 BMz B3 BK3 BA hfA hf1 hf2 hf3
  obtain ⟨j0, hj0, hk0, hk1, hk2⟩ := info_parts info_clsc
  have hrun := fun (ty : TypeId) (w : World) (b : Addr) => run_append_none (P := Tryz.prog) w 63 ty 62 j0 Tryz.underlying63 hj0 (some b) none 0
  go_wp2_with fail
  rw [← hw4]
  replace hw4 := Lib.hid hw4
  clear y0 y1 y2 y3 y4 y5 y6 y7
  have KC4 := BC4.r4
  replace hj0 := Lib.hid hj0
  replace hk0 := Lib.hid hk0
  replace hk1 := Lib.hid hk1
  replace hk2 := Lib.hid hk2
  refine wp_region_monR 5 23 [mS 62 (#[]) 0 w4.heap.size, mV (.slice none 0 0), mC (apP) (apP_mono), mV (.agg #[.string ⟨#[109, 97, 105, 110]⟩, .string ⟨#[]⟩, .slice none 0 0, .slice (some ⟨w3.heap.size, 0, none⟩) 1 1]), mS 62 (#[.string ⟨#[109, 97, 105, 110]⟩, .string ⟨#[]⟩, .slice none 0 0, .slice (some ⟨w3.heap.size, 0, none⟩) 1 1]) 1 w4.heap.size] (by kernel_rfl) (by kernel_rfl) (by simp) ?_ ?_
  · refine hopC ?_ <| hopC ?_ <| hopC ?_ <| hopC ?_ <| hopC ?_ <| hopZ
    all_goals (intro a' W hW hoff hdep; have hbs := hW.size; have H0 := hoff 0 rfl; have H8 := hoff 8 rfl; refine nE rfl ?_)
    · simp [execOp, go_sem, givesUpon]; exact ⟨(Fr.refl _ _).alloc _, ⟨_, rfl, Bx.new_ rfl, hbs⟩, Nat.le_refl _⟩
    · simp [execOp, Act.eval, H0, go_sem, givesUpon]; exact fr1 rfl
    · obtain ⟨b, D18, hb, hl⟩ : (slB 62 #[] 0 w4.heap.size) _ W := hdep 0 18 rfl; have D19 : _ = _ := hdep 1 19 rfl; simp [Act.eval, D18, D19, go_sem, givesUpon]; exact ⟨Fr.refl _ _, _, rfl⟩
    · clear hoff hdep; simp [execOp, Act.eval, go_sem, givesUpon, *]; exact fr1 rfl
    · have D21 : _ = _ := hdep 3 21 rfl; simp at D21; simp [execOp, Act.eval, D21, go_sem, givesUpon]; exact ⟨(Fr.refl _ _).alloc _, ⟨_, rfl, Bx.new_ rfl, hbs⟩, Nat.le_refl _⟩
  intro vs WR hWR hv hne
  obtain ⟨b0, e0, hb0, hl0⟩ := hv 0 (by omega)
  obtain ⟨A0R2, e2⟩ := hv 2 (by omega)
  obtain ⟨b4, e4, hb4, hl4⟩ := hv 4 (by omega)
  simp only [List.drop_succ_cons, List.drop_zero, putsR_C, putsR_S, putsR_V, putsR_0, Nat.zero_add, Nat.reduceAdd, e0, e2, e4]
  simp only [Act.put, List.setIfInBounds_toArray, List.set_cons_zero, List.set_cons_succ]
  clear e0 e2 e4 hv
  clear hrun hne hb0 KC4
  have hnews := Lib.hid (Bx.news (cs := [.string ⟨#[109, 97, 105, 110]⟩, .string ⟨#[]⟩, .slice none 0 0, .slice (some ⟨w3.heap.size, 0, none⟩) 1 1]) hb4)
  refine wpList_append_row _ rfl _ _ 63 rfl 62 j0 (.agg #[.string ⟨#[]⟩, .string ⟨#[]⟩, .slice none 0 0, .slice none 0 0]) 4 80 Tryz.underlying63 hj0.out hk0.out hk1.out hk2.out rfl (by decide) (.slice (some ⟨A0R2, 0, none⟩) 0 0) 0 [] rfl (.inr ⟨rfl, rfl, _, rfl⟩) ⟨b4, 0, none⟩ 1 1 [.string ⟨#[109, 97, 105, 110]⟩, .string ⟨#[]⟩, .slice none 0 0, .slice (some ⟨w3.heap.size, 0, none⟩) 1 1] rfl rfl hnews.out (by simp [Value.oneCell']) (by decide) (by unfold maxLen; omega) (by omega) ?_
  intro g' cap' w5 hrow hcap hgf hor
  have hg' : Hid (g' = WR.heap.size) := Lib.hid (hor.elim (fun e => by rw [rowBlk_at, if_pos rfl] at e; cases e) id)
  clear hor
  have hwR := hWR.size
  have hs34 := hf34.size
  have hAl := BA4.lt
  simp only [Act.put, List.setIfInBounds_toArray, List.set_cons_zero, List.set_cons_succ]
  simp only [Nat.zero_add, List.nil_append] at hrow hcap
  have hf45 : Fr No w4 w5 := hWR.trans hgf (fun b hb e => by rw [rowBlk_at, if_pos rfl] at e; cases e)
  have BA5 := BA4.keep hf45
  have hfw5 := hfw4.trans0 hf45
  have z0 := BA5.c1
  have zf := fun i => BA5.frozen i
  have zl := BA5.lt
  replace hrow := Lib.hid hrow
  go_wp2_with fail
  obtain ⟨W8, hW8⟩ : ∃ W8, W8 = ((w5.setCell ⟨w.heap.size, 0, none⟩ (.slice (some ⟨w5.heap.size, 0, none⟩) 1 1)).alloc (.cells #[.slice (some ⟨g', 0, none⟩) 1 cap', .slice none 0 0] 70)) := ⟨_, rfl⟩
  have hf58 : Fr (fun b => b = w.heap.size) w5 W8 := hW8 ▸ (Fr.one _ _ _ _).trans0 ((Fr.refl No _).alloc _)
  have BA8 : Bx W8 w.heap.size 31 #[.slice (some ⟨w5.heap.size, 0, none⟩) 1 1] := hW8 ▸ (BA5.setc (i := 0) rfl).alloc _
  have BP8 : Bx W8 w5.heap.size 70 #[.slice (some ⟨g', 0, none⟩) 1 cap', .slice none 0 0] := hW8 ▸ Bx.new_ (by simp)
  rw [← hW8]
  clear hW8 z0 zf zl
  have hfw8 : Fr No w W8 := hfw5.trans hf58 (fun b hb e => by omega)
  have hwA1 : w.heap.size < w1.heap.size := hwA1.out
  have BK8 := (BK4.keep hf45).keepX hf58 (by omega)
  have BM8 := (BM4.keep hf45).keepX hf58 (by omega)
  have hrow8 := hrow.out.keep hf58 (fun q hq e => by rw [rowBlk_some (by omega)] at hq; have := Option.some.inj hq; have := hg'.out; omega)
  have hKnd : Sl No W8 2 KndC (.slice (some ⟨w1.heap.size, 0, none⟩) 1 1) [⟨1, noS⟩] := Sl.oneBx BK8 rfl ⟨rfl, by decide⟩
  have hMth : Sl No W8 8 (MthC No W8) (.slice (some ⟨w3.heap.size, 0, none⟩) 1 1) [mainMth code maps] := Sl.oneBx BM8 rfl ⟨_, _, _, rfl, (show sRun.size ≤ maxLen by decide), (show noS.size ≤ maxLen by decide), hKnd, hc.keep hfw8 (fun _ h => h) (fun _ _ _ h => h), hm.keep hfw8 (fun _ h => h) (fun _ _ _ h => h.keep hfw8 (fun _ h => h))⟩
  have hCls : Sl No W8 4 (ClsC No W8) (.slice (some ⟨g', 0, none⟩) 1 cap') [mainCls code maps] := Sl.oneRow hrow8 rfl ⟨_, _, rfl, (show sMain.size ≤ maxLen by decide), (show noS.size ≤ maxLen by decide), slNil, hMth⟩
  have hKpr : Sl No W8 2 (KprC No W8) (.slice (some ⟨w5.heap.size, 0, none⟩) 1 1) (mainP [] code maps).keepers := Sl.oneBx BP8 rfl ⟨_, _, rfl, hCls, slNil⟩
  have r0 := BA8.c1
  have rl := BA8.lt
  refine bodyPost_ret (v := .agg #[.slice (some ⟨w5.heap.size, 0, none⟩) 1 1]) (by simp [results, Tryz.results10, go_sem, r0]) rfl ?_
  exact ⟨⟨_, rfl, hKpr⟩, hfw8⟩
end Go.Proofs.YtbalicnnlfennaaGreat
