/- The program's own machine: it is laid from a run. -/
import Derived.Test.YtbalicnnlfennaaGreatCK18
import Derived.Test.YtbalicnnlfennaaGreatCK16
namespace Go.Proofs.YtbalicnnlfennaaGreat
open Go.RowKit

theorem info_ptrM : (Tryz.prog.info? 113).map (fun i => (i.zero, i.size, i.bytes)) = some (some (.pointer none), 1, 8) := by kernel_rfl

theorem stB_facts {p : Plan} {s : St} (h : stB p s = true) : s.heap.length ≤ 12 ∧ s.outs.length ≤ 40 ∧ s.frames.length ≤ 8 ∧ (∀ f ∈ s.frames, frmB p s.heap.length f = true) ∧ heapB p s.heap = true := by
 unfold stB at h
 simp only [Bool.and_eq_true, decide_eq_true_eq, List.all_eq_true] at h
 exact ⟨h.1.1.1.1.1.1.1.2, h.1.1.1.1.1.1.2, h.1.1.1.1.1.2, h.1.1.2, h.1.2⟩
theorem frmB_facts {p : Plan} {n : Nat} {f : Cal} (h : frmB p n f = true) : hasMB p f.of_ = true ∧ (f.locals.length : Int) = (mthOf p f.of_).locals := by
 unfold frmB at h
 simp only [Bool.and_eq_true, decide_eq_true_eq, List.all_eq_true] at h
 exact ⟨h.1.1.1.1.1.1, h.1.1.1.2⟩

theorem mcs_new {w w1 w2 w3 w4 w5 : World} {l bl n : Nat} {p : Plan} {look : Bool} {s : St} {mb : Nat} {vh vo : Value} (hlg : Lg w l bl n p) (hmb : w.heap.size ≤ mb) (hf1 : Fr No w w1)
  (hb : Bx w1 mb tMach #[.pointer (some ⟨l, 0, none⟩), .bool look, .int .i64 s.status, .slice none 0 0, .slice none 0 0, .slice none 0 0, .int .i64 s.back.kind, .int .i64 s.back.n])
  (hh : HpRow w1.heap.size w2 vh s.heap) (hf2 : Fr No w1 w2) (h3 : w3 = w2.setCell ⟨mb, 4, none⟩ vh)
  (ho : OutRow w4 vo s.outs) (hon : ∀ q, rowBlk vo = some q → w3.heap.size ≤ q) (hf4 : Fr No w3 w4) (h5 : w5 = w4.setCell ⟨mb, 5, none⟩ vo) :
  (∃ m, McS ⟨w, l, bl, p, look, mb⟩ n ⟨s.status, [], s.heap, s.outs, s.back⟩ m w5) ∧ Fr No w w5 := by
 obtain ⟨ko, hK⟩ := hh
 have hlt := hb.lt
 have hKl := hK.lt
 have hs12 := hf2.size
 have h23 : Fr (fun b => b = mb) w2 w3 := h3 ▸ Fr.one _ _ _ _
 have h45 : Fr (fun b => b = mb) w4 w5 := h5 ▸ Fr.one _ _ _ _
 have hs23 := h23.size
 have hs34 := hf4.size
 have hs45 := h45.size
 have hs1 := hf1.size
 have hf : Fr No w w5 := (((hf1.trans0 hf2).trans h23 (fun b hb e => by omega)).trans0 hf4).trans h45 (fun b hb e => by omega)
 have hB2 := hb.keep hf2
 have hB3 := h3 ▸ hB2.setc (i := 4) (u := vh) rfl
 have hB4 := hB3.keep hf4
 have hB5 := h5 ▸ hB4.setc (i := 5) (u := vo) rfl
 have hK5 : HpR w1.heap.size w5 vh s.heap ko := ((hK.keep h23 (fun b hb _ e => by omega)).keep0 hf4).keep h45 (fun b hb _ e => by omega)
 have ho5 : OutRow w5 vo s.outs := ho.keepB h45 (fun q hq e => by have := hon q (mem_rowB.1 hq); omega)
 refine ⟨⟨⟨.slice none 0 0, vh, vo, [], ko⟩, ?_⟩, hf⟩
 have hmc : mcB ⟨w, l, bl, p, look, mb⟩ ⟨.slice none 0 0, vh, vo, [], ko⟩ = mb :: ((rowB vh ++ ko.flatMap KO.B) ++ rowB vo) := by
  unfold mcB
  simp [rowB, rowBlk_nil]
 refine ⟨hf.of0, hlg.keep hf, ?_, RowV.nil _ _ _, trivial, hK5.1, hK5.2.1, ho5, ?_, ?_⟩
 ·exact hB5
 ·rw [hmc, List.nodup_cons, List.nodup_append]
  refine ⟨fun hx => ?_, hK.2.2.1, rowB_nodup _, fun a ha b hb e => ?_⟩
  ·rcases List.mem_append.1 hx with hx | hx
   ·have := hK.2.2.2 _ hx; omega
   ·have := hon _ (mem_rowB.1 hx); omega
  ·subst e
   have := hKl _ ha
   have := hon _ (mem_rowB.1 hb)
   omega
 ·rw [hmc]
  intro b hb
  dsimp only
  rcases List.mem_cons.1 hb with rfl | hb
  ·exact hmb
  ·rcases List.mem_append.1 hb with hb | hb
   ·have := hK.2.2.2 _ hb; omega
   ·have := hon _ (mem_rowB.1 hb); omega

def cloE : Value → World → Prop := fun v W => ∃ A c, v = .slice A 0 c ∧ ValRow W (.slice A 0 c) [] ∧ rowBlk (.slice A 0 c) = none
theorem cloE_mono : MonP cloE := fun _ _ _ ⟨A, c, h1, h2, h3⟩ hf => ⟨A, c, h1, h2.keep0 hf, h3⟩
theorem cloE_gives {w w' : World} {e : Ending} (h : CloneV [] w e w') : ∃ v, e = .returned v ∧ Fr No w w' ∧ cloE v w' := by
 obtain ⟨v, rfl, h1, h2, h3⟩ := h
 obtain ⟨A, c, rfl, _, _⟩ := h1.form
 refine ⟨_, rfl, h3, A, c, rfl, h1, ?_⟩
 have hn : ∀ q, rowBlk (.slice A 0 c) ≠ some q := fun q hq => absurd (h2 q hq).2 (by simp)
 cases h9 : rowBlk (.slice A 0 c) with
 | none => rfl
 | some q => exact absurd h9 (hn q)
def stkP (st : Int) : Value → World → Prop := fun v W => ∃ A c, v = .agg #[.slice A 0 c, .int .i64 st] ∧ ValRow W (.slice A 0 c) [] ∧ rowBlk (.slice A 0 c) = none
theorem stkP_mono (st : Int) : MonP (stkP st) := fun _ _ _ ⟨A, c, h1, h2, h3⟩ hf => ⟨A, c, h1, h2.keep0 hf, h3⟩
def calP (G : Value → Value → Array Value) (xs : List Val) (base : Nat) : Value → World → Prop := fun v W => ∃ A c A2 c2, v = .agg (G (.slice A xs.length c) (.slice A2 0 c2)) ∧ ValRow W (.slice A xs.length c) xs ∧ (∀ q, rowBlk (.slice A xs.length c) = some q → base ≤ q) ∧ ValRow W (.slice A2 0 c2) [] ∧ rowBlk (.slice A2 0 c2) = none
theorem calP_mono (G : Value → Value → Array Value) (xs : List Val) (base : Nat) : MonP (calP G xs base) := fun _ _ _ ⟨A, c, A2, c2, h1, h2, h3, h4, h5⟩ hf => ⟨A, c, A2, c2, h1, h2.keep0 hf, h3, h4.keep0 hf, h5⟩
def boxP (G : Value → Value → Array Value) (xs : List Val) (base : Nat) : Value → World → Prop := fun v W => ∃ g A c A2 c2, v = .pointer (some ⟨g, 0, none⟩) ∧ Bx W g tCall (G (.slice A xs.length c) (.slice A2 0 c2)) ∧ base ≤ g ∧ ValRow W (.slice A xs.length c) xs ∧ (∀ q, rowBlk (.slice A xs.length c) = some q → base ≤ q ∧ q ≠ g) ∧ ValRow W (.slice A2 0 c2) [] ∧ rowBlk (.slice A2 0 c2) = none
theorem boxP_mono (G : Value → Value → Array Value) (xs : List Val) (base : Nat) : MonP (boxP G xs base) := fun _ _ _ ⟨g, A, c, A2, c2, h1, h6, h7, h2, h3, h4, h5⟩ hf => ⟨g, A, c, A2, c2, h1, h6.keep hf, h7, h2.keep0 hf, h3, h4.keep0 hf, h5⟩
def sliP (G : Value → Value → Array Value) (xs : List Val) (base : Nat) : Value → World → Prop := fun v W => ∃ k g A c A2 c2, v = .slice (some ⟨k, 0, none⟩) 1 1 ∧ Bx W k tPtr #[.pointer (some ⟨g, 0, none⟩)] ∧ Bx W g tCall (G (.slice A xs.length c) (.slice A2 0 c2)) ∧ base ≤ g ∧ ValRow W (.slice A xs.length c) xs ∧ (∀ q, rowBlk (.slice A xs.length c) = some q → base ≤ q ∧ q ≠ g) ∧ ValRow W (.slice A2 0 c2) [] ∧ rowBlk (.slice A2 0 c2) = none
theorem sliP_mono (G : Value → Value → Array Value) (xs : List Val) (base : Nat) : MonP (sliP G xs base) := fun _ _ _ ⟨k, g, A, c, A2, c2, h1, h8, h6, h7, h2, h3, h4, h5⟩ hf => ⟨k, g, A, c, A2, c2, h1, h8.keep hf, h6.keep hf, h7, h2.keep0 hf, h3, h4.keep0 hf, h5⟩

set_option maxRecDepth 100000 in
set_option maxHeartbeats 4000000 in
theorem newMachine_ok (X : Nat → Prop) (l bl n : Nat) (p : Plan) (look : Bool) (s : St) (cs : List Value) (w : World) (hlg : Lg w l bl n p) (hs : StC X w cs s) (_ : ∀ b, w.heap.size ≤ b → X b) (hok : stB p s = true) (hst : ∀ f ∈ s.frames, f.stack = []) (hfl : ∀ o ∈ s.heap, o.fields.length ≤ 1000) :
  Calls Tryz.prog 25 #[.pointer (some ⟨l, 0, none⟩), .bool look, .agg cs.toArray] w (fun e w' => e = .returned (.pointer (some ⟨w.heap.size + 1, 0, none⟩)) ∧ (∃ m, McS ⟨w, l, bl, p, look, w.heap.size + 1⟩ n s m w') ∧ Fr No w w') := by
 obtain ⟨hl1, hl2, hl3, hfr, hhp⟩ := stB_facts hok
 obtain ⟨vf, vh, vo, rfl, hf, hh, ho⟩ := hs
 obtain ⟨Af, cf, rfl, _, _⟩ := hf.form
 obtain ⟨Ah, ch, rfl, _, _⟩ := hh.form
 obtain ⟨Ao, co, rfl, _, _⟩ := ho.form
 have HH := fun W (hW : Fr No w W) => copyHeap_ok _ s.heap W ((hh.keep hW (fun _ h => h.elim) (fun _ _ _ h => h.keep hW (fun _ h => h.elim))).weaken (Y := No) (fun _ h => h.elim) (fun _ _ _ h => h.weaken (fun _ h => h.elim))) (by omega) hfl
 have HO := fun W (hW : Fr No w W) => cloneO_ok X _ s.outs W (ho.keep hW (fun _ h => h.elim) (fun _ _ _ h => h)) (by omega)
 go_enter Tryz.func25, Tryz.ntmps25
 go_wp2_with fail
 obtain ⟨w1, hw1⟩ : ∃ w1, w1 = ((w.alloc (.cells #[.int .i64 s.status, .slice Af s.frames.length cf, .slice Ah s.heap.length ch, .slice Ao s.outs.length co, .int .i64 s.back.kind, .int .i64 s.back.n] 42)).alloc (.cells #[.pointer (some ⟨l, 0, none⟩), .bool look, .int .i64 s.status, .slice none 0 0, .slice none 0 0, .slice none 0 0, .int .i64 s.back.kind, .int .i64 s.back.n] tMach)) := ⟨_, rfl⟩
 have hf1 : Fr No w w1 := hw1 ▸ frc
 have BS1 : Bx w1 w.heap.size 42 #[.int .i64 s.status, .slice Af s.frames.length cf, .slice Ah s.heap.length ch, .slice Ao s.outs.length co, .int .i64 s.back.kind, .int .i64 s.back.n] := hw1 ▸ (Bx.new _ _ _).alloc _
 have BM1 : Bx w1 (w.heap.size + 1) tMach #[.pointer (some ⟨l, 0, none⟩), .bool look, .int .i64 s.status, .slice none 0 0, .slice none 0 0, .slice none 0 0, .int .i64 s.back.kind, .int .i64 s.back.n] := hw1 ▸ Bx.new_ (by simp)
 have HH1 := hw1 ▸ HH w1 hf1
 refine HH1.mono ?_
 clear HH1 HH
 rintro e w2 ⟨vh', rfl, hH, hf2⟩
 rw [← hw1] at hH hf2
 replace hw1 := Lib.hid hw1
 obtain ⟨Ah', ch', rfl⟩ : ∃ A c, vh' = .slice A s.heap.length c := by
  obtain ⟨ko, hK⟩ := hH
  obtain ⟨A, c, he, _, _⟩ := hK.1.form
  exact ⟨A, c, he⟩
 have hs1 := hf1.size
 have hs2 := hf2.size
 have BS2 := BS1.keep hf2
 have BM2 := BM1.keep hf2
 have BM1l := BM1.lt
 obtain ⟨w3, hw3⟩ : ∃ w3, w3 = w2.setCell ⟨w.heap.size + 1, 4, none⟩ (.slice Ah' s.heap.length ch') := ⟨_, rfl⟩
 have hf3 : Fr No w w3 := hw3 ▸ ((hf1.trans0 hf2).setCell (p := ⟨w.heap.size + 1, 4, none⟩) (by dsimp only; omega) _)
 have BS3 := hw3 ▸ BS2.far (p := ⟨w.heap.size + 1, 4, none⟩) (by dsimp only; omega) (.slice Ah' s.heap.length ch')
 have BM3 := hw3 ▸ BM2.setc (i := 4) (u := .slice Ah' s.heap.length ch') rfl
 have HO3 := hw3 ▸ HO w3 hf3
 clear HO
 obtain ⟨q1, q2, q3, q4, q5, q6⟩ := BS2.c6
 have qf := fun i => BS2.frozen i
 have ql := BS2.lt
 have m4 : w2.cell? ⟨w.heap.size + 1, 4, none⟩ = some (.slice none 0 0) := BM2.cell 4
 have mf := fun i => BM2.frozen i
 have ml := BM2.lt
 replace hH := Lib.hid hH
 go_wp2_with fail
 refine HO3.mono ?_
 clear HO3 q1 q2 q3 q4 q5 q6 qf ql m4 mf ml
 rintro e w4 ⟨vo', rfl, hO, hon, hf4⟩
 rw [← hw3] at hf4 hon
 obtain ⟨Ao', co', rfl, _, _⟩ := hO.form
 have BS4 := BS3.keep hf4
 have BM4 := BM3.keep hf4
 obtain ⟨w5, hw5⟩ : ∃ w5, w5 = w4.setCell ⟨w.heap.size + 1, 5, none⟩ (.slice Ao' s.outs.length co') := ⟨_, rfl⟩
 have BS5 := hw5 ▸ BS4.far (p := ⟨w.heap.size + 1, 5, none⟩) (by dsimp only; omega) (.slice Ao' s.outs.length co')
 obtain ⟨hM5, hf5⟩ := mcs_new (look := look) (mb := w.heap.size + 1) hlg (by omega) hf1 BM1 hH.out hf2 hw3 hO (fun q hq => (hon q hq).1) hf4 hw5
 replace hw3 := Lib.hid hw3
 obtain ⟨q1, q2, q3, q4, q5, q6⟩ := BS4.c6
 have qf := fun i => BS4.frozen i
 have ql := BS4.lt
 have m5 : w4.cell? ⟨w.heap.size + 1, 5, none⟩ = some (.slice none 0 0) := BM4.cell 5
 have mf := fun i => BM4.frozen i
 have ml := BM4.lt
 replace hM5 := Lib.hid hM5
 replace BS5 := Lib.hid BS5
 replace hO := Lib.hid hO
 clear hf3 BS1 BM1 BS2 BM2 BS3 BM3 hon
 replace BS4 := Lib.hid BS4
 replace BM4 := Lib.hid BM4
 have hw5h := Lib.hid hw5
 clear hw5
 go_wp2_with fail
 rw [← hw5h.out]
 clear q1 q2 q3 q4 q5 q6 qf ql m5 mf ml
 have hI0 : Hid ((∃ m, McS ⟨w, l, bl, p, look, w.heap.size + 1⟩ n ⟨s.status, s.frames.take 0, s.heap, s.outs, s.back⟩ m w5) ∧ Fr No w w5) := Lib.hid ⟨hM5.out, hf5⟩
 clear hfl hO hH hf2 hf4
 go_loopw [34] (fun i wr => ∃ j : Nat, j ≤ s.frames.length ∧ i = .int .i64 j ∧ Hid ((∃ m, McS ⟨w, l, bl, p, look, w.heap.size + 1⟩ n ⟨s.status, s.frames.take j, s.heap, s.outs, s.back⟩ m wr) ∧ Fr No w wr)) (fun i _ => s.frames.length - (intOf i).toNat)
 case atStart => exact ⟨0, Nat.zero_le _, rfl, hI0⟩
 case round =>
  clear hI0
  obtain ⟨j, hj, rfl, hI⟩ := hrel
  obtain ⟨⟨m, hM⟩, hfrr⟩ := hI.out
  clear hI
  by_cases hlt : j < s.frames.length
  ·have E : McE ⟨w, l, bl, p, look, w.heap.size + 1⟩ := ⟨n, hlg⟩
   have hwr := hf.keep (R' := CalC X wr) hfrr (fun _ h => h.elim) (fun _ _ _ h => h.keep hfrr (fun _ h => h.elim))
   obtain ⟨b, off, Al, cl, As, cs', hAf, _, o0, o1, o2, o3, o4, o5, z1, hsl, hss, _, hsl2, _, _⟩ := hwr.cal hlt
   subst hAf
   have htk : s.frames.take (j + 1) = s.frames.take j ++ [s.frames[j]] := List.take_succ_eq_append_getElem hlt
   have hlj : (s.frames.take j).length = j := by rw [List.length_take, Nat.min_eq_left hj]
   have hfo := frmB_facts (hfr _ (List.getElem_mem hlt))
   have hste := hst _ (List.getElem_mem hlt)
   obtain ⟨kk, ii, a, hkk, haa, hhere, ha, hmth⟩ := hasMB_here hlg.ok hfo.1
   clear hwr hfr hst
   generalize s.frames[j] = f at *
   obtain ⟨⟨⟨fk, fnm⟩, fat⟩, fpc, floc, fstk⟩ := f
   dsimp only at o0 o1 o2 o3 o4 o5 z1 hsl hss hsl2 hfo hste hkk haa hhere ha hmth
   subst hkk haa hste
   have hmb := (mthAt_ok (q := (⟨(kk : Int), fnm⟩, (a : Int))) hlg.ok hhere rfl ha)
   rw [hmb.1] at hmb
   replace hmb := mthB_facts hmb.2
   have hloc := hfo.2
   rw [hmth] at hloc
   obtain ⟨mcs, ⟨va, vcd, vmp, rfl, _, hretn, hA1, hA2, hA3⟩, HMv⟩ := method_valX (E.lodgeX hM.anchor) hhere z1 ha
   have hcode := hA2.back hM.anchor
   obtain ⟨Aa, ca, rfl, _, hal2⟩ := hA1.form
   obtain ⟨Ad, cd, rfl, _, _⟩ := hA2.form
   obtain ⟨Ap, cp, rfl, _, _⟩ := hA3.form
   generalize hMm : (clsAt p ⟨kk, fnm⟩).methods[a] = M at *
   replace htk := Lib.hid htk
   replace hmth := Lib.hid hmth
   replace hMm := Lib.hid hMm
   replace hcode := Lib.hid hcode
   replace hretn := Lib.hid hretn
   replace hM := Lib.hid hM
   clear hok hhp hM5
   go_wp2_with fail
   obtain ⟨wB, hwB⟩ : ∃ wB, wB = wr.alloc (.cells #[.int .i64 kk, .string fnm, .int .i64 a, .int .i64 fpc, .slice Al floc.length cl, .slice As 0 cs'] 107) := ⟨_, rfl⟩
   have hfB : Fr No wr wB := hwB ▸ frc
   have BF := (hwB ▸ bxc : Bx wB wr.heap.size 107 #[.int .i64 kk, .string fnm, .int .i64 a, .int .i64 fpc, .slice Al floc.length cl, .slice As 0 cs'])
   have HM1 := hwB ▸ HMv wB hfB
   refine HM1.mono ?_
   clear HM1 HMv
   rintro e wC ⟨rfl, hfC⟩
   rw [← hwB] at hfC
   replace hwB := Lib.hid hwB
   simp only []
   go_at_K
   go_step
   go_step
   go_step
   go_step
   have hsr := hfrr.size
   have BMz := (bxc : Bx (wC.alloc (.cells #[.string ⟨#[]⟩, .slice none 0 0, .int .i64 0, .string ⟨#[]⟩, .int .i64 0, .int .i64 0, .slice none 0 0, .slice none 0 0] 67)) wC.heap.size 67 #[.string ⟨#[]⟩, .slice none 0 0, .int .i64 0, .string ⟨#[]⟩, .int .i64 0, .int .i64 0, .slice none 0 0, .slice none 0 0])
   refine wpList_store_all rfl 67 (.tmp 10) (.tmp 41) rfl 8 (by kernel_rfl) wC.heap.size 67 _ [.string M.name, .slice Aa M.args.length ca, .int .i64 M.ret.kind, .string M.ret.name, .int .i64 M.locals, .int .i64 M.stack, .slice Ad M.code.length cd, .slice Ap M.maps.length cp] rfl rfl BMz rfl rfl (by simp [Value.oneCell']) ?_
   intro wE BE hfE
   simp only [Act.put]
   have hfCz : Fr No wC (wC.alloc (.cells #[.string ⟨#[]⟩, .slice none 0 0, .int .i64 0, .string ⟨#[]⟩, .int .i64 0, .int .i64 0, .slice none 0 0, .slice none 0 0] 67)) := (Fr.refl No wC).alloc _
   have hfCE : Fr No wC wE := hfCz.trans hfE (fun b hb e => by omega)
   have hfrC : Fr No wr wC := hfB.trans0 hfC
   have hfrE : Fr No wr wE := hfrC.trans0 hfCE
   have hsB := hfB.size
   have hsC := hfC.size
   have hsE := hfCE.size
   have hwrB := BF.lt
   have KF := ((BF.keep hfC).keep hfCE).r6
   have KB := Bx.r8 BE
   have hME := hM.out.keep E hfrE
   obtain ⟨Ac, cc, hvc, hc1, hc2⟩ := hME.crow.form
   dsimp only at hvc hc1
   rw [hlj] at hvc hc1
   unfold maxLen at hc2
   have KM := hME.cells
   dsimp only at KM
   rw [hvc] at KM
   have hslE := hsl.keep (R' := ValC) hfrE (fun _ h => h.elim) (fun _ _ _ h => h)
   have hssE := hss.keep (R' := ValC) hfrE (fun _ h => h.elim) (fun _ _ _ h => h)
   have HL := fun W (hW : Fr No wE W) => cloneV_ok X (.slice Al floc.length cl) floc W (hslE.keep hW (fun _ h => h.elim) (fun _ _ _ h => h)) (by omega)
   have HS := fun W (hW : Fr No wE W) => cloneV_ok X (.slice As 0 cs') [] W (hssE.keep hW (fun _ h => h.elim) (fun _ _ _ h => h)) (by simp)
   have hmltE : ∀ b ∈ mcB ⟨w, l, bl, p, look, w.heap.size + 1⟩ m, b < wr.heap.size := fun b hb => hM.out.lt hb
   replace hmltE := Lib.hid hmltE
   replace hME := Lib.hid hME
   replace hvc := Lib.hid hvc
   replace hfE := Lib.hid hfE
   clear o0 o1 o2 o3 o4 o5 hsl hss hslE hssE BF BMz BE
   go_wp2_with fail
   refine wp_region_monR 22 64 [mE (mV (.pointer (some ⟨w.heap.size + 1, 0, none⟩))), mV (.pointer (some ⟨w.heap.size + 1, 0, none⟩)), mV (.pointer (some ⟨w.heap.size + 1, 0, none⟩)), mV (.pointer (some ⟨w.heap.size + 1, 3, none⟩)), mV (.slice Ac j cc), mV (.pointer (some ⟨wr.heap.size, 0, none⟩)), mV (.agg #[.int .i64 kk, .string fnm, .int .i64 a]), mV (.agg #[.string M.name, .slice Aa M.args.length ca, .int .i64 M.ret.kind, .string M.ret.name, .int .i64 M.locals, .int .i64 M.stack, .slice Ad M.code.length cd, .slice Ap M.maps.length cp]), mV (.pointer (some ⟨wr.heap.size, 3, none⟩)), mV (.int .i64 fpc), mV (.pointer (some ⟨wr.heap.size, 4, none⟩)), mV (.slice Al floc.length cl), mC (cloW floc wE.heap.size) (cloW_mono _ _), mV (.pointer (some ⟨wr.heap.size, 5, none⟩)), mV (.slice As 0 cs'), mC (cloE) (cloE_mono), mV (.pointer (some ⟨wC.heap.size, 5, none⟩)), mV (.int .i64 M.stack), mC (stkP M.stack) (stkP_mono _), mC (calP (fun vl vs => #[.int .i64 kk, .string fnm, .int .i64 a, .string M.name, .slice Aa M.args.length ca, .int .i64 M.ret.kind, .string M.ret.name, .int .i64 M.locals, .int .i64 M.stack, .slice Ad M.code.length cd, .slice Ap M.maps.length cp, .int .i64 fpc, vl, vs, .int .i64 M.stack]) floc wE.heap.size) (calP_mono _ _ _), mC (boxP (fun vl vs => #[.int .i64 kk, .string fnm, .int .i64 a, .string M.name, .slice Aa M.args.length ca, .int .i64 M.ret.kind, .string M.ret.name, .int .i64 M.locals, .int .i64 M.stack, .slice Ad M.code.length cd, .slice Ap M.maps.length cp, .int .i64 fpc, vl, vs, .int .i64 M.stack]) floc wE.heap.size) (boxP_mono _ _ _), mC (sliP (fun vl vs => #[.int .i64 kk, .string fnm, .int .i64 a, .string M.name, .slice Aa M.args.length ca, .int .i64 M.ret.kind, .string M.ret.name, .int .i64 M.locals, .int .i64 M.stack, .slice Ad M.code.length cd, .slice Ap M.maps.length cp, .int .i64 fpc, vl, vs, .int .i64 M.stack]) floc wE.heap.size) (sliP_mono _ _ _)] (by kernel_rfl) (by kernel_rfl) (by simp) ?_ ?_
   ·refine hopC ?_ <| hopC ?_ <| hopC ?_ <| hopC ?_ <| hopC ?_ <| hopC ?_ <| hopC ?_ <| hopC ?_ <| hopC ?_ <| hopC ?_ <| hopC ?_ <| hopC ?_ <| hopC ?_ <| hopC ?_ <| hopC ?_ <| hopC ?_ <| hopC ?_ <| hopC ?_ <| hopC ?_ <| hopC ?_ <| hopC ?_ <| hopC ?_ <| hopZ
    all_goals (intro a' W hW hoff hdep; have hbs := hW.size; have H7 := hoff 7 rfl; have H9 := hoff 9 rfl; have H10 := hoff 10 rfl)
    ·exact yE rfl ⟨.pointer (some ⟨w.heap.size + 1, 0, none⟩), fun W => by simp [execOp, Act.eval, H7, go_sem], rfl, rfl⟩
    ·refine nE rfl ?_; simp [execOp, Act.eval, H7, go_sem, givesUpon]; exact fr1 rfl
    ·have D43 : _ = _ := hdep 1 43 rfl; refine nE rfl ?_; simp [execOp, Act.eval, D43, go_sem, givesUpon]; exact fr1 rfl
    ·have D44 : _ = _ := hdep 2 44 rfl; refine nE rfl ?_; simp [execOp, Act.eval, D44, go_sem, givesUpon]; exact fr1 rfl
    ·have D45 : _ = _ := hdep 3 45 rfl; refine nE rfl ?_; clear hoff hdep; simp [execOp, Act.eval, go_sem, givesUpon, *]; exact fr1 rfl
    ·refine nE rfl ?_; simp [execOp, Act.eval, H9, go_sem, givesUpon]; exact fr1 rfl
    ·have D47 : _ = _ := hdep 5 47 rfl; refine nE rfl ?_; clear hoff hdep; simp [execOp, Act.eval, go_sem, givesUpon, *]; exact fr1 rfl
    ·refine nE rfl ?_; clear hoff hdep; simp [execOp, Act.eval, go_sem, givesUpon, *]; exact fr1 rfl
    ·refine nE rfl ?_; simp [execOp, Act.eval, H9, go_sem, givesUpon]; exact fr1 rfl
    ·have D50 : _ = _ := hdep 8 50 rfl; refine nE rfl ?_; clear hoff hdep; simp [execOp, Act.eval, go_sem, givesUpon, *]; exact fr1 rfl
    ·refine nE rfl ?_; simp [execOp, Act.eval, H9, go_sem, givesUpon]; exact fr1 rfl
    ·have D52 : _ = _ := hdep 10 52 rfl; refine nE rfl ?_; clear hoff hdep; simp [execOp, Act.eval, go_sem, givesUpon, *]; exact fr1 rfl
    ·have D53 : _ = _ := hdep 11 53 rfl; refine nE rfl ?_; simp [Act.eval, D53, go_sem, givesUpon]; exact (HL _ hW).mono (by intro e w9 h; obtain ⟨v, rfl, h3, h4⟩ := cloW_gives hbs h; exact ⟨v, rfl, h3, h4⟩)
    ·refine nE rfl ?_; simp [execOp, Act.eval, H9, go_sem, givesUpon]; exact fr1 rfl
    ·have D55 : _ = _ := hdep 13 55 rfl; refine nE rfl ?_; clear hoff hdep; simp [execOp, Act.eval, go_sem, givesUpon, *]; exact fr1 rfl
    ·have D56 : _ = _ := hdep 14 56 rfl; refine nE rfl ?_; simp [Act.eval, D56, go_sem, givesUpon]; exact (HS _ hW).mono (by intro e w9 h; obtain ⟨v, rfl, h3, h4⟩ := cloE_gives h; exact ⟨v, rfl, h3, h4⟩)
    ·refine nE rfl ?_; simp [execOp, Act.eval, H10, go_sem, givesUpon]; exact fr1 rfl
    ·have D58 : _ = _ := hdep 16 58 rfl; refine nE rfl ?_; clear hoff hdep; simp [execOp, Act.eval, go_sem, givesUpon, *]; exact fr1 rfl
    ·obtain ⟨A2, c2, D57, ht2, hn2⟩ : (cloE) _ W := hdep 15 57 rfl; have D59 : _ = _ := hdep 17 59 rfl; simp at D57 D59; refine nE rfl ?_; simp [execOp, Act.eval, D57, D59, go_sem, givesUpon]; exact ⟨Fr.refl _ _, A2, c2, rfl, ht2, hn2⟩
    ·have D48 : _ = _ := hdep 6 48 rfl; have D49 : _ = _ := hdep 7 49 rfl; have D51 : _ = _ := hdep 9 51 rfl; obtain ⟨A, c, D54, ht, hq⟩ : (cloW floc wE.heap.size) _ W := hdep 12 54 rfl; obtain ⟨A2, c2, D60, ht2, hn2⟩ : (stkP M.stack) _ W := hdep 18 60 rfl; simp at D48 D49 D51 D54 D60; refine nE rfl ?_; simp [execOp, Act.eval, D48, D49, D51, D54, D60, go_sem, givesUpon]; exact ⟨Fr.refl _ _, A, c, A2, c2, rfl, ht, hq, ht2, hn2⟩
    ·obtain ⟨A, c, A2, c2, D61, ht, hq, ht2, hn2⟩ : (calP (fun vl vs => #[.int .i64 kk, .string fnm, .int .i64 a, .string M.name, .slice Aa M.args.length ca, .int .i64 M.ret.kind, .string M.ret.name, .int .i64 M.locals, .int .i64 M.stack, .slice Ad M.code.length cd, .slice Ap M.maps.length cp, .int .i64 fpc, vl, vs, .int .i64 M.stack]) floc wE.heap.size) _ W := hdep 19 61 rfl; refine nE rfl ?_; simp [execOp, D61, go_sem, givesUpon]; exact ⟨(Fr.refl _ _).alloc _, _, A, c, A2, c2, rfl, Bx.new_ rfl, hbs, ht.keep0 frc, fun q h9 => ⟨hq q h9, by have := RowV.lt ht h9; omega⟩, ht2.keep0 frc, hn2⟩
    ·obtain ⟨g, A, c, A2, c2, D62, hb, hl, ht, hq, ht2, hn2⟩ : (boxP (fun vl vs => #[.int .i64 kk, .string fnm, .int .i64 a, .string M.name, .slice Aa M.args.length ca, .int .i64 M.ret.kind, .string M.ret.name, .int .i64 M.locals, .int .i64 M.stack, .slice Ad M.code.length cd, .slice Ap M.maps.length cp, .int .i64 fpc, vl, vs, .int .i64 M.stack]) floc wE.heap.size) _ W := hdep 20 62 rfl; simp at D62; refine nE rfl ?_; simp [execOp, Act.eval, D62, go_sem, givesUpon]; exact ⟨(Fr.refl _ _).alloc _, _, g, A, c, A2, c2, rfl, Bx.new_ rfl, hb.alloc _, hl, ht.keep0 frc, hq, ht2.keep0 frc, hn2⟩
   intro vs WR hWR hv hne
   obtain ⟨AR12, cR12, e12, htR12, hqR12⟩ := hv 12 (by omega)
   obtain ⟨A2R15, c2R15, e15, ht2R15, hn2R15⟩ := hv 15 (by omega)
   obtain ⟨A2R18, c2R18, e18, ht2R18, hn2R18⟩ := hv 18 (by omega)
   obtain ⟨AR19, cR19, A2R19, c2R19, e19, htR19, hqR19, ht2R19, hn2R19⟩ := hv 19 (by omega)
   obtain ⟨gR20, AR20, cR20, A2R20, c2R20, e20, hbR20, hlR20, htR20, hqR20, ht2R20, hn2R20⟩ := hv 20 (by omega)
   obtain ⟨kR21, gR21, AR21, cR21, A2R21, c2R21, e21, hkR21, hbR21, hlR21, htR21, hqR21, ht2R21, hn2R21⟩ := hv 21 (by omega)
   simp only [List.drop_succ_cons, List.drop_zero, putsR_C, putsR_EV, putsR_V, putsR_0, Nat.zero_add, Nat.reduceAdd, e12, e15, e18, e19, e20, e21]
   simp only [Act.put, List.setIfInBounds_toArray, List.set_cons_zero, List.set_cons_succ]
   clear e12 e15 e18 e19 e20 e21 hv
   clear hne KF KB KM HL HS htR12 hqR12 ht2R15 hn2R15 ht2R18 hn2R18 htR19 hqR19 ht2R19 hn2R19 hbR20 hlR20 htR20 hqR20 ht2R20 hn2R20
   have hwR := hWR.size
   have hMR := hME.out.keep E hWR
   obtain ⟨kc, hkc⟩ : ∃ kc : KC, kc = ⟨gR21, .slice Aa M.args.length ca, .slice Ad M.code.length cd, .slice Ap M.maps.length cp, .slice AR21 floc.length cR21, .slice A2R21 0 c2R21⟩ := ⟨_, rfl⟩
   have hCR : CalR ⟨w, l, bl, p, look, w.heap.size + 1⟩ WR kc ⟨⟨⟨kk, fnm⟩, a⟩, fpc, floc, []⟩ := by
    subst hkc
    refine ⟨?_, htR21, ht2R21, ?_, z1, ?_⟩
    ·dsimp only; rw [hmth.out]; exact hbR21
    ·dsimp only; rw [hmth.out]; exact hcode.out
    ·dsimp only; rw [hmth.out]; exact hretn.out
   have hkB : ∀ b ∈ kc.B, wE.heap.size ≤ b := fun b hb => by
    subst hkc
    rcases KC.mem_B.1 hb with h9 | h9 | h9
    ·dsimp only at h9; omega
    ·exact (hqR21 _ (mem_rowB.1 h9)).1
    ·have := mem_rowB.1 h9; dsimp only at this; rw [hn2R21] at this; cases this
   have hkn : ∀ b ∈ kc.B, b ∉ mcB ⟨w, l, bl, p, look, w.heap.size + 1⟩ m ∧ w.heap.size ≤ b := fun b hb => ⟨fun hx => by have := hmltE.out b hx; have := hkB b hb; omega, by have := hkB b hb; omega⟩
   have hnd : kc.B.Nodup := by
    subst hkc
    refine KC.nodup_iff.2 ⟨fun q hq => (hqR21 q hq).2, fun q hq => ?_, fun q _ hq => ?_⟩
    ·dsimp only at hq; rw [hn2R21] at hq; cases hq
    ·dsimp only at hq; rw [hn2R21] at hq; cases hq
   have hrowR : RowV WR tPtr 1 (.slice Ac j cc) j (m.kc.flatMap (calL ⟨w, l, bl, p, look, w.heap.size + 1⟩).C) := by
    have := hMR.crow
    dsimp only at this
    rw [hvc.out, hlj] at this
    exact this
   have hsrcP := Lib.hid (Bx.news (cs := [Value.pointer (some ⟨gR21, 0, none⟩)]) hkR21)
   have hboxR := hMR.box
   have hneR : ∀ q, rowBlk (.slice Ac j cc) = some q → q ≠ w.heap.size + 1 := fun q hq => hMR.out3.1 q (by rw [hvc.out]; exact rowB_c hq)
   have hfin := fun (g' cap' : Nat) (w3 : World) (hrow : RowV w3 tPtr 1 (.slice (some ⟨g', 0, none⟩) (j + 1) cap') (j + 1) (m.kc.flatMap (calL ⟨w, l, bl, p, look, w.heap.size + 1⟩).C ++ [.pointer (some ⟨gR21, 0, none⟩)])) (hgf : Fr (fun b => rowBlk (.slice Ac j cc) = some b) WR w3) (hor : rowBlk (.slice Ac j cc) = some g' ∨ g' = WR.heap.size) (hcap : j + 1 ≤ cap') =>
    (show (∃ m', McS ⟨w, l, bl, p, look, w.heap.size + 1⟩ n ⟨s.status, s.frames.take (j + 1), s.heap, s.outs, s.back⟩ m' (w3.setCell ⟨w.heap.size + 1, 3, none⟩ (.slice (some ⟨g', 0, none⟩) (j + 1) cap'))) ∧ Fr No w (w3.setCell ⟨w.heap.size + 1, 3, none⟩ (.slice (some ⟨g', 0, none⟩) (j + 1) cap')) from by
     have h9 := hMR.newCall E hCR hkn hnd (g' := g') (cap' := cap') (w1 := w3) (by dsimp only; rw [hlj, hkc]; exact hrow) (by rw [hvc.out]; exact hgf) (by rw [hvc.out]; exact hor) (by dsimp only; rw [hlj]; exact hcap)
     dsimp only at h9
     rw [hlj, ← htk.out] at h9
     obtain ⟨m', h91, _, h93⟩ := h9
     exact ⟨⟨m', h91⟩, ((hfrr.trans0 hfrE).trans0 hWR).trans h93 (fun b hb e => by have := hMR.new b e; dsimp only at this; omega)⟩)
   obtain ⟨j0, hj0, hk0, hk1, hk2⟩ := info_parts info_ptrM
   replace hj0 := Lib.hid hj0
   replace hk0 := Lib.hid hk0
   replace hk1 := Lib.hid hk1
   replace hk2 := Lib.hid hk2
   replace hfin := Lib.hid hfin
   replace hmth := Lib.hid hmth
   have hadd : IntKind.i64.wrap ((j : Int) + 1) = ((j + 1 : Nat) : Int) := by rw [IntWalk.i64_in _ (by omega)]; simp
   clear hkc hCR hkB hkn hnd hkR21 hbR21 htR21 hqR21 ht2R21 hn2R21 hMR
   go_wp2_with (at_builtin; (refine wpList_append_row _ rfl _ _ 79 rfl tPtr j0 (.pointer none) 1 8 Tryz.underlying79 hj0.out hk0.out hk1.out hk2.out rfl (by decide) (.slice Ac j cc) j (m.kc.flatMap (calL ⟨w, l, bl, p, look, w.heap.size + 1⟩).C) rfl hrowR ⟨kR21, 0, none⟩ 1 1 [Value.pointer (some ⟨gR21, 0, none⟩)] rfl rfl hsrcP.out (by simp [Value.oneCell']) (by decide) (by unfold maxLen; omega) (by omega) ?_); (intro g2 cap2 w6 hrow6 hcap6 hgf6 hor6); have hbx := hboxR.keepX hgf6 (fun e => hneR _ e rfl); have hfi := Lib.hid (hfin.out _ _ _ hrow6 hgf6 hor6 hcap6); have z3 : w6.cell? ⟨w.heap.size + 1, 3, none⟩ = some m.vc := hbx.cell 3; have zf := (fun i => hbx.frozen i); have zl := hbx.lt)
   exact ⟨⟨j + 1, by omega, by simp, hfi⟩, by simp [intOf]; omega⟩
  ·obtain rfl : j = s.frames.length := by omega
   rw [List.take_length] at hM
   go_wp2_with fail
   refine bodyPost_ret (v := .pointer (some ⟨w.heap.size + 1, 0, none⟩)) (by simp [results, Tryz.results25, go_sem, *]) rfl ?_
   exact ⟨rfl, ⟨m, hM⟩, hfrr⟩
end Go.Proofs.YtbalicnnlfennaaGreat
