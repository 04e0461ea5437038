/- FnVmAdd's plan: the plain law. No program is named here. -/
import Derived.Test.YtbalicnnlfennaaGreatHPrj2
namespace Go.Proofs.YtbalicnnlfennaaGreat
open Go.RowKit

def addCode (a : Int) : List Ins := [insN a, insP 2 1, insP 4 0, insP 10 0]
theorem add_code {a : Int} (h : numB a = true) : codeB (mainMth (addCode a) []) = true := by
  unfold codeB
  show (true && true && [insN a, insP 2 1, insP 4 0, insP 10 0].all (insAt 3 4)) = true
  have h1 : insAt 3 4 (insN a) = true := insAt_of (insB_num h) rfl
  have h3 : insAt 3 4 (insP 2 1) = true := insAt_of (insB_n (by decide) (by decide) (by decide)) (by decide)
  have h4 : insAt 3 4 (insP 4 0) = true := insAt_of (insB_p (by decide) (by decide) (by decide) (by decide)) (by decide)
  have h5 : insAt 3 4 (insP 10 0) = true := insAt_of (insB_p (by decide) (by decide) (by decide) (by decide)) (by decide)
  simp only [List.all_cons, List.all_nil, h1, h3, h4, h5]
  rfl
theorem add_lod {a : Int} (h : numB a = true) : lodB (mainP [] (addCode a) []) = true := mainP_lod (add_code h) rfl
theorem add_right (a : Int) : rightM (mainP [] (addCode a) []) ⟨⟨0, sMain⟩, 0⟩ = true := by
  unfold rightM
  rw [p_mth]
  generalize mainP [] (addCode a) [] = P
  simp [lookF, mainMth, addCode, lookGo, meetF, mapF, insF, pushF, popF, takeF, leadsF, goesOn, beginF, mayK_self, insN, insP, tagOf, clsT, noT, numT, kndB_num]
theorem add_1 (a n : Int) : stepM (mainP [] (addCode a) []) true (begT n) = atT 1 [⟨2, 0⟩, ⟨1, n⟩, noVal] [⟨1, a⟩] := by
  simp [stepM, begT, p_mth, mainMth, addCode, insM, insN, putM, nextM, jumpM, St.goes, atT]
theorem add_2 (a n : Int) : stepM (mainP [] (addCode a) []) true (atT 1 [⟨2, 0⟩, ⟨1, n⟩, noVal] [⟨1, a⟩]) = atT 2 [⟨2, 0⟩, ⟨1, n⟩, noVal] [⟨1, a⟩, ⟨1, n⟩] := by
  simp [stepM, p_mth, mainMth, addCode, insM, insP, putM, nextM, jumpM, St.goes, atT]
theorem add_3 {a n : Int} (h : numB (a + n) = true) : stepM (mainP [] (addCode a) []) true (atT 2 [⟨2, 0⟩, ⟨1, n⟩, noVal] [⟨1, a⟩, ⟨1, n⟩]) = atT 3 [⟨2, 0⟩, ⟨1, n⟩, noVal] [⟨1, a + n⟩] := by
  simp [stepM, p_mth, mainMth, addCode, insM, insP, popsV, putM, nextM, jumpM, St.goes, atT, Cal.left, h]
theorem add_4 (a n : Int) : stepM (mainP [] (addCode a) []) true (atT 3 [⟨2, 0⟩, ⟨1, n⟩, noVal] [⟨1, a + n⟩]) = doneT (a + n) := by
  simp [stepM, p_mth, mainMth, addCode, insM, insP, popV, retM, hasB, St.ends, St.withBack, atT, doneT]
/-- It has ended so. -/
def endT (c : Int) : St := ⟨c, [], [⟨⟨0, sMain⟩, []⟩], [], noVal⟩
theorem add_big {a n : Int} (h : numB (a + n) = false) : stepM (mainP [] (addCode a) []) true (atT 2 [⟨2, 0⟩, ⟨1, n⟩, noVal] [⟨1, a⟩, ⟨1, n⟩]) = endT 9 := by
  simp [stepM, p_mth, mainMth, addCode, insM, insP, popsV, St.ends, atT, endT, h]
theorem add_run {a n : Int} (h : numB (a + n) = true) : runM (mainP [] (addCode a) []) true 400 (begT n) = doneT (a + n) := by
  rw [runM_go rfl (add_1 a n), runM_go rfl (add_2 a n), runM_go rfl (add_3 h), runM_go rfl (add_4 a n), runM_idle (show (2 : Int) ≠ 1 by decide)]
theorem add_runBig {a n : Int} (h : numB (a + n) = false) : runM (mainP [] (addCode a) []) true 400 (begT n) = endT 9 := by
  rw [runM_go rfl (add_1 a n), runM_go rfl (add_2 a n), runM_go rfl (add_big h), runM_idle (show (9 : Int) ≠ 1 by decide)]
theorem num1 {x : Int} (hx : numB x = true) : ∀ v ∈ [(⟨1, x⟩ : Val)], v.kind = 1 → numB v.n = true := fun v hv _ => by rw [List.mem_singleton.1 hv]; exact hx
theorem ref1 (x : Int) : ∀ v ∈ [(⟨1, x⟩ : Val)], v.kind = 2 → v.n = 0 := fun v hv h => by rw [List.mem_singleton.1 hv] at h; cases h
theorem num2 {x y : Int} (hx : numB x = true) (hy : numB y = true) : ∀ v ∈ [(⟨1, x⟩ : Val), ⟨1, y⟩], v.kind = 1 → numB v.n = true := fun v hv _ => by
  rcases List.mem_cons.1 hv with rfl | h
  · exact hx
  · rw [List.mem_singleton.1 h]; exact hy
theorem ref2 (x y : Int) : ∀ v ∈ [(⟨1, x⟩ : Val), ⟨1, y⟩], v.kind = 2 → v.n = 0 := fun v hv h => by
  rcases List.mem_cons.1 hv with rfl | h9
  · cases h
  · rw [List.mem_singleton.1 h9] at h; cases h
theorem addRun_ok {a n : Int} (ha : numB a = true) (hn : numB n = true) : RunOk (mainP [] (addCode a) []) true (begT n) 400 := by
  have hp := add_lod ha
  have o1 : OneOk (mainP [] (addCode a) []) (begT n) := p_one hp 0 _ _ (insN a) rfl rfl (by simp [insN]) (by omega) (by simp) (by simp [insN]) (by simp) (by simp)
  have o2 : OneOk (mainP [] (addCode a) []) (atT 1 [⟨2, 0⟩, ⟨1, n⟩, noVal] [⟨1, a⟩]) := p_one hp 1 _ _ (insP 2 1) rfl rfl (by simp [insP]) (by omega) (by simp) (fun _ => ⟨1, rfl, by simp, by omega⟩) (num1 ha) (ref1 a)
  have o3 : OneOk (mainP [] (addCode a) []) (atT 2 [⟨2, 0⟩, ⟨1, n⟩, noVal] [⟨1, a⟩, ⟨1, n⟩]) := p_one hp 2 _ _ (insP 4 0) rfl rfl (by simp [insP]) (by omega) (by simp) (by simp [insP]) (num2 ha hn) (ref2 a n)
  cases hb : numB (a + n) with
  | true =>
    have o4 : OneOk (mainP [] (addCode a) []) (atT 3 [⟨2, 0⟩, ⟨1, n⟩, noVal] [⟨1, a + n⟩]) := p_one hp 3 _ _ (insP 10 0) rfl rfl (by simp [insP]) (by omega) (by simp) (by simp [insP]) (num1 hb) (ref1 _)
    exact RunOk.go rfl (add_1 a n) o1 (RunOk.go rfl (add_2 a n) o2 (RunOk.go rfl (add_3 hb) o3 (RunOk.go rfl (add_4 a n) o4 (RunOk.idle (show (2 : Int) ≠ 1 by decide)))))
  | false => exact RunOk.go rfl (add_1 a n) o1 (RunOk.go rfl (add_2 a n) o2 (RunOk.go rfl (add_big hb) o3 (RunOk.idle (show (9 : Int) ≠ 1 by decide))))
theorem p_go {code : List Ins} {maps : List Mp} {n : Int} (hl : lodB (mainP [] code maps) = true) (h1 : 0 < code.length) (hn : numB n = true) (hr : RunOk (mainP [] code maps) true (begT n) 400) (hs : SmS (runM (mainP [] code maps) true 400 (begT n))) : GoOk (mainP [] code maps) (begT n) where
  lod := hl
  ok := p_stB h1 hn
  wfh := by simp [begT]; decide
  wff := by simp [begT]; decide
  stk := by simp [begT]
  small := SmS_beg n
  run := hr
  smallR := hs
theorem SmS_done (n : Int) : SmS (doneT n) := ⟨by simp [doneT], by simp [doneT], by simp [doneT], by simp [doneT], by simp [doneT]⟩
theorem SmS_end (c : Int) : SmS (endT c) := ⟨by simp [endT], by simp [endT], by simp [endT], by simp [endT], by simp [endT, noVal]⟩
theorem gives_done (n : Int) : givesB (doneT n) n = true := by simp [givesB, doneT]
theorem add_go {a n : Int} (ha : numB a = true) (hn : numB n = true) : GoOk (mainP [] (addCode a) []) (begT n) := p_go (add_lod ha) (by simp [addCode]) hn (addRun_ok ha hn) (by
  cases hb : numB (a + n) with
  | true => rw [add_run hb]; exact SmS_done _
  | false => rw [add_runBig hb]; exact SmS_end _)
theorem add_gives {a n : Int} (h : numB (a + n) = true) : givesB (runM (mainP [] (addCode a) []) true 400 (begT n)) (a + n) = true := by
  rw [add_run h]; exact gives_done _
end Go.Proofs.YtbalicnnlfennaaGreat
