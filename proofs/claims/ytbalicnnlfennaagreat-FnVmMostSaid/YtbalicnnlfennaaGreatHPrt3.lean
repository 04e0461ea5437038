/- FnVmAdd's plan: the plain law. No program is named here. -/
import Derived.Test.YtbalicnnlfennaaGreatHPrt2
namespace Go.Proofs.YtbalicnnlfennaaGreat
open Go.RowKit

def addCode (a : Int) : List Ins := [insN a, insP 2 1, insP 4 0, insP 10 0]
theorem add_code {a : Int} (h : numB a = true) : codeB (mainMth (addCode a) []) = true := by
  unfold codeB
  show (true && true && [insN a, insP 2 1, insP 4 0, insP 10 0].all (insAt 3 4)) = true
  have h1 : insAt 3 4 (insN a) = true := insAt_of (insB_num h) rfl
  have h3 : insAt 3 4 (insP 2 1) = true := insAt_of (insB_n (by decide) (by decide) (by decide)) (by decide)
  have h4 : insAt 3 4 (insP 4 0) = true := insAt_of (insB_p (by decide) (by decide) (by decide) (by decide)) (by decide)
  have h5 : insAt 3 4 (insP 10 0) = true := insAt_of (insB_p (by decide) (by decide) (by decide) (by decide)) (by decide)
  simp only [List.all_cons, List.all_nil, h1, h3, h4, h5]
  rfl
theorem add_lod {a : Int} (h : numB a = true) : lodB (mainP [] (addCode a) []) = true := mainP_lod (add_code h) rfl
theorem add_right (a : Int) : rightM (mainP [] (addCode a) []) ⟨⟨0, sMain⟩, 0⟩ = true := by
  unfold rightM
  rw [p_mth]
  generalize mainP [] (addCode a) [] = P
  simp [lookF, mainMth, addCode, lookGo, meetF, mapF, insF, pushF, popF, takeF, leadsF, goesOn, beginF, mayK_self, insN, insP, tagOf, clsT, noT, numT, kndB_num]
theorem add_1 (a n : Int) : stepM (mainP [] (addCode a) []) true (begT n) = atT 1 [⟨2, 0⟩, ⟨1, n⟩, noVal] [⟨1, a⟩] := by
  simp [stepM, begT, p_mth, mainMth, addCode, insM, insN, putM, nextM, jumpM, St.goes, atT]
theorem add_2 (a n : Int) : stepM (mainP [] (addCode a) []) true (atT 1 [⟨2, 0⟩, ⟨1, n⟩, noVal] [⟨1, a⟩]) = atT 2 [⟨2, 0⟩, ⟨1, n⟩, noVal] [⟨1, a⟩, ⟨1, n⟩] := by
  simp [stepM, p_mth, mainMth, addCode, insM, insP, putM, nextM, jumpM, St.goes, atT]
theorem add_3 {a n : Int} (h : numB (a + n) = true) : stepM (mainP [] (addCode a) []) true (atT 2 [⟨2, 0⟩, ⟨1, n⟩, noVal] [⟨1, a⟩, ⟨1, n⟩]) = atT 3 [⟨2, 0⟩, ⟨1, n⟩, noVal] [⟨1, a + n⟩] := by
  simp [stepM, p_mth, mainMth, addCode, insM, insP, popsV, putM, nextM, jumpM, St.goes, atT, Cal.left, h]
theorem add_4 (a n : Int) : stepM (mainP [] (addCode a) []) true (atT 3 [⟨2, 0⟩, ⟨1, n⟩, noVal] [⟨1, a + n⟩]) = doneT (a + n) := by
  simp [stepM, p_mth, mainMth, addCode, insM, insP, popV, retM, hasB, St.ends, St.withBack, atT, doneT]
/-- It has ended so. -/
def endT (c : Int) : St := ⟨c, [], [⟨⟨0, sMain⟩, []⟩], [], noVal⟩
theorem add_big {a n : Int} (h : numB (a + n) = false) : stepM (mainP [] (addCode a) []) true (atT 2 [⟨2, 0⟩, ⟨1, n⟩, noVal] [⟨1, a⟩, ⟨1, n⟩]) = endT 9 := by
  simp [stepM, p_mth, mainMth, addCode, insM, insP, popsV, St.ends, atT, endT, h]
theorem add_run {a n : Int} (h : numB (a + n) = true) : runM (mainP [] (addCode a) []) true 400 (begT n) = doneT (a + n) := by
  rw [runM_go rfl (add_1 a n), runM_go rfl (add_2 a n), runM_go rfl (add_3 h), runM_go rfl (add_4 a n), runM_idle (show (2 : Int) ≠ 1 by decide)]
theorem add_runBig {a n : Int} (h : numB (a + n) = false) : runM (mainP [] (addCode a) []) true 400 (begT n) = endT 9 := by
  rw [runM_go rfl (add_1 a n), runM_go rfl (add_2 a n), runM_go rfl (add_big h), runM_idle (show (9 : Int) ≠ 1 by decide)]
theorem num1 {x : Int} (hx : numB x = true) : ∀ v ∈ [(⟨1, x⟩ : Val)], v.kind = 1 → numB v.n = true := fun v hv _ => by rw [List.mem_singleton.1 hv]; exact hx
theorem ref1 (x : Int) : ∀ v ∈ [(⟨1, x⟩ : Val)], v.kind = 2 → v.n = 0 := fun v hv h => by rw [List.mem_singleton.1 hv] at h; cases h
theorem num2 {x y : Int} (hx : numB x = true) (hy : numB y = true) : ∀ v ∈ [(⟨1, x⟩ : Val), ⟨1, y⟩], v.kind = 1 → numB v.n = true := fun v hv _ => by
  rcases List.mem_cons.1 hv with rfl | h
  · exact hx
  · rw [List.mem_singleton.1 h]; exact hy
theorem ref2 (x y : Int) : ∀ v ∈ [(⟨1, x⟩ : Val), ⟨1, y⟩], v.kind = 2 → v.n = 0 := fun v hv h => by
  rcases List.mem_cons.1 hv with rfl | h9
  · cases h
  · rw [List.mem_singleton.1 h9] at h; cases h
theorem addRun_ok {a n : Int} (ha : numB a = true) (hn : numB n = true) : RunOk (mainP [] (addCode a) []) true (begT n) 400 := by
  have hp := add_lod ha
  have o1 : OneOk (mainP [] (addCode a) []) (begT n) := p_one hp 0 _ _ (insN a) rfl rfl (by simp [insN]) (by omega) (by simp) (by simp [insN]) (by simp) (by simp)
  have o2 : OneOk (mainP [] (addCode a) []) (atT 1 [⟨2, 0⟩, ⟨1, n⟩, noVal] [⟨1, a⟩]) := p_one hp 1 _ _ (insP 2 1) rfl rfl (by simp [insP]) (by omega) (by simp) (fun _ => ⟨1, rfl, by simp, by omega⟩) (num1 ha) (ref1 a)
  have o3 : OneOk (mainP [] (addCode a) []) (atT 2 [⟨2, 0⟩, ⟨1, n⟩, noVal] [⟨1, a⟩, ⟨1, n⟩]) := p_one hp 2 _ _ (insP 4 0) rfl rfl (by simp [insP]) (by omega) (by simp) (by simp [insP]) (num2 ha hn) (ref2 a n)
  cases hb : numB (a + n) with
  | true =>
    have o4 : OneOk (mainP [] (addCode a) []) (atT 3 [⟨2, 0⟩, ⟨1, n⟩, noVal] [⟨1, a + n⟩]) := p_one hp 3 _ _ (insP 10 0) rfl rfl (by simp [insP]) (by omega) (by simp) (by simp [insP]) (num1 hb) (ref1 _)
    exact RunOk.go rfl (add_1 a n) o1 (RunOk.go rfl (add_2 a n) o2 (RunOk.go rfl (add_3 hb) o3 (RunOk.go rfl (add_4 a n) o4 (RunOk.idle (show (2 : Int) ≠ 1 by decide)))))
  | false => exact RunOk.go rfl (add_1 a n) o1 (RunOk.go rfl (add_2 a n) o2 (RunOk.go rfl (add_big hb) o3 (RunOk.idle (show (9 : Int) ≠ 1 by decide))))
theorem p_go {code : List Ins} {maps : List Mp} {n : Int} (hl : lodB (mainP [] code maps) = true) (h1 : 0 < code.length) (hn : numB n = true) (hr : RunOk (mainP [] code maps) true (begT n) 400) (hs : SmS (runM (mainP [] code maps) true 400 (begT n))) : GoOk (mainP [] code maps) (begT n) where
  lod := hl
  ok := p_stB h1 hn
  wfh := by simp [begT]; decide
  wff := by simp [begT]; decide
  stk := by simp [begT]
  small := SmS_beg n
  run := hr
  smallR := hs
theorem SmS_done (n : Int) : SmS (doneT n) := ⟨by simp [doneT], by simp [doneT], by simp [doneT], by simp [doneT], by simp [doneT]⟩
theorem SmS_end (c : Int) : SmS (endT c) := ⟨by simp [endT], by simp [endT], by simp [endT], by simp [endT], by simp [endT, noVal]⟩
theorem gives_done (n : Int) : givesB (doneT n) n = true := by simp [givesB, doneT]
theorem add_go {a n : Int} (ha : numB a = true) (hn : numB n = true) : GoOk (mainP [] (addCode a) []) (begT n) := p_go (add_lod ha) (by simp [addCode]) hn (addRun_ok ha hn) (by
  cases hb : numB (a + n) with
  | true => rw [add_run hb]; exact SmS_done _
  | false => rw [add_runBig hb]; exact SmS_end _)
theorem add_gives {a n : Int} (h : numB (a + n) = true) : givesB (runM (mainP [] (addCode a) []) true 400 (begT n)) (a + n) = true := by
  rw [add_run h]; exact gives_done _
end Go.Proofs.YtbalicnnlfennaaGreat

/- FnVmZero's plan: the plain law. No program is named here. -/
namespace Go.Proofs.YtbalicnnlfennaaGreat
open Go.RowKit

def selfT : List Tag := [clsT sMain, numT, noT]
def zeroMaps : List Mp := [⟨4, selfT, []⟩]
def zeroCode : List Ins := [insP 2 1, insP 11 4, insN 5, insP 10 0, insN 6, insP 10 0]
theorem selfT_ok : selfT.all tagB = true := by
  have h1 : tagB (clsT sMain) = true := by decide
  have h2 : tagB numT = true := by unfold tagB numT; rw [if_pos (by rfl)]; exact noS_e
  have h3 : tagB noT = true := by unfold tagB noT; rw [if_pos (by rfl)]; exact noS_e
  simp only [selfT, List.all_cons, List.all_nil, h1, h2, h3]
  rfl
theorem zero_lod : lodB (mainP [] zeroCode zeroMaps) = true := by
  refine mainP_lod ?_ ?_
  · unfold codeB
    show (true && true && zeroCode.all (insAt 3 6)) = true
    have h1 : insAt 3 6 (insP 2 1) = true := insAt_of (insB_n (by decide) (by decide) (by decide)) (by decide)
    have h2 : insAt 3 6 (insP 11 4) = true := insAt_of (insB_n (by decide) (by decide) (by decide)) (by decide)
    have h3 : insAt 3 6 (insN 5) = true := insAt_of (insB_num (by decide)) rfl
    have h4 : insAt 3 6 (insP 10 0) = true := insAt_of (insB_p (by decide) (by decide) (by decide) (by decide)) (by decide)
    have h5 : insAt 3 6 (insN 6) = true := insAt_of (insB_num (by decide)) rfl
    simp only [zeroCode, List.all_cons, List.all_nil, h1, h2, h3, h4, h5]
    rfl
  · unfold mapsB
    show (true && (mapAt1 6 3 3 0 ⟨4, selfT, []⟩ && true)) = true
    rw [mapAt1_yes (by decide) (by decide) rfl (by decide) selfT_ok rfl]
    rfl
theorem zero_right : rightM (mainP [] zeroCode zeroMaps) ⟨⟨0, sMain⟩, 0⟩ = true := by
  unfold rightM
  rw [p_mth]
  generalize mainP [] zeroCode zeroMaps = P
  simp [lookF, mainMth, zeroCode, zeroMaps, selfT, lookGo, meetF, mapF, suffF, eachF, insF, pushF, popF, takeF, leadsF, goesOn, beginF, mayK_self, insN, insP, tagOf, clsT, noT, numT, kndB_num]
section
variable (n : Int)
theorem zero_1 : stepM (mainP [] zeroCode zeroMaps) true (begT n) = atT 1 [⟨2, 0⟩, ⟨1, n⟩, noVal] [⟨1, n⟩] := by
  simp [stepM, begT, p_mth, mainMth, zeroCode, insM, insN, insP, putM, nextM, jumpM, St.goes, atT]
theorem zero_2z : stepM (mainP [] zeroCode zeroMaps) true (atT 1 [⟨2, 0⟩, ⟨1, 0⟩, noVal] [⟨1, 0⟩]) = atT 4 [⟨2, 0⟩, ⟨1, 0⟩, noVal] [] := by
  simp [stepM, p_mth, mainMth, zeroCode, insM, insP, popV, jumpM, St.goes, atT, Cal.left]
theorem zero_2 (h : n ≠ 0) : stepM (mainP [] zeroCode zeroMaps) true (atT 1 [⟨2, 0⟩, ⟨1, n⟩, noVal] [⟨1, n⟩]) = atT 2 [⟨2, 0⟩, ⟨1, n⟩, noVal] [] := by
  simp [stepM, p_mth, mainMth, zeroCode, insM, insP, popV, nextM, jumpM, St.goes, atT, Cal.left, h]
theorem zero_3 : stepM (mainP [] zeroCode zeroMaps) true (atT 2 [⟨2, 0⟩, ⟨1, n⟩, noVal] []) = atT 3 [⟨2, 0⟩, ⟨1, n⟩, noVal] [⟨1, 5⟩] := by
  simp [stepM, p_mth, mainMth, zeroCode, insM, insN, putM, nextM, jumpM, St.goes, atT]
theorem zero_4 : stepM (mainP [] zeroCode zeroMaps) true (atT 3 [⟨2, 0⟩, ⟨1, n⟩, noVal] [⟨1, 5⟩]) = doneT 5 := by
  simp [stepM, p_mth, mainMth, zeroCode, insM, insP, popV, retM, hasB, St.ends, St.withBack, atT, doneT]
theorem zero_5 : stepM (mainP [] zeroCode zeroMaps) true (atT 4 [⟨2, 0⟩, ⟨1, n⟩, noVal] []) = atT 5 [⟨2, 0⟩, ⟨1, n⟩, noVal] [⟨1, 6⟩] := by
  simp [stepM, p_mth, mainMth, zeroCode, insM, insN, putM, nextM, jumpM, St.goes, atT]
theorem zero_6 : stepM (mainP [] zeroCode zeroMaps) true (atT 5 [⟨2, 0⟩, ⟨1, n⟩, noVal] [⟨1, 6⟩]) = doneT 6 := by
  simp [stepM, p_mth, mainMth, zeroCode, insM, insP, popV, retM, hasB, St.ends, St.withBack, atT, doneT]
end
theorem zero_run {n : Int} : runM (mainP [] zeroCode zeroMaps) true 400 (begT n) = doneT (if n = 0 then 6 else 5) := by
  by_cases h : n = 0
  · subst h
    rw [runM_go rfl (zero_1 0), runM_go rfl zero_2z, runM_go rfl (zero_5 0), runM_go rfl (zero_6 0), runM_idle (show (2 : Int) ≠ 1 by decide)]
    rfl
  · rw [runM_go rfl (zero_1 n), runM_go rfl (zero_2 n h), runM_go rfl (zero_3 n), runM_go rfl (zero_4 n), runM_idle (show (2 : Int) ≠ 1 by decide), if_neg h]
theorem zeroRun_ok {n : Int} (hn : numB n = true) : RunOk (mainP [] zeroCode zeroMaps) true (begT n) 400 := by
  have hp := zero_lod
  have o1 : ∀ n, OneOk (mainP [] zeroCode zeroMaps) (begT n) := fun n => p_one hp 0 _ _ (insP 2 1) rfl rfl (by simp [insP]) (by omega) (by simp) (fun _ => ⟨1, rfl, by simp, by omega⟩) (by simp) (by simp)
  have o2 : OneOk (mainP [] zeroCode zeroMaps) (atT 1 [⟨2, 0⟩, ⟨1, n⟩, noVal] [⟨1, n⟩]) := p_one hp 1 _ _ (insP 11 4) rfl rfl (by simp [insP]) (by omega) (by simp) (by simp [insP]) (num1 hn) (ref1 n)
  have o3 : OneOk (mainP [] zeroCode zeroMaps) (atT 2 [⟨2, 0⟩, ⟨1, n⟩, noVal] []) := p_one hp 2 _ _ (insN 5) rfl rfl (by simp [insN]) (by omega) (by simp) (by simp [insN]) (by simp) (by simp)
  have o4 : OneOk (mainP [] zeroCode zeroMaps) (atT 3 [⟨2, 0⟩, ⟨1, n⟩, noVal] [⟨1, 5⟩]) := p_one hp 3 _ _ (insP 10 0) rfl rfl (by simp [insP]) (by omega) (by simp) (by simp [insP]) (num1 (by decide)) (ref1 5)
  have o5 : OneOk (mainP [] zeroCode zeroMaps) (atT 4 [⟨2, 0⟩, ⟨1, n⟩, noVal] []) := p_one hp 4 _ _ (insN 6) rfl rfl (by simp [insN]) (by omega) (by simp) (by simp [insN]) (by simp) (by simp)
  have o6 : OneOk (mainP [] zeroCode zeroMaps) (atT 5 [⟨2, 0⟩, ⟨1, n⟩, noVal] [⟨1, 6⟩]) := p_one hp 5 _ _ (insP 10 0) rfl rfl (by simp [insP]) (by omega) (by simp) (by simp [insP]) (num1 (by decide)) (ref1 6)
  by_cases h : n = 0
  · subst h
    exact RunOk.go rfl (zero_1 0) (o1 0) (RunOk.go rfl zero_2z o2 (RunOk.go rfl (zero_5 0) o5 (RunOk.go rfl (zero_6 0) o6 (RunOk.idle (show (2 : Int) ≠ 1 by decide)))))
  · exact RunOk.go rfl (zero_1 n) (o1 n) (RunOk.go rfl (zero_2 n h) o2 (RunOk.go rfl (zero_3 n) o3 (RunOk.go rfl (zero_4 n) o4 (RunOk.idle (show (2 : Int) ≠ 1 by decide)))))
theorem zero_go {n : Int} (hn : numB n = true) : GoOk (mainP [] zeroCode zeroMaps) (begT n) := p_go zero_lod (by simp [zeroCode]) hn (zeroRun_ok hn) (by rw [zero_run]; exact SmS_done _)
theorem zero_gives (n : Int) : givesB (runM (mainP [] zeroCode zeroMaps) true 400 (begT n)) (if n = 0 then 6 else 5) = true := by
  rw [zero_run]; exact gives_done _
end Go.Proofs.YtbalicnnlfennaaGreat
