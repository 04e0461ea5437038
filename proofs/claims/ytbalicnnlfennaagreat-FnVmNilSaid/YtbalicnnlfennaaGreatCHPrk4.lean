/- FnVmNil's runs: the plain law. No program is named here. -/
import Derived.Test.YtbalicnnlfennaaGreatCHPrk3
namespace Go.Proofs.YtbalicnnlfennaaGreat
open Go.RowKit

def nilMaps : List Mp := [⟨5, selfT, []⟩]
def nilTail : List Ins := [insP 12 5, insN 1, insP 10 0, insP 2 1, insP 10 0]
def nilCode (i : Ins) : List Ins := insC 6 sCell :: i :: nilTail
def insG : Ins := ⟨7, 0, sCell, sNext⟩
theorem insB_g : insB insG = true := by
 unfold insB insG
 rw [if_neg (by decide), if_neg (by decide), if_pos (by decide)]
 rfl
theorem nilTail_at : nilTail.all (insAt 3 7) = true := by
 have h1 : insAt 3 7 (insP 12 5) = true := insAt_of (insB_n (by decide) (by decide) (by decide)) (by decide)
 have h2 : insAt 3 7 (insN 1) = true := insAt_of (insB_num (by decide)) rfl
 have h3 : insAt 3 7 (insP 10 0) = true := insAt_of (insB_p (by decide) (by decide) (by decide) (by decide)) (by decide)
 have h4 : insAt 3 7 (insP 2 1) = true := insAt_of (insB_n (by decide) (by decide) (by decide)) (by decide)
 simp only [nilTail, List.all_cons, List.all_nil, h1, h2, h3, h4]
 rfl
theorem nilCode_lod {i : Ins} (hi : insAt 3 7 i = true) : lodB (mainP [cellC] (nilCode i) nilMaps) = true := by
 refine nil_lod _ _ ?_ ?_
 ·unfold codeB
  show (true && true && (nilCode i).all (insAt 3 7)) = true
  have h1 : insAt 3 7 (insC 6 sCell) = true := insAt_of (insB_c (by decide) (by decide) (by decide)) (by simp [insC])
  simp only [nilCode, List.all_cons, h1, hi, nilTail_at]
  rfl
 ·unfold mapsB
  show (true && (mapAt1 7 3 3 0 ⟨5, selfT, []⟩ && true)) = true
  rw [mapAt1_yes (by decide) (by decide) rfl (by decide) selfT_ok rfl]
  rfl
theorem get_at : insAt 3 7 insG = true := insAt_of insB_g (by simp [insG])
theorem castC_at : insAt 3 7 (insC 15 sCell) = true := insAt_of (insB_c (by decide) (by decide) (by decide)) (by simp [insC])
abbrev fieldP : Plan := mainP [cellC] (nilCode insG) nilMaps
abbrev thingP : Plan := mainP [cellC] (nilCode (insC 15 sCell)) nilMaps
theorem field_right : rightM fieldP ⟨⟨0, sMain⟩, 0⟩ = true := by
 unfold rightM
 rw [n_mth]
 have hg : getB fieldP 0 sCell sNext = _ := n_get (nilCode insG) nilMaps
 generalize fieldP = P at *
 simp [lookF, mainMth, nilCode, nilTail, insG, nilMaps, selfT, lookGo, meetF, mapF, suffF, eachF, insF, pushF, popF, popR, takeF, leadsF, goesOn, beginF, mayK_self, insN, insP, insC, tagOf, clsT, noT, numT, kndB_num, kndB_cell, hg]
theorem thing_right : rightM thingP ⟨⟨0, sMain⟩, 0⟩ = true := by
 unfold rightM
 rw [n_mth]
 generalize thingP = P at *
 simp [lookF, mainMth, nilCode, nilTail, nilMaps, selfT, lookGo, meetF, mapF, suffF, eachF, insF, pushF, popF, popR, takeF, leadsF, goesOn, beginF, mayK_self, insN, insP, insC, tagOf, clsT, noT, numT, kndB_num]
def heap2 : List Obj := [⟨⟨0, sMain⟩, []⟩, ⟨⟨0, sCell⟩, [⟨3, 0⟩]⟩]
def atN (pc : Int) (loc stk : List Val) : St := ⟨1, [⟨⟨⟨0, sMain⟩, 0⟩, pc, loc, stk⟩], heap2, [], noVal⟩
def doneN (n : Int) : St := ⟨2, [], heap2, [], ⟨1, n⟩⟩
section
variable (a : Int)
theorem nf_1 : stepM fieldP true (begT a) = atN 1 [⟨2, 0⟩, ⟨1, a⟩, noVal] [⟨2, 1⟩] := by
 simp [stepM, begT, n_mth, mainMth, nilCode, insM, insC, n_classC, newVals, n_layC, putM, nextM, jumpM, St.goes, St.withHeap, atN, heap2, nilTail]
theorem nf_2 : stepM fieldP true (atN 1 [⟨2, 0⟩, ⟨1, a⟩, noVal] [⟨2, 1⟩]) = atN 2 [⟨2, 0⟩, ⟨1, a⟩, noVal] [⟨3, 0⟩] := by
 simp [stepM, n_mth, mainMth, nilCode, insM, insG, n_get, popV, objM, underK, n_chainC, refIs, putM, nextM, jumpM, St.goes, atN, heap2, Cal.left, nilTail]
theorem nf_3 : stepM fieldP true (atN 2 [⟨2, 0⟩, ⟨1, a⟩, noVal] [⟨3, 0⟩]) = atN 5 [⟨2, 0⟩, ⟨1, a⟩, noVal] [] := by
 simp [stepM, n_mth, mainMth, nilCode, insM, insP, popV, jumpM, St.goes, atN, Cal.left, nilTail]
theorem nf_4 : stepM fieldP true (atN 5 [⟨2, 0⟩, ⟨1, a⟩, noVal] []) = atN 6 [⟨2, 0⟩, ⟨1, a⟩, noVal] [⟨1, a⟩] := by
 simp [stepM, n_mth, mainMth, nilCode, insM, insP, putM, nextM, jumpM, St.goes, atN, nilTail]
theorem nf_5 : stepM fieldP true (atN 6 [⟨2, 0⟩, ⟨1, a⟩, noVal] [⟨1, a⟩]) = doneN a := by
 simp [stepM, n_mth, mainMth, nilCode, insM, insP, popV, retM, hasB, St.ends, St.withBack, atN, doneN, nilTail]
theorem nt_1 : stepM thingP true (begT a) = atN 1 [⟨2, 0⟩, ⟨1, a⟩, noVal] [⟨2, 1⟩] := by
 simp [stepM, begT, n_mth, mainMth, nilCode, insM, insC, n_classC, newVals, n_layC, putM, nextM, jumpM, St.goes, St.withHeap, atN, heap2, nilTail]
theorem nt_2 : stepM thingP true (atN 1 [⟨2, 0⟩, ⟨1, a⟩, noVal] [⟨2, 1⟩]) = atN 2 [⟨2, 0⟩, ⟨1, a⟩, noVal] [⟨2, 1⟩] := by
 simp [stepM, n_mth, mainMth, nilCode, insM, insC, n_classC, popV, underK, n_chainC, refIs, putM, nextM, jumpM, St.goes, atN, heap2, Cal.left, nilTail]
theorem nt_3 : stepM thingP true (atN 2 [⟨2, 0⟩, ⟨1, a⟩, noVal] [⟨2, 1⟩]) = atN 3 [⟨2, 0⟩, ⟨1, a⟩, noVal] [] := by
 simp [stepM, n_mth, mainMth, nilCode, insM, insP, popV, nextM, jumpM, St.goes, atN, Cal.left, nilTail]
theorem nt_4 : stepM thingP true (atN 3 [⟨2, 0⟩, ⟨1, a⟩, noVal] []) = atN 4 [⟨2, 0⟩, ⟨1, a⟩, noVal] [⟨1, 1⟩] := by
 simp [stepM, n_mth, mainMth, nilCode, insM, insN, putM, nextM, jumpM, St.goes, atN, nilTail]
theorem nt_5 : stepM thingP true (atN 4 [⟨2, 0⟩, ⟨1, a⟩, noVal] [⟨1, 1⟩]) = doneN 1 := by
 simp [stepM, n_mth, mainMth, nilCode, insM, insP, popV, retM, hasB, St.ends, St.withBack, atN, doneN, nilTail]
theorem field_run : runM fieldP true 400 (begT a) = doneN a := by
 rw [runM_go rfl (nf_1 a), runM_go rfl (nf_2 a), runM_go rfl (nf_3 a), runM_go rfl (nf_4 a), runM_go rfl (nf_5 a), runM_idle (show (2 : Int) ≠ 1 by decide)]
theorem thing_run : runM thingP true 400 (begT a) = doneN 1 := by
 rw [runM_go rfl (nt_1 a), runM_go rfl (nt_2 a), runM_go rfl (nt_3 a), runM_go rfl (nt_4 a), runM_go rfl (nt_5 a), runM_idle (show (2 : Int) ≠ 1 by decide)]
end
theorem n_one {code : List Ins} {maps : List Mp} (hp : lodB (mainP [cellC] code maps) = true) (h : List Obj) (pc : Nat) (loc stk : List Val) (i : Ins) (hi : code[pc]? = some i) (hop : opsL.contains i.op = true) (hpc : pc < 1000) (hst : stk.length ≤ 100)
  (hloc : i.op = 2 ∨ i.op = 3 → ∃ a : Nat, i.a = a ∧ a < loc.length ∧ a < 100) (hnum : ∀ v ∈ stk, v.kind = 1 → numB v.n = true) (href : ∀ v ∈ stk, v.kind = 2 → ∃ j : Nat, v.n = j ∧ j < h.length) (hh : h.length ≤ 12)
  (hgot : i.op = 7 → ∀ v r, popV stk = some (v, r) → objM (mainP [cellC] code maps) h v (getB (mainP [cellC] code maps) 0 i.name i.member).1.of_ = 1 → ∃ a : Nat, (getB (mainP [cellC] code maps) 0 i.name i.member).1.at_ = a ∧ a < (h.getD v.n.toNat noObj).fields.length ∧ (h.getD v.n.toNat noObj).fields.length ≤ 1000) :
  OneOk (mainP [cellC] code maps) ⟨1, [⟨⟨⟨0, sMain⟩, 0⟩, pc, loc, stk⟩], h, [], noVal⟩ := by
 obtain ⟨hlt, hie⟩ := List.getElem?_eq_some_iff.1 hi
 have hg : (mthOf (mainP [cellC] code maps) ⟨⟨0, sMain⟩, 0⟩).code.getD (pc : Int).toNat noIns = i := by
  rw [n_mth]
  show code.getD pc noIns = i
  simp [List.getD, hi]
 have hl : (pc : Int) < (mthOf (mainP [cellC] code maps) ⟨⟨0, sMain⟩, 0⟩).code.length := by
  rw [n_mth]
  show (pc : Int) < (code.length : Int)
  omega
 refine ⟨⟨⟨⟨0, sMain⟩, 0⟩, pc, loc, stk⟩, rfl, ?_⟩
 dsimp only
 rw [hg]
 exact ⟨hop, hst, by dsimp only; omega, ⟨hl, by dsimp only; omega⟩, hloc, hnum, href, hh, by simp, fun r _ => lay_le hp r, hgot⟩
section
variable {a : Int} (ha : numB a = true)
include ha
theorem fieldRun_ok : RunOk fieldP true (begT a) 400 := by
 have hp : lodB fieldP = true := nilCode_lod get_at
 have o1 : OneOk fieldP (begT a) := n_one hp _ 0 _ _ (insC 6 sCell) rfl rfl (by omega) (by simp) (by simp [insC]) (by simp) (by simp) (by simp) (by simp [insC])
 have o2 : OneOk fieldP (atN 1 [⟨2, 0⟩, ⟨1, a⟩, noVal] [⟨2, 1⟩]) := n_one hp heap2 1 _ _ insG rfl rfl (by omega) (by simp) (by simp [insG]) (by simp) (by simp [heap2]; exact ⟨1, rfl, by omega⟩) (by simp [heap2]) (fun _ v r hv _ => by
  have e : v = ⟨2, 1⟩ := by simp [popV] at hv; exact hv.1.symm
  subst e
  refine ⟨0, ?_, ?_, ?_⟩
  ·show (getB fieldP 0 sCell sNext).1.at_ = 0
   rw [n_get]
  ·simp [heap2]
  ·simp [heap2])
 have o3 : OneOk fieldP (atN 2 [⟨2, 0⟩, ⟨1, a⟩, noVal] [⟨3, 0⟩]) := n_one hp heap2 2 _ _ (insP 12 5) rfl rfl (by omega) (by simp) (by simp [insP]) (by simp) (by simp) (by simp [heap2]) (by simp [insP])
 have o4 : OneOk fieldP (atN 5 [⟨2, 0⟩, ⟨1, a⟩, noVal] []) := n_one hp heap2 5 _ _ (insP 2 1) rfl rfl (by omega) (by simp) (fun _ => ⟨1, rfl, by simp, by omega⟩) (by simp) (by simp) (by simp [heap2]) (by simp [insP])
 have o5 : OneOk fieldP (atN 6 [⟨2, 0⟩, ⟨1, a⟩, noVal] [⟨1, a⟩]) := n_one hp heap2 6 _ _ (insP 10 0) rfl rfl (by omega) (by simp) (by simp [insP]) (num1 ha) (by simp) (by simp [heap2]) (by simp [insP])
 exact RunOk.go rfl (nf_1 a) o1 (RunOk.go rfl (nf_2 a) o2 (RunOk.go rfl (nf_3 a) o3 (RunOk.go rfl (nf_4 a) o4 (RunOk.go rfl (nf_5 a) o5 (RunOk.idle (show (2 : Int) ≠ 1 by decide))))))
end
section
variable {a : Int}
theorem thingRun_ok : RunOk thingP true (begT a) 400 := by
 have hp : lodB thingP = true := nilCode_lod castC_at
 have o1 : OneOk thingP (begT a) := n_one hp _ 0 _ _ (insC 6 sCell) rfl rfl (by omega) (by simp) (by simp [insC]) (by simp) (by simp) (by simp) (by simp [insC])
 have o2 : OneOk thingP (atN 1 [⟨2, 0⟩, ⟨1, a⟩, noVal] [⟨2, 1⟩]) := n_one hp heap2 1 _ _ (insC 15 sCell) rfl rfl (by omega) (by simp) (by simp [insC]) (by simp) (by simp [heap2]; exact ⟨1, rfl, by omega⟩) (by simp [heap2]) (by simp [insC])
 have o3 : OneOk thingP (atN 2 [⟨2, 0⟩, ⟨1, a⟩, noVal] [⟨2, 1⟩]) := n_one hp heap2 2 _ _ (insP 12 5) rfl rfl (by omega) (by simp) (by simp [insP]) (by simp) (by simp [heap2]; exact ⟨1, rfl, by omega⟩) (by simp [heap2]) (by simp [insP])
 have o4 : OneOk thingP (atN 3 [⟨2, 0⟩, ⟨1, a⟩, noVal] []) := n_one hp heap2 3 _ _ (insN 1) rfl rfl (by omega) (by simp) (by simp [insN]) (by simp) (by simp) (by simp [heap2]) (by simp [insN])
 have o5 : OneOk thingP (atN 4 [⟨2, 0⟩, ⟨1, a⟩, noVal] [⟨1, 1⟩]) := n_one hp heap2 4 _ _ (insP 10 0) rfl rfl (by omega) (by simp) (by simp [insP]) (num1 (by decide)) (by simp) (by simp [heap2]) (by simp [insP])
 exact RunOk.go rfl (nt_1 a) o1 (RunOk.go rfl (nt_2 a) o2 (RunOk.go rfl (nt_3 a) o3 (RunOk.go rfl (nt_4 a) o4 (RunOk.go rfl (nt_5 a) o5 (RunOk.idle (show (2 : Int) ≠ 1 by decide))))))
end
theorem SmS_doneN (n : Int) : SmS (doneN n) := ⟨by simp [doneN, heap2], by simp [doneN, heap2], by simp [doneN], by simp [doneN], by simp [doneN]⟩
theorem gives_doneN (n : Int) : givesB (doneN n) n = true := by simp [givesB, doneN]
theorem n_go {code : List Ins} {maps : List Mp} {n : Int} (hl : lodB (mainP [cellC] code maps) = true) (h1 : 0 < code.length) (hn : numB n = true) (hr : RunOk (mainP [cellC] code maps) true (begT n) 400) (hs : SmS (runM (mainP [cellC] code maps) true 400 (begT n))) : GoOk (mainP [cellC] code maps) (begT n) where
 lod := hl
 ok := n_stB h1 hn
 wfh := by simp [begT]; decide
 wff := by simp [begT]; decide
 stk := by simp [begT]
 small := SmS_beg n
 run := hr
 smallR := hs
theorem field_go {a : Int} (ha : numB a = true) : GoOk fieldP (begT a) := n_go (nilCode_lod get_at) (by simp [nilCode]) ha (fieldRun_ok ha) (by rw [field_run]; exact SmS_doneN _)
theorem thing_go {a : Int} (ha : numB a = true) : GoOk thingP (begT a) := n_go (nilCode_lod castC_at) (by simp [nilCode]) ha thingRun_ok (by rw [thing_run]; exact SmS_doneN _)
end Go.Proofs.YtbalicnnlfennaaGreat
