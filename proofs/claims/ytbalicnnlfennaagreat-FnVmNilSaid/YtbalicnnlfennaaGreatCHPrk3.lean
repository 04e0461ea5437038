/- FnVmAdd's plan: the plain law. No program is named here. -/
import Derived.Test.YtbalicnnlfennaaGreatCHPrk1
namespace Go.Proofs.YtbalicnnlfennaaGreat
open Go.RowKit

theorem num1 {x : Int} (hx : numB x = true) : ∀ v ∈ [(⟨1, x⟩ : Val)], v.kind = 1 → numB v.n = true := fun v hv _ => by rw [List.mem_singleton.1 hv]; exact hx
end Go.Proofs.YtbalicnnlfennaaGreat

namespace Go.Proofs.YtbalicnnlfennaaGreat
open Go.RowKit

def selfT : List Tag := [clsT sMain, numT, noT]
theorem selfT_ok : selfT.all tagB = true := by
 have h1 : tagB (clsT sMain) = true := by decide
 have h2 : tagB numT = true := by unfold tagB numT; rw [if_pos (by rfl)]; exact noS_e
 have h3 : tagB noT = true := by unfold tagB noT; rw [if_pos (by rfl)]; exact noS_e
 simp only [selfT, List.all_cons, List.all_nil, h1, h2, h3]
 rfl
section
variable (n : Int)
end
end Go.Proofs.YtbalicnnlfennaaGreat

namespace Go.Proofs.YtbalicnnlfennaaGreat
open Go.RowKit

def insC (o : Int) (s : Str) : Ins := ⟨o, 0, s, noS⟩
theorem insB_c {o : Int} {s : Str} (h : opCls o = true) (h1 : opNum o = false) (hs : namB s = true) : insB (insC o s) = true := by
 unfold insB insC
 rw [if_neg (by rw [h1]; decide), if_pos h]
 simp only [noS_e, hs]
 rfl
section
variable (code : List Ins) (maps : List Mp)
end
section
variable {a : Int} (ha : numB a = true)
include ha
end
section
variable (a : Int)
end
section
variable {a : Int} (ha : numB a = true)
include ha
end
end Go.Proofs.YtbalicnnlfennaaGreat

namespace Go.Proofs.YtbalicnnlfennaaGreat
open Go.RowKit

def sCell : Str := ⟨#[99, 101, 108, 108]⟩
def sNext : Str := ⟨#[110, 101, 120, 116]⟩
def cellC : Cls := ⟨sCell, noS, [⟨sNext, ⟨2, sCell⟩⟩], []⟩
theorem cell_ne : ¬ sCell = sMain := fun h => absurd (congrArg (fun s : Str => s.data.toList) h) (by decide)
theorem cellC_f : cellC.fields = [⟨sNext, ⟨2, sCell⟩⟩] := rfl
theorem kndB_cell : kndB ⟨2, sCell⟩ = true := rfl
theorem clsB_cell : clsB cellC = true := by
 unfold clsB
 have h : fldsGo [] cellC.fields = true := by
  show fldsGo [] [⟨sNext, ⟨2, sCell⟩⟩] = true
  unfold fldsGo
  rw [kndB_cell]
  rfl
 rw [h]
 unfold cellC
 simp only [noS_e]
 rfl
theorem cell_not : clsIs sMain cellC = false := by
 rw [← Bool.not_eq_true, clsIs_iff]
 exact cell_ne
section
variable (code : List Ins) (maps : List Mp)
theorem nil_lod (h : codeB (mainMth code maps) = true) (h2 : mapsB (mainMth code maps) = true) : lodB (mainP [cellC] code maps) = true := by
 have hm : mthB (mainMth code maps) = true := by
  unfold mthB
  rw [h, h2]
  unfold mainMth
  simp only [List.all_cons, List.all_nil, kndB_num]
  rfl
 have hc : clsB (mainCls code maps) = true := by
  unfold clsB
  have : mthsGo [] (mainCls code maps).methods = true := by
   show mthsGo [] [mainMth code maps] = true
   unfold mthsGo
   rw [hm]
   rfl
  rw [this]
  unfold mainCls
  simp only [noS_e]
  rfl
 have ho : ownsGo [] [cellC, mainCls code maps] = true := by
  unfold ownsGo
  rw [clsB_cell]
  unfold ownsGo
  rw [hc]
  show (true && true && (true && (!clsIs sMain cellC && true) && true)) = true
  rw [cell_not]
  rfl
 show (true && true && ((true && true && ownsGo [] [cellC, mainCls code maps] && true) && true)) = true
 rw [ho]
 rfl
theorem n_own : ownIx (mainP [cellC] code maps) 0 sMain = 1 := by
 show ixOf (clsIs sMain) [cellC, mainCls code maps] = 1
 simp [ixOf, cell_not, clsIs_self sMain (mainCls code maps) rfl, List.findIdx_cons]
theorem n_ownC : ownIx (mainP [cellC] code maps) 0 sCell = 0 := by
 show ixOf (clsIs sCell) [cellC, mainCls code maps] = 0
 simp [ixOf, clsIs_self sCell cellC rfl, List.findIdx_cons]
theorem n_clsAt : clsAt (mainP [cellC] code maps) ⟨0, sMain⟩ = mainCls code maps := by
 unfold clsAt
 rw [n_own]
 rfl
theorem n_clsAtC : clsAt (mainP [cellC] code maps) ⟨0, sCell⟩ = cellC := by
 unfold clsAt
 rw [n_ownC]
 rfl
theorem n_up : chainOf (mainP [cellC] code maps) ⟨0, sMain⟩ = some [⟨0, sMain⟩] := by
 unfold chainOf upGo
 rw [n_clsAt, if_pos (show (mainCls code maps).super.toList.isEmpty = true from noS_e)]
theorem n_upC : chainOf (mainP [cellC] code maps) ⟨0, sCell⟩ = some [⟨0, sCell⟩] := by
 unfold chainOf upGo
 rw [n_clsAtC, if_pos (show cellC.super.toList.isEmpty = true from noS_e)]
theorem n_find : findK (mainP [cellC] code maps) 0 sMain = (⟨0, sMain⟩, 1) := by
 have h : whose (mainP [cellC] code maps) 0 sMain = (⟨0, sMain⟩, 1) := by
  unfold whose whoseGo
  rw [if_pos (show askTo (mainP [cellC] code maps) 0 sMain < 0 from (by decide : (-1 : Int) < 0)), n_own, if_neg (by decide)]
 unfold findK whoseK
 rw [if_pos (show hasK (mainP [cellC] code maps) 0 = true from rfl), h]
 simp only [if_true, n_up]
 rfl
theorem n_findC : findK (mainP [cellC] code maps) 0 sCell = (⟨0, sCell⟩, 1) := by
 have h : whose (mainP [cellC] code maps) 0 sCell = (⟨0, sCell⟩, 1) := by
  unfold whose whoseGo
  rw [if_pos (show askTo (mainP [cellC] code maps) 0 sCell < 0 from (by decide : (-1 : Int) < 0)), n_ownC, if_neg (by decide)]
 unfold findK whoseK
 rw [if_pos (show hasK (mainP [cellC] code maps) 0 = true from rfl), h]
 simp only [if_true, n_upC]
 rfl
theorem n_chain : chainK (mainP [cellC] code maps) ⟨0, sMain⟩ = [⟨0, sMain⟩] := by
 unfold chainK
 rw [n_find, n_up]
 rfl
theorem n_chainC : chainK (mainP [cellC] code maps) ⟨0, sCell⟩ = [⟨0, sCell⟩] := by
 unfold chainK
 rw [n_findC, n_upC]
 rfl
theorem n_can : canB (mainP [cellC] code maps) ⟨0, sMain⟩ = true := by
 unfold canB
 rw [n_chain]
 rfl
theorem n_canC : canB (mainP [cellC] code maps) ⟨0, sCell⟩ = true := by
 unfold canB
 rw [n_chainC]
 rfl
theorem n_class : classM (mainP [cellC] code maps) 0 sMain = some ⟨0, sMain⟩ := by
 unfold classM
 rw [n_find, if_pos rfl, n_can, if_pos rfl]
theorem n_classC : classM (mainP [cellC] code maps) 0 sCell = some ⟨0, sCell⟩ := by
 unfold classM
 rw [n_findC, if_pos rfl, n_canC, if_pos rfl]
theorem n_pick : pickB (mainP [cellC] code maps) ⟨0, sMain⟩ sRun = some (⟨0, sMain⟩, 0) := by
 unfold pickB
 rw [n_can, if_pos rfl, n_chain]
 unfold pickGo
 rw [n_clsAt]
 have h : ixOf (mthIs sRun) (mainCls code maps).methods = 0 := by
  show ixOf (mthIs sRun) [mainMth code maps] = 0
  have : mthIs sRun (mainMth code maps) = true := by simp [mthIs, mainMth]
  simp [ixOf, this, List.findIdx_cons]
 rw [h, if_neg (by decide)]
theorem n_lay : layB (mainP [cellC] code maps) ⟨0, sMain⟩ = [] := by
 simp [layB, layK, layL, n_chain, n_can, fldsOf, n_clsAt, mainCls, layGo]
theorem n_layC : layB (mainP [cellC] code maps) ⟨0, sCell⟩ = [⟨⟨0, sCell⟩, 0, ⟨2, sCell⟩⟩] := by
 simp [layB, layK, layL, n_chainC, n_canC, fldsOf, n_clsAtC, cellC_f, layGo]
theorem n_get : getB (mainP [cellC] code maps) 0 sCell sNext = (⟨⟨0, sCell⟩, 0, ⟨2, sCell⟩⟩, 1) := by
 unfold getB linkB classB
 rw [if_pos (show namB sNext = true from by decide), n_findC]
 simp only [if_true, n_canC]
 unfold getG
 simp [n_chainC, fldsOf, n_clsAtC, cellC_f, getGo, agreeK, n_findC]
theorem n_call : callB (mainP [cellC] code maps) 0 sMain sRun = ((⟨0, sMain⟩, 0), 1) := by
 unfold callB linkB classB
 rw [if_pos (show namB sRun = true from by decide), n_find]
 simp only [if_true, n_can]
 unfold callG
 simp only [if_true, n_pick, n_clsAt]
 have h : agreeM (mainP [cellC] code maps) 0 0 ((mainCls code maps).methods.getD (0 : Int).toNat zeroMth) = true := by
  show agreeM (mainP [cellC] code maps) 0 0 (mainMth code maps) = true
  simp [agreeM, mainMth, agreeK]
 rw [h]
 rfl
theorem n_start (n : Int) : startB (mthAt (mainP [cellC] code maps) (⟨0, sMain⟩, 0)) [n] = true := by
 unfold mthAt
 rw [n_clsAt]
 rfl
theorem n_mth : mthOf (mainP [cellC] code maps) ⟨⟨0, sMain⟩, 0⟩ = mainMth code maps := by
 unfold mthOf
 rw [n_clsAt]
 rfl
theorem n_types (n : Int) : typesB (mainP [cellC] code maps) ⟨⟨0, sMain⟩, 0⟩ [⟨⟨0, sMain⟩, []⟩] [⟨2, 0⟩, ⟨1, n⟩] = true := by
 unfold typesB
 rw [n_mth]
 simp [mainMth, hasB, n_find, underK, n_chain, refIs]
theorem n_enter (n : Int) (h : rightM (mainP [cellC] code maps) ⟨⟨0, sMain⟩, 0⟩ = true) :
  enterM (mainP [cellC] code maps) true ⟨1, [], [⟨⟨0, sMain⟩, newVals (mainP [cellC] code maps) ⟨0, sMain⟩⟩], [], noVal⟩ [] ⟨⟨0, sMain⟩, 0⟩ [⟨2, 0⟩, ⟨1, n⟩] = begT n := by
 unfold enterM newVals
 rw [n_lay, h]
 simp only [List.map_nil, n_types]
 rw [n_mth]
 rfl
end
theorem n_do {code : List Ins} {maps : List Mp} {n : Int} (h1 : lodB (mainP [cellC] code maps) = true) (h : rightM (mainP [cellC] code maps) ⟨⟨0, sMain⟩, 0⟩ = true) (hn : numB n = true) (ho : OkOps code) : DoOk (mainP [cellC] code maps) n (begT n) where
 lod := h1
 has := rfl
 num := hn
 cls := ⟨⟨0, sMain⟩, n_class _ _, by rw [n_lay]; decide, by rw [n_call]; exact (n_enter _ _ _ h).symm⟩
 call := by rw [n_call]
 start := by rw [n_call]; exact n_start _ _ _
 small := SmS_beg n
 ops := by
  rw [n_call]
  have e : mthAt (mainP [cellC] code maps) (⟨0, sMain⟩, 0) = mainMth code maps := by unfold mthAt; rw [n_clsAt]; rfl
  show OkOps (mthAt (mainP [cellC] code maps) (⟨0, sMain⟩, 0)).code
  rw [e]
  exact ho
theorem n_stB {code : List Ins} {maps : List Mp} {n : Int} (h1 : 0 < code.length) (hn : numB n = true) : stB (mainP [cellC] code maps) (begT n) = true := by
 simp [stB, begT, frmB, hasMB, heapB, objB, n_can, n_clsAt, mainCls, n_mth, mainMth, valB, noVal, layK, layL, n_chain, fldsOf, layGo, hn, h1]
end Go.Proofs.YtbalicnnlfennaaGreat
