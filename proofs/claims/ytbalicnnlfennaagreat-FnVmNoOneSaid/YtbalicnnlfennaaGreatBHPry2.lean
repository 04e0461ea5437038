/- What the laws' own plans are: the plain law, at FnVmPut's. No program is named here. -/
import Derived.Test.YtbalicnnlfennaaGreatBG46
namespace Go.Proofs.YtbalicnnlfennaaGreat
open Go.RowKit

theorem noS_e : noS.toList.isEmpty = true := by
  unfold noS ByteArray.toList
  rw [ByteArray.toList.loop]
  rfl
theorem kndB_num : kndB ⟨1, noS⟩ = true := by
  unfold kndB
  rw [noS_e]
  rfl
theorem mainP_lod {code : List Ins} {maps : List Mp} (h : codeB (mainMth code maps) = true) (h2 : mapsB (mainMth code maps) = true) : lodB (mainP [] code maps) = true := by
  have hm : mthB (mainMth code maps) = true := by
    unfold mthB
    rw [h, h2]
    unfold mainMth
    simp only [List.all_cons, List.all_nil, kndB_num]
    rfl
  have hc : clsB (mainCls code maps) = true := by
    unfold clsB
    have : mthsGo [] (mainCls code maps).methods = true := by
      show mthsGo [] [mainMth code maps] = true
      unfold mthsGo
      rw [hm]
      rfl
    rw [this]
    unfold mainCls
    simp only [noS_e]
    rfl
  unfold lodB mainP kprB
  simp only [List.nil_append, List.all_cons, List.all_nil]
  unfold ownsGo
  rw [hc]
  rfl
def insN (a : Int) : Ins := ⟨1, a, noS, noS⟩
def insP (o a : Int) : Ins := ⟨o, a, noS, noS⟩
theorem insB_num {a : Int} (h : numB a = true) : insB (insN a) = true := by
  unfold numB at h
  unfold insB insN
  rw [if_pos (by rfl)]
  simp only [noS_e]
  show (decide ((-9999 : Int) ≤ a) && decide (a ≤ 9999) && true && true) = true
  rw [h]
  rfl
theorem insB_n {o a : Int} (h : opNum o = true) (h1 : numLo o ≤ a) (h2 : a ≤ numHi o) : insB (insP o a) = true := by
  unfold insB insP
  rw [if_pos h]
  simp only [noS_e, decide_eq_true h1, decide_eq_true h2]
  rfl
theorem insB_p {o : Int} (h : opPln o = true) (h1 : opNum o = false) (h2 : opCls o = false) (h3 : opMem o = false) : insB (insP o 0) = true := by
  unfold insB insP
  rw [if_neg (by rw [h1]; decide), if_neg (by rw [h2]; decide), if_neg (by rw [h3]; decide)]
  simp only [noS_e, h]
  rfl
theorem insAt_of {l n : Int} {i : Ins} (h : insB i = true) (h1 : (if i.op == 2 || i.op == 3 then decide (i.a < l) else if i.op == 11 || i.op == 12 || i.op == 13 then decide (i.a < n) else true) = true) : insAt l n i = true := by
  unfold insAt
  rw [h, h1]
  rfl
theorem clsIs_self (s : Str) (c : Cls) (h : c.name = s) : clsIs s c = true := by simp [clsIs, h]
theorem p_own (code : List Ins) (maps : List Mp) : ownIx (mainP [] code maps) 0 sMain = 0 := by
  show ixOf (clsIs sMain) [mainCls code maps] = 0
  simp [ixOf, clsIs_self sMain (mainCls code maps) rfl, List.findIdx_cons]
theorem p_clsAt (code : List Ins) (maps : List Mp) : clsAt (mainP [] code maps) ⟨0, sMain⟩ = mainCls code maps := by
  unfold clsAt
  rw [p_own]
  rfl
theorem p_whose (code : List Ins) (maps : List Mp) : whose (mainP [] code maps) 0 sMain = (⟨0, sMain⟩, 1) := by
  unfold whose whoseGo
  rw [if_pos (show askTo (mainP [] code maps) 0 sMain < 0 from (by decide : (-1 : Int) < 0)), p_own, if_neg (by decide)]
theorem p_up (code : List Ins) (maps : List Mp) : chainOf (mainP [] code maps) ⟨0, sMain⟩ = some [⟨0, sMain⟩] := by
  unfold chainOf upGo
  rw [p_clsAt, if_pos (show (mainCls code maps).super.toList.isEmpty = true from noS_e)]
theorem p_find (code : List Ins) (maps : List Mp) : findK (mainP [] code maps) 0 sMain = (⟨0, sMain⟩, 1) := by
  unfold findK whoseK
  rw [if_pos (show hasK (mainP [] code maps) 0 = true from rfl), p_whose]
  simp only [if_true, p_up]
  rfl
theorem p_chain (code : List Ins) (maps : List Mp) : chainK (mainP [] code maps) ⟨0, sMain⟩ = [⟨0, sMain⟩] := by
  unfold chainK
  rw [p_find, p_up]
  rfl
theorem p_can (code : List Ins) (maps : List Mp) : canB (mainP [] code maps) ⟨0, sMain⟩ = true := by
  unfold canB
  rw [p_chain]
  rfl
theorem p_class (code : List Ins) (maps : List Mp) : classM (mainP [] code maps) 0 sMain = some ⟨0, sMain⟩ := by
  unfold classM
  rw [p_find, if_pos rfl, p_can, if_pos rfl]
theorem p_pick (code : List Ins) (maps : List Mp) : pickB (mainP [] code maps) ⟨0, sMain⟩ sRun = some (⟨0, sMain⟩, 0) := by
  unfold pickB
  rw [p_can, if_pos rfl, p_chain]
  unfold pickGo
  rw [p_clsAt]
  have h : ixOf (mthIs sRun) (mainCls code maps).methods = 0 := by
    show ixOf (mthIs sRun) [mainMth code maps] = 0
    have : mthIs sRun (mainMth code maps) = true := by simp [mthIs, mainMth]
    simp [ixOf, this, List.findIdx_cons]
  rw [h, if_neg (by decide)]
theorem p_lay (code : List Ins) (maps : List Mp) : layB (mainP [] code maps) ⟨0, sMain⟩ = [] := by
  simp [layB, layK, layL, p_chain, p_can, fldsOf, p_clsAt, mainCls, layGo]
theorem p_call (code : List Ins) (maps : List Mp) : callB (mainP [] code maps) 0 sMain sRun = ((⟨0, sMain⟩, 0), 1) := by
  unfold callB linkB classB
  rw [if_pos (show namB sRun = true from by decide), p_find]
  simp only [if_true, p_can]
  unfold callG
  simp only [if_true, p_pick, p_clsAt]
  have h : agreeM (mainP [] code maps) 0 0 ((mainCls code maps).methods.getD (0 : Int).toNat zeroMth) = true := by
    show agreeM (mainP [] code maps) 0 0 (mainMth code maps) = true
    simp [agreeM, mainMth, agreeK]
  rw [h]
  rfl
theorem p_start (code : List Ins) (maps : List Mp) (n : Int) : startB (mthAt (mainP [] code maps) (⟨0, sMain⟩, 0)) [n] = true := by
  unfold mthAt
  rw [p_clsAt]
  rfl
end Go.Proofs.YtbalicnnlfennaaGreat
