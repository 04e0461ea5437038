/- FnVmNoOne's plans: the plain law. No program is named here. -/
import Derived.Test.YtbalicnnlfennaaGreatBHPry3
namespace Go.Proofs.YtbalicnnlfennaaGreat
open Go.RowKit

def sNobody : Str := ⟨#[110, 111, 98, 111, 100, 121]⟩
def insC (o : Int) (s : Str) : Ins := ⟨o, 0, s, noS⟩
theorem insB_c {o : Int} {s : Str} (h : opCls o = true) (h1 : opNum o = false) (hs : namB s = true) : insB (insC o s) = true := by
  unfold insB insC
  rw [if_neg (by rw [h1]; decide), if_pos h]
  simp only [noS_e, hs]
  rfl
def newCode (a : Int) : List Ins := [insC 6 sNobody, insP 3 2, insN a, insP 10 0]
def castCode (i : Ins) (a : Int) : List Ins := [i, insC 15 sNobody, insP 3 2, insN a, insP 10 0]
theorem nobody_ne : ¬ sMain = sNobody := fun h => absurd (congrArg ByteArray.size h) (by decide)
section
variable (code : List Ins) (maps : List Mp)
theorem p_noOwn : ownIx (mainP [] code maps) 0 sNobody = -1 := by
  show ixOf (clsIs sNobody) [mainCls code maps] = -1
  have : clsIs sNobody (mainCls code maps) = false := by
    rw [← Bool.not_eq_true, clsIs_iff]
    exact nobody_ne
  simp [ixOf, this]
theorem p_no : classM (mainP [] code maps) 0 sNobody = none := by
  have h : whoseK (mainP [] code maps) 0 sNobody = (noRef, 2) := by
    unfold whoseK
    rw [if_pos (show hasK (mainP [] code maps) 0 = true from rfl)]
    unfold whose whoseGo
    rw [if_pos (show askTo (mainP [] code maps) 0 sNobody < 0 from (by decide : (-1 : Int) < 0)), p_noOwn, if_pos (by decide)]
  unfold classM findK
  rw [h]
  rfl
end
theorem cast_at (n : Int) : insAt 3 n (insC 15 sNobody) = true := insAt_of (insB_c (by decide) (by decide) (by decide)) (by simp [insC])
section
variable {a : Int} (ha : numB a = true)
include ha
theorem new_lod : lodB (mainP [] (newCode a) []) = true := mainP_lod (by
  unfold codeB
  show (true && true && (newCode a).all (insAt 3 4)) = true
  have h1 : insAt 3 4 (insC 6 sNobody) = true := insAt_of (insB_c (by decide) (by decide) (by decide)) (by simp [insC])
  have h2 : insAt 3 4 (insP 3 2) = true := insAt_of (insB_n (by decide) (by decide) (by decide)) (by decide)
  have h3 : insAt 3 4 (insN a) = true := insAt_of (insB_num ha) rfl
  have h4 : insAt 3 4 (insP 10 0) = true := insAt_of (insB_p (by decide) (by decide) (by decide) (by decide)) (by decide)
  simp only [newCode, List.all_cons, List.all_nil, h1, h2, h3, h4]
  rfl) rfl
theorem cast_lod {i : Ins} (hi : insAt 3 5 i = true) : lodB (mainP [] (castCode i a) []) = true := mainP_lod (by
  unfold codeB
  show (true && true && (castCode i a).all (insAt 3 5)) = true
  have h1 : insAt 3 5 (insC 15 sNobody) = true := cast_at 5
  have h2 : insAt 3 5 (insP 3 2) = true := insAt_of (insB_n (by decide) (by decide) (by decide)) (by decide)
  have h3 : insAt 3 5 (insN a) = true := insAt_of (insB_num ha) rfl
  have h4 : insAt 3 5 (insP 10 0) = true := insAt_of (insB_p (by decide) (by decide) (by decide) (by decide)) (by decide)
  simp only [castCode, List.all_cons, List.all_nil, hi, h1, h2, h3, h4]
  rfl) rfl
end
theorem new_right (a : Int) : rightM (mainP [] (newCode a) []) ⟨⟨0, sMain⟩, 0⟩ = true := by
  unfold rightM
  rw [p_mth]
  generalize mainP [] (newCode a) [] = P
  simp [lookF, mainMth, newCode, lookGo, meetF, mapF, insF, pushF, popF, takeF, leadsF, goesOn, beginF, mayK_self, insN, insP, insC, tagOf, clsT, noT, numT, kndB_num]
theorem take_right (a : Int) : rightM (mainP [] (castCode (insP 2 0) a) []) ⟨⟨0, sMain⟩, 0⟩ = true := by
  unfold rightM
  rw [p_mth]
  generalize mainP [] (castCode (insP 2 0) a) [] = P
  simp [lookF, mainMth, castCode, lookGo, meetF, mapF, insF, pushF, popF, popR, takeF, leadsF, goesOn, beginF, mayK_self, insN, insP, insC, tagOf, clsT, noT, numT, kndB_num]
theorem none_right (a : Int) : rightM (mainP [] (castCode (insP 5 0) a) []) ⟨⟨0, sMain⟩, 0⟩ = true := by
  unfold rightM
  rw [p_mth]
  generalize mainP [] (castCode (insP 5 0) a) [] = P
  simp [lookF, mainMth, castCode, lookGo, meetF, mapF, insF, pushF, popF, popR, takeF, leadsF, goesOn, beginF, mayK_self, insN, insP, insC, tagOf, clsT, noT, numT, nullT, kndB_num]
section
variable (a : Int)
theorem new_1 : stepM (mainP [] (newCode a) []) true (begT 0) = endT 4 := by
  simp [stepM, begT, p_mth, mainMth, newCode, insM, insC, p_no, St.ends, endT]
theorem take_1 : stepM (mainP [] (castCode (insP 2 0) a) []) true (begT 0) = atT 1 [⟨2, 0⟩, ⟨1, 0⟩, noVal] [⟨2, 0⟩] := by
  simp [stepM, begT, p_mth, mainMth, castCode, insM, insP, putM, nextM, jumpM, St.goes, atT]
theorem take_2 : stepM (mainP [] (castCode (insP 2 0) a) []) true (atT 1 [⟨2, 0⟩, ⟨1, 0⟩, noVal] [⟨2, 0⟩]) = endT 4 := by
  simp [stepM, p_mth, mainMth, castCode, insM, insC, popV, p_no, St.ends, atT, endT]
theorem none_1 : stepM (mainP [] (castCode (insP 5 0) a) []) true (begT 0) = atT 1 [⟨2, 0⟩, ⟨1, 0⟩, noVal] [⟨3, 0⟩] := by
  simp [stepM, begT, p_mth, mainMth, castCode, insM, insP, putM, nextM, jumpM, St.goes, atT]
theorem none_2 : stepM (mainP [] (castCode (insP 5 0) a) []) true (atT 1 [⟨2, 0⟩, ⟨1, 0⟩, noVal] [⟨3, 0⟩]) = atT 2 [⟨2, 0⟩, ⟨1, 0⟩, noVal] [⟨3, 0⟩] := by
  simp [stepM, p_mth, mainMth, castCode, insM, insC, popV, putM, nextM, jumpM, St.goes, atT, Cal.left]
theorem none_3 : stepM (mainP [] (castCode (insP 5 0) a) []) true (atT 2 [⟨2, 0⟩, ⟨1, 0⟩, noVal] [⟨3, 0⟩]) = atT 3 [⟨2, 0⟩, ⟨1, 0⟩, ⟨3, 0⟩] [] := by
  simp [stepM, p_mth, mainMth, castCode, insM, insP, popV, nextM, jumpM, St.goes, atT]
theorem none_4 : stepM (mainP [] (castCode (insP 5 0) a) []) true (atT 3 [⟨2, 0⟩, ⟨1, 0⟩, ⟨3, 0⟩] []) = atT 4 [⟨2, 0⟩, ⟨1, 0⟩, ⟨3, 0⟩] [⟨1, a⟩] := by
  simp [stepM, p_mth, mainMth, castCode, insM, insN, putM, nextM, jumpM, St.goes, atT]
theorem none_5 : stepM (mainP [] (castCode (insP 5 0) a) []) true (atT 4 [⟨2, 0⟩, ⟨1, 0⟩, ⟨3, 0⟩] [⟨1, a⟩]) = doneT a := by
  simp [stepM, p_mth, mainMth, castCode, insM, insP, popV, retM, hasB, St.ends, St.withBack, atT, doneT]
theorem new_run : runM (mainP [] (newCode a) []) true 400 (begT 0) = endT 4 := by
  rw [runM_go rfl (new_1 a), runM_idle (show (4 : Int) ≠ 1 by decide)]
theorem take_run : runM (mainP [] (castCode (insP 2 0) a) []) true 400 (begT 0) = endT 4 := by
  rw [runM_go rfl (take_1 a), runM_go rfl (take_2 a), runM_idle (show (4 : Int) ≠ 1 by decide)]
theorem none_run : runM (mainP [] (castCode (insP 5 0) a) []) true 400 (begT 0) = doneT a := by
  rw [runM_go rfl (none_1 a), runM_go rfl (none_2 a), runM_go rfl (none_3 a), runM_go rfl (none_4 a), runM_go rfl (none_5 a), runM_idle (show (2 : Int) ≠ 1 by decide)]
end
theorem take_at : insAt 3 5 (insP 2 0) = true := insAt_of (insB_n (by decide) (by decide) (by decide)) (by decide)
theorem null_at : insAt 3 5 (insP 5 0) = true := insAt_of (insB_p (by decide) (by decide) (by decide) (by decide)) (by decide)
section
variable {a : Int} (ha : numB a = true)
include ha
theorem newRun_ok : RunOk (mainP [] (newCode a) []) true (begT 0) 400 :=
  RunOk.go rfl (new_1 a) (p_one (new_lod ha) 0 _ _ (insC 6 sNobody) rfl rfl (by simp [insC]) (by omega) (by simp) (by simp [insC]) (by simp) (by simp)) (RunOk.idle (show (4 : Int) ≠ 1 by decide))
theorem takeRun_ok : RunOk (mainP [] (castCode (insP 2 0) a) []) true (begT 0) 400 :=
  RunOk.go rfl (take_1 a) (p_one (cast_lod ha take_at) 0 _ _ (insP 2 0) rfl rfl (by simp [insP]) (by omega) (by simp) (fun _ => ⟨0, rfl, by simp, by omega⟩) (by simp) (by simp)) (RunOk.go rfl (take_2 a) (p_one (cast_lod ha take_at) 1 _ _ (insC 15 sNobody) rfl rfl (by simp [insC]) (by omega) (by simp) (by simp [insC]) (by simp) (by simp)) (RunOk.idle (show (4 : Int) ≠ 1 by decide)))
theorem noneRun_ok : RunOk (mainP [] (castCode (insP 5 0) a) []) true (begT 0) 400 :=
  RunOk.go rfl (none_1 a) (p_one (cast_lod ha null_at) 0 _ _ (insP 5 0) rfl rfl (by simp [insP]) (by omega) (by simp) (by simp [insP]) (by simp) (by simp)) (RunOk.go rfl (none_2 a) (p_one (cast_lod ha null_at) 1 _ _ (insC 15 sNobody) rfl rfl (by simp [insC]) (by omega) (by simp) (by simp [insC]) (by simp) (by simp))
    (RunOk.go rfl (none_3 a) (p_one (cast_lod ha null_at) 2 _ _ (insP 3 2) rfl rfl (by simp [insP]) (by omega) (by simp) (fun _ => ⟨2, rfl, by simp, by omega⟩) (by simp) (by simp)) (RunOk.go rfl (none_4 a) (p_one (cast_lod ha null_at) 3 _ _ (insN a) rfl rfl (by simp [insN]) (by omega) (by simp) (by simp [insN]) (by simp) (by simp))
    (RunOk.go rfl (none_5 a) (p_one (cast_lod ha null_at) 4 _ _ (insP 10 0) rfl rfl (by simp [insP]) (by omega) (by simp) (by simp [insP]) (num1 ha) (ref1 a)) (RunOk.idle (show (2 : Int) ≠ 1 by decide))))))
theorem new_go : GoOk (mainP [] (newCode a) []) (begT 0) := p_go (new_lod ha) (by simp [newCode]) (by decide) (newRun_ok ha) (by rw [new_run]; exact SmS_end 4)
theorem take_go : GoOk (mainP [] (castCode (insP 2 0) a) []) (begT 0) := p_go (cast_lod ha take_at) (by simp [castCode]) (by decide) (takeRun_ok ha) (by rw [take_run]; exact SmS_end 4)
theorem none_go : GoOk (mainP [] (castCode (insP 5 0) a) []) (begT 0) := p_go (cast_lod ha null_at) (by simp [castCode]) (by decide) (noneRun_ok ha) (by rw [none_run]; exact SmS_done a)
end
end Go.Proofs.YtbalicnnlfennaaGreat
