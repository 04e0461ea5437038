/- What the statement's reading of an argument tells of the cells: lists of structs behind slices. -/
import Derived.Test.YtbalicnnlfennaaGreatG46
import Derived.ProofKit
import Derived.KernelRfl
namespace Go.Proofs.YtbalicnnlfennaaGreat
open Go.RowKit

theorem exists_list {α : Type} : ∀ (n : Nat) (p : Nat → α → Prop), (∀ i, i < n → ∃ a, p i a) → ∃ l : List α, l.length = n ∧ ∀ i (hi : i < l.length), p i l[i]
  | 0, _, _ => ⟨[], rfl, fun i hi => absurd hi (by simp)⟩
  | n + 1, p, h => by
    obtain ⟨a, ha⟩ := h 0 (by omega)
    obtain ⟨l, hl, hp⟩ := exists_list n (fun i => p (i + 1)) (fun i hi => h (i + 1) (by omega))
    refine ⟨a :: l, by simp [hl], fun i hi => ?_⟩
    cases i with
    | zero => exact ha
    | succ j => exact hp j (by simpa using hi)
theorem openSl {α : Type} {R : List Value → α → Prop} {H : Type} {enc : TypeId × Value → H} {P : Program} {W : World} {sp : Nat → Bool} {held : Bool} {t e : TypeId} {sz : Nat} {v : Value} {fuel : Nat} {x : DataW H × List MemPlace}
    (ht : P.underlying t = some (.slice e)) (hc : P.cellsOf e = sz) (hpos : 0 < sz) (hR : ∀ fuel cs (y : DataW H × List MemPlace), DataW.trod enc P W 0 sp held fuel e cs = some y → ∃ a, R cs a)
    (h : DataW.trod enc P W 0 sp held fuel t [v] = some x) : ∃ xs : List α, Sl No W sz R v xs := by
  rcases DataW.trod_slice ht h with ⟨hv, _⟩ | ⟨a, len, cap, elems, rest, n, _, hv, _, _, hlc, hcm, hel, he, _, _⟩
  · obtain rfl := (List.cons.inj hv).1
    exact ⟨[], Sl.nil _ _ _ _⟩
  · obtain rfl := (List.cons.inj hv).1
    rw [hc] at he
    obtain ⟨xs, hxl, hxs⟩ := exists_list (α := α) len (fun i y => ∃ cs, R cs y ∧ cs.length = sz ∧ ∀ j, j < sz → W.cell? ((a.add (i * sz)).add j) = cs[j]?) (fun i hi => by
      have h1 := he i hi
      rw [List.getElem?_eq_getElem (show i < elems.length by omega), Option.bind_eq_some_iff] at h1
      obtain ⟨cs, h2, h3⟩ := h1
      obtain ⟨y, hy⟩ := hR _ _ _ h3
      obtain ⟨_, h4, h5⟩ := World.cells?_some h2
      exact ⟨y, cs, hy, h4, h5⟩)
    refine ⟨xs, some a, cap, by rw [hxl], by omega, by omega, fun h0 => ?_⟩
    have hspot : a.spot = none := by
      obtain ⟨cs, _, hl, hcell⟩ := hxs 0 h0
      have h1 := hcell 0 hpos
      rw [List.getElem?_eq_getElem (show 0 < cs.length by omega)] at h1
      have h2 : W.cell? a = some cs[0] := by
        have e : (a.add (0 * sz)).add 0 = a := by simp [Addr.add]
        rwa [e] at h1
      unfold World.cell? at h2
      split at h2
      · cases hs : a.spot
        · rfl
        · rw [hs] at h2; simp at h2
      · cases h2
    obtain ⟨b, off, spot⟩ := a
    dsimp only at hspot
    subst hspot
    refine ⟨b, off, rfl, fun h => h.elim, fun k hk => ?_⟩
    obtain ⟨cs, hRc, hl, hcell⟩ := hxs k hk
    refine ⟨cs, hRc, hl, fun j hj => ?_⟩
    rw [← hcell j hj]
    congr 1
    unfold Addr.add
    split <;> split <;> simp_all [Nat.add_assoc]

section
variable {H : Type} {enc : TypeId × Value → H} {W : World} {sp : Nat → Bool} {held : Bool}
end
end Go.Proofs.YtbalicnnlfennaaGreat

/- What the laws' own plans are: the plain law, at FnVmPut's. No program is named here. -/
namespace Go.Proofs.YtbalicnnlfennaaGreat
open Go.RowKit

theorem noS_e : noS.toList.isEmpty = true := by
  unfold noS ByteArray.toList
  rw [ByteArray.toList.loop]
  rfl
theorem kndB_num : kndB ⟨1, noS⟩ = true := by
  unfold kndB
  rw [noS_e]
  rfl
theorem mainP_lod {code : List Ins} {maps : List Mp} (h : codeB (mainMth code maps) = true) (h2 : mapsB (mainMth code maps) = true) : lodB (mainP [] code maps) = true := by
  have hm : mthB (mainMth code maps) = true := by
    unfold mthB
    rw [h, h2]
    unfold mainMth
    simp only [List.all_cons, List.all_nil, kndB_num]
    rfl
  have hc : clsB (mainCls code maps) = true := by
    unfold clsB
    have : mthsGo [] (mainCls code maps).methods = true := by
      show mthsGo [] [mainMth code maps] = true
      unfold mthsGo
      rw [hm]
      rfl
    rw [this]
    unfold mainCls
    simp only [noS_e]
    rfl
  unfold lodB mainP kprB
  simp only [List.nil_append, List.all_cons, List.all_nil]
  unfold ownsGo
  rw [hc]
  rfl
def insN (a : Int) : Ins := ⟨1, a, noS, noS⟩
def insP (o a : Int) : Ins := ⟨o, a, noS, noS⟩
theorem insB_num {a : Int} (h : numB a = true) : insB (insN a) = true := by
  unfold numB at h
  unfold insB insN
  rw [if_pos (by rfl)]
  simp only [noS_e]
  show (decide ((-9999 : Int) ≤ a) && decide (a ≤ 9999) && true && true) = true
  rw [h]
  rfl
theorem insB_n {o a : Int} (h : opNum o = true) (h1 : numLo o ≤ a) (h2 : a ≤ numHi o) : insB (insP o a) = true := by
  unfold insB insP
  rw [if_pos h]
  simp only [noS_e, decide_eq_true h1, decide_eq_true h2]
  rfl
theorem insB_p {o : Int} (h : opPln o = true) (h1 : opNum o = false) (h2 : opCls o = false) (h3 : opMem o = false) : insB (insP o 0) = true := by
  unfold insB insP
  rw [if_neg (by rw [h1]; decide), if_neg (by rw [h2]; decide), if_neg (by rw [h3]; decide)]
  simp only [noS_e, h]
  rfl
def putCode (a : Int) : List Ins := [insN a, insP 3 2, insP 2 1, insP 3 2, insP 2 2, insP 10 0]
theorem insAt_of {l n : Int} {i : Ins} (h : insB i = true) (h1 : (if i.op == 2 || i.op == 3 then decide (i.a < l) else if i.op == 11 || i.op == 12 || i.op == 13 then decide (i.a < n) else true) = true) : insAt l n i = true := by
  unfold insAt
  rw [h, h1]
  rfl
theorem put_code {a : Int} (h : numB a = true) : codeB (mainMth (putCode a) []) = true := by
  unfold codeB
  show (true && true && [insN a, insP 3 2, insP 2 1, insP 3 2, insP 2 2, insP 10 0].all (insAt 3 6)) = true
  have h1 : insAt 3 6 (insN a) = true := insAt_of (insB_num h) rfl
  have h2 : insAt 3 6 (insP 3 2) = true := insAt_of (insB_n (by decide) (by decide) (by decide)) (by decide)
  have h3 : insAt 3 6 (insP 2 1) = true := insAt_of (insB_n (by decide) (by decide) (by decide)) (by decide)
  have h4 : insAt 3 6 (insP 2 2) = true := insAt_of (insB_n (by decide) (by decide) (by decide)) (by decide)
  have h5 : insAt 3 6 (insP 10 0) = true := insAt_of (insB_p (by decide) (by decide) (by decide) (by decide)) (by decide)
  simp only [List.all_cons, List.all_nil, h1, h2, h3, h4, h5]
  rfl
theorem put_lod {a : Int} (h : numB a = true) : lodB (mainP [] (putCode a) []) = true := mainP_lod (put_code h) rfl
theorem clsIs_self (s : Str) (c : Cls) (h : c.name = s) : clsIs s c = true := by simp [clsIs, h]
theorem p_own (code : List Ins) (maps : List Mp) : ownIx (mainP [] code maps) 0 sMain = 0 := by
  show ixOf (clsIs sMain) [mainCls code maps] = 0
  simp [ixOf, clsIs_self sMain (mainCls code maps) rfl, List.findIdx_cons]
theorem p_clsAt (code : List Ins) (maps : List Mp) : clsAt (mainP [] code maps) ⟨0, sMain⟩ = mainCls code maps := by
  unfold clsAt
  rw [p_own]
  rfl
theorem p_whose (code : List Ins) (maps : List Mp) : whose (mainP [] code maps) 0 sMain = (⟨0, sMain⟩, 1) := by
  unfold whose whoseGo
  rw [if_pos (show askTo (mainP [] code maps) 0 sMain < 0 from (by decide : (-1 : Int) < 0)), p_own, if_neg (by decide)]
theorem p_up (code : List Ins) (maps : List Mp) : chainOf (mainP [] code maps) ⟨0, sMain⟩ = some [⟨0, sMain⟩] := by
  unfold chainOf upGo
  rw [p_clsAt, if_pos (show (mainCls code maps).super.toList.isEmpty = true from noS_e)]
theorem p_find (code : List Ins) (maps : List Mp) : findK (mainP [] code maps) 0 sMain = (⟨0, sMain⟩, 1) := by
  unfold findK whoseK
  rw [if_pos (show hasK (mainP [] code maps) 0 = true from rfl), p_whose]
  simp only [if_true, p_up]
  rfl
theorem p_chain (code : List Ins) (maps : List Mp) : chainK (mainP [] code maps) ⟨0, sMain⟩ = [⟨0, sMain⟩] := by
  unfold chainK
  rw [p_find, p_up]
  rfl
theorem p_can (code : List Ins) (maps : List Mp) : canB (mainP [] code maps) ⟨0, sMain⟩ = true := by
  unfold canB
  rw [p_chain]
  rfl
theorem p_class (code : List Ins) (maps : List Mp) : classM (mainP [] code maps) 0 sMain = some ⟨0, sMain⟩ := by
  unfold classM
  rw [p_find, if_pos rfl, p_can, if_pos rfl]
theorem p_pick (code : List Ins) (maps : List Mp) : pickB (mainP [] code maps) ⟨0, sMain⟩ sRun = some (⟨0, sMain⟩, 0) := by
  unfold pickB
  rw [p_can, if_pos rfl, p_chain]
  unfold pickGo
  rw [p_clsAt]
  have h : ixOf (mthIs sRun) (mainCls code maps).methods = 0 := by
    show ixOf (mthIs sRun) [mainMth code maps] = 0
    have : mthIs sRun (mainMth code maps) = true := by simp [mthIs, mainMth]
    simp [ixOf, this, List.findIdx_cons]
  rw [h, if_neg (by decide)]
theorem p_lay (code : List Ins) (maps : List Mp) : layB (mainP [] code maps) ⟨0, sMain⟩ = [] := by
  simp [layB, layK, layL, p_chain, p_can, fldsOf, p_clsAt, mainCls, layGo]
theorem p_call (code : List Ins) (maps : List Mp) : callB (mainP [] code maps) 0 sMain sRun = ((⟨0, sMain⟩, 0), 1) := by
  unfold callB linkB classB
  rw [if_pos (show namB sRun = true from by decide), p_find]
  simp only [if_true, p_can]
  unfold callG
  simp only [if_true, p_pick, p_clsAt]
  have h : agreeM (mainP [] code maps) 0 0 ((mainCls code maps).methods.getD (0 : Int).toNat zeroMth) = true := by
    show agreeM (mainP [] code maps) 0 0 (mainMth code maps) = true
    simp [agreeM, mainMth, agreeK]
  rw [h]
  rfl
theorem p_start (code : List Ins) (maps : List Mp) (n : Int) : startB (mthAt (mainP [] code maps) (⟨0, sMain⟩, 0)) [n] = true := by
  unfold mthAt
  rw [p_clsAt]
  rfl
end Go.Proofs.YtbalicnnlfennaaGreat
