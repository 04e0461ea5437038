/- What the statement's reading of an argument tells of the cells: lists of structs behind slices. -/
import Derived.Test.YtbalicnnlfennaaGreatCK23
import Derived.ProofKit
import Derived.KernelRfl
namespace Go.Proofs.YtbalicnnlfennaaGreat
open Go.RowKit

theorem exists_list {α : Type} : ∀ (n : Nat) (p : Nat → α → Prop), (∀ i, i < n → ∃ a, p i a) → ∃ l : List α, l.length = n ∧ ∀ i (hi : i < l.length), p i l[i]
 | 0, _, _ => ⟨[], rfl, fun i hi => absurd hi (by simp)⟩
 | n + 1, p, h => by
  obtain ⟨a, ha⟩ := h 0 (by omega)
  obtain ⟨l, hl, hp⟩ := exists_list n (fun i => p (i + 1)) (fun i hi => h (i + 1) (by omega))
  refine ⟨a :: l, by simp [hl], fun i hi => ?_⟩
  cases i with
  | zero => exact ha
  | succ j => exact hp j (by simpa using hi)
theorem openSl {α : Type} {R : List Value → α → Prop} {H : Type} {enc : TypeId × Value → H} {P : Program} {W : World} {sp : Nat → Bool} {held : Bool} {t e : TypeId} {sz : Nat} {v : Value} {fuel : Nat} {x : DataW H × List MemPlace}
  (ht : P.underlying t = some (.slice e)) (hc : P.cellsOf e = sz) (hpos : 0 < sz) (hR : ∀ fuel cs (y : DataW H × List MemPlace), DataW.trod enc P W 0 sp held fuel e cs = some y → ∃ a, R cs a)
  (h : DataW.trod enc P W 0 sp held fuel t [v] = some x) : ∃ xs : List α, Sl No W sz R v xs := by
 rcases DataW.trod_slice ht h with ⟨hv, _⟩ | ⟨a, len, cap, elems, rest, n, _, hv, _, _, hlc, hcm, hel, he, _, _⟩
 ·obtain rfl := (List.cons.inj hv).1
  exact ⟨[], Sl.nil _ _ _ _⟩
 ·obtain rfl := (List.cons.inj hv).1
  rw [hc] at he
  obtain ⟨xs, hxl, hxs⟩ := exists_list (α := α) len (fun i y => ∃ cs, R cs y ∧ cs.length = sz ∧ ∀ j, j < sz → W.cell? ((a.add (i * sz)).add j) = cs[j]?) (fun i hi => by
   have h1 := he i hi
   rw [List.getElem?_eq_getElem (show i < elems.length by omega), Option.bind_eq_some_iff] at h1
   obtain ⟨cs, h2, h3⟩ := h1
   obtain ⟨y, hy⟩ := hR _ _ _ h3
   obtain ⟨_, h4, h5⟩ := World.cells?_some h2
   exact ⟨y, cs, hy, h4, h5⟩)
  refine ⟨xs, some a, cap, by rw [hxl], by omega, by omega, fun h0 => ?_⟩
  have hspot : a.spot = none := by
   obtain ⟨cs, _, hl, hcell⟩ := hxs 0 h0
   have h1 := hcell 0 hpos
   rw [List.getElem?_eq_getElem (show 0 < cs.length by omega)] at h1
   have h2 : W.cell? a = some cs[0] := by
    have e : (a.add (0 * sz)).add 0 = a := by simp [Addr.add]
    rwa [e] at h1
   unfold World.cell? at h2
   split at h2
   ·cases hs : a.spot
    ·rfl
    ·rw [hs] at h2; simp at h2
   ·cases h2
  obtain ⟨b, off, spot⟩ := a
  dsimp only at hspot
  subst hspot
  refine ⟨b, off, rfl, fun h => h.elim, fun k hk => ?_⟩
  obtain ⟨cs, hRc, hl, hcell⟩ := hxs k hk
  refine ⟨cs, hRc, hl, fun j hj => ?_⟩
  rw [← hcell j hj]
  congr 1
  unfold Addr.add
  split <;> split <;> simp_all [Nat.add_assoc]

section
variable {H : Type} {enc : TypeId × Value → H} {W : World} {sp : Nat → Bool} {held : Bool}
end
end Go.Proofs.YtbalicnnlfennaaGreat

namespace Go.Proofs.YtbalicnnlfennaaGreat
open Go.RowKit

theorem noS_e : noS.toList.isEmpty = true := by
 unfold noS ByteArray.toList
 rw [ByteArray.toList.loop]
 rfl
theorem kndB_num : kndB ⟨1, noS⟩ = true := by
 unfold kndB
 rw [noS_e]
 rfl
def insN (a : Int) : Ins := ⟨1, a, noS, noS⟩
def insP (o a : Int) : Ins := ⟨o, a, noS, noS⟩
theorem insB_num {a : Int} (h : numB a = true) : insB (insN a) = true := by
 unfold numB at h
 unfold insB insN
 rw [if_pos (by rfl)]
 simp only [noS_e]
 show (decide ((-9999 : Int) ≤ a) && decide (a ≤ 9999) && true && true) = true
 rw [h]
 rfl
theorem insB_n {o a : Int} (h : opNum o = true) (h1 : numLo o ≤ a) (h2 : a ≤ numHi o) : insB (insP o a) = true := by
 unfold insB insP
 rw [if_pos h]
 simp only [noS_e, decide_eq_true h1, decide_eq_true h2]
 rfl
theorem insB_p {o : Int} (h : opPln o = true) (h1 : opNum o = false) (h2 : opCls o = false) (h3 : opMem o = false) : insB (insP o 0) = true := by
 unfold insB insP
 rw [if_neg (by rw [h1]; decide), if_neg (by rw [h2]; decide), if_neg (by rw [h3]; decide)]
 simp only [noS_e, h]
 rfl
theorem insAt_of {l n : Int} {i : Ins} (h : insB i = true) (h1 : (if i.op == 2 || i.op == 3 then decide (i.a < l) else if i.op == 11 || i.op == 12 || i.op == 13 then decide (i.a < n) else true) = true) : insAt l n i = true := by
 unfold insAt
 rw [h, h1]
 rfl
theorem clsIs_self (s : Str) (c : Cls) (h : c.name = s) : clsIs s c = true := by simp [clsIs, h]
end Go.Proofs.YtbalicnnlfennaaGreat

namespace Go.Proofs.YtbalicnnlfennaaGreat
open Go.RowKit

theorem mayK_self (p : Plan) (k : Int) (t : Tag) : mayK p k t t = true := by
 unfold mayK
 split
 ·rfl
 ·rw [if_pos (tagEq_iff.2 rfl)]
def begT (n : Int) : St := ⟨1, [⟨⟨⟨0, sMain⟩, 0⟩, 0, [⟨2, 0⟩, ⟨1, n⟩, noVal], []⟩], [⟨⟨0, sMain⟩, []⟩], [], noVal⟩
theorem SmS_beg (n : Int) : SmS (begT n) := ⟨by simp [begT], by simp [begT], by simp [begT], by simp [begT], by simp [begT, noVal]⟩
theorem runM_idle {p : Plan} {look : Bool} {s : St} (h : s.status ≠ 1) : ∀ k, runM p look k s = s
 | 0 => rfl
 | k + 1 => by rw [runM, if_neg h]
theorem runM_go {p : Plan} {look : Bool} {s t : St} (h : s.status = 1) (ht : stepM p look s = t) (k : Nat) : runM p look (k + 1) s = runM p look k t := by rw [runM, if_pos h, ht]
theorem RunOk.go {p : Plan} {look : Bool} {s t : St} {k : Nat} (h : s.status = 1) (ht : stepM p look s = t) (h1 : OneOk p s) (hr : RunOk p look t k) : RunOk p look s (k + 1) := fun j hj => by
 cases j with
 | zero => exact fun _ => h1
 | succ j => rw [runM_go h ht]; exact hr j (by omega)
theorem RunOk.idle {p : Plan} {look : Bool} {s : St} {k : Nat} (h : s.status ≠ 1) : RunOk p look s k := fun j _ h1 => by
 rw [runM_idle h] at h1
 exact absurd h1 h
theorem lay_le {p : Plan} (hp : lodB p = true) (r : Ref) : (layB p r).length ≤ 1000 := by
 unfold layB layK layL
 split
 ·simp only [layGo_len]
  have h1 := fldsOf_len hp (rs := (chainK p r).reverse) (fun x hx => chainK_here hp r x (by simpa using hx))
  have h2 := chainK_len hp r
  simp at h1 ⊢
  omega
 ·simp
end Go.Proofs.YtbalicnnlfennaaGreat

namespace Go.Proofs.YtbalicnnlfennaaGreat
open Go.RowKit

theorem Sl.ofBx {α : Type} {w : World} {b : Nat} {t : TypeId} {sz : Nat} {R : List Value → α → Prop} {C : α → List Value} {xs : List α} (hC : ∀ x, (C x).length = sz) (h : Bx w b t (xs.flatMap C).toArray) (hR : ∀ x ∈ xs, R (C x) x) (hl : xs.length ≤ maxLen) : Sl No w sz R (.slice (some ⟨b, 0, none⟩) xs.length xs.length) xs :=
 ⟨_, _, rfl, Nat.le_refl _, hl, fun _ => ⟨b, 0, rfl, fun h => h, fun k hk => ⟨C xs[k], hR _ (List.getElem_mem hk), hC _, fun j hj => by
  have h9 := flatW_get hC xs k hk j hj
  rw [Nat.zero_add, h.cell (k * sz + j)]
  simpa using h9⟩⟩⟩
def insCells (i : Ins) : List Value := [.int .i64 i.op, .int .i64 i.a, .string i.name, .string i.member]
theorem Sl.insBx {w : World} {b : Nat} {t : TypeId} {xs : List Ins} (h : Bx w b t (xs.flatMap insCells).toArray) (hR : ∀ x ∈ xs, x.name.size ≤ maxLen ∧ x.member.size ≤ maxLen) (hl : xs.length ≤ maxLen) : Sl No w 4 InsC (.slice (some ⟨b, 0, none⟩) xs.length xs.length) xs :=
 Sl.ofBx (fun _ => rfl) h (fun x hx => ⟨rfl, hR x hx⟩) hl
theorem Sl.tagBx {w : World} {b : Nat} {t : TypeId} {xs : List Tag} (h : Bx w b t (xs.flatMap tagCells).toArray) (hR : ∀ x ∈ xs, x.name.size ≤ maxLen) (hl : xs.length ≤ maxLen) : Sl No w 2 TagC (.slice (some ⟨b, 0, none⟩) xs.length xs.length) xs :=
 Sl.ofBx (fun _ => rfl) h (fun x hx => ⟨rfl, hR x hx⟩) hl
theorem StC.status {X : Nat → Prop} {w : World} {cs : List Value} {s : St} (h : StC X w cs s) : ∃ v1 v2 v3 v4 v5, cs = [.int .i64 s.status, v1, v2, v3, v4, v5] := by
 obtain ⟨vf, vh, vo, rfl, _⟩ := h
 exact ⟨_, _, _, _, _, rfl⟩
end Go.Proofs.YtbalicnnlfennaaGreat
