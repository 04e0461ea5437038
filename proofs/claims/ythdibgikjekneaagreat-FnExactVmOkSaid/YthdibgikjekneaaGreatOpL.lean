/- What the statement's reading of an argument tells of the cells: lists of structs behind slices. -/
import Derived.Test.YthdibgikjekneaaGreatRep
import Derived.Test.YthdibgikjekneaaGreatRows
import Derived.ProofKit
import Derived.KernelRfl
namespace Go.Proofs.YthdibgikjekneaaGreat
open Go.RowKit

theorem exists_list {α : Type} : ∀ (n : Nat) (p : Nat → α → Prop), (∀ i, i < n → ∃ a, p i a) → ∃ l : List α, l.length = n ∧ ∀ i (hi : i < l.length), p i l[i]
  | 0, _, _ => ⟨[], rfl, fun i hi => absurd hi (by simp)⟩
  | n + 1, p, h => by
    obtain ⟨a, ha⟩ := h 0 (by omega)
    obtain ⟨l, hl, hp⟩ := exists_list n (fun i => p (i + 1)) (fun i hi => h (i + 1) (by omega))
    refine ⟨a :: l, by simp [hl], fun i hi => ?_⟩
    cases i with
    | zero => exact ha
    | succ j => exact hp j (by simpa using hi)
theorem lst1 {l : List Value} (h : l.length = 1) : ∃ a, l = [a] := by
  match l, h with
  | [a], _ => exact ⟨a, rfl⟩
theorem lst2 {l : List Value} (h : l.length = 2) : ∃ a b, l = [a, b] := by
  match l, h with
  | [a, b], _ => exact ⟨a, b, rfl⟩
theorem lst3 {l : List Value} (h : l.length = 3) : ∃ a b c, l = [a, b, c] := by
  match l, h with
  | [a, b, c], _ => exact ⟨a, b, c, rfl⟩
theorem lst4 {l : List Value} (h : l.length = 4) : ∃ a b c d, l = [a, b, c, d] := by
  match l, h with
  | [a, b, c, d], _ => exact ⟨a, b, c, d, rfl⟩
theorem lst8 {l : List Value} (h : l.length = 8) : ∃ a b c d e f g i, l = [a, b, c, d, e, f, g, i] := by
  match l, h with
  | [a, b, c, d, e, f, g, i], _ => exact ⟨a, b, c, d, e, f, g, i, rfl⟩

theorem openSl {α : Type} {R : List Value → α → Prop} {H : Type} {enc : TypeId × Value → H} {P : Program} {W : World} {sp : Nat → Bool} {held : Bool} {t e : TypeId} {sz : Nat} {v : Value} {fuel : Nat} {x : DataW H × List MemPlace}
    (ht : P.underlying t = some (.slice e)) (hc : P.cellsOf e = sz) (hpos : 0 < sz) (hR : ∀ fuel cs (y : DataW H × List MemPlace), DataW.trod enc P W 0 sp held fuel e cs = some y → ∃ a, R cs a)
    (h : DataW.trod enc P W 0 sp held fuel t [v] = some x) : ∃ xs : List α, Sl No W sz R v xs := by
  rcases DataW.trod_slice ht h with ⟨hv, _⟩ | ⟨a, len, cap, elems, rest, n, _, hv, _, _, hlc, hcm, hel, he, _, _⟩
  · obtain rfl := (List.cons.inj hv).1
    exact ⟨[], Sl.nil _ _ _ _⟩
  · obtain rfl := (List.cons.inj hv).1
    rw [hc] at he
    obtain ⟨xs, hxl, hxs⟩ := exists_list (α := α) len (fun i y => ∃ cs, R cs y ∧ cs.length = sz ∧ ∀ j, j < sz → W.cell? ((a.add (i * sz)).add j) = cs[j]?) (fun i hi => by
      have h1 := he i hi
      rw [List.getElem?_eq_getElem (show i < elems.length by omega), Option.bind_eq_some_iff] at h1
      obtain ⟨cs, h2, h3⟩ := h1
      obtain ⟨y, hy⟩ := hR _ _ _ h3
      obtain ⟨_, h4, h5⟩ := World.cells?_some h2
      exact ⟨y, cs, hy, h4, h5⟩)
    refine ⟨xs, some a, cap, by rw [hxl], by omega, by omega, fun h0 => ?_⟩
    have hspot : a.spot = none := by
      obtain ⟨cs, _, hl, hcell⟩ := hxs 0 h0
      have h1 := hcell 0 hpos
      rw [List.getElem?_eq_getElem (show 0 < cs.length by omega)] at h1
      have h2 : W.cell? a = some cs[0] := by
        have e : (a.add (0 * sz)).add 0 = a := by simp [Addr.add]
        rwa [e] at h1
      unfold World.cell? at h2
      split at h2
      · cases hs : a.spot
        · rfl
        · rw [hs] at h2; simp at h2
      · cases h2
    obtain ⟨b, off, spot⟩ := a
    dsimp only at hspot
    subst hspot
    refine ⟨b, off, rfl, fun h => h.elim, fun k hk => ?_⟩
    obtain ⟨cs, hRc, hl, hcell⟩ := hxs k hk
    refine ⟨cs, hRc, hl, fun j hj => ?_⟩
    rw [← hcell j hj]
    congr 1
    unfold Addr.add
    split <;> split <;> simp_all [Nat.add_assoc]

section
variable {H : Type} {enc : TypeId × Value → H} {W : World} {sp : Nat → Bool} {held : Bool}
set_option maxHeartbeats 1000000 in
theorem openKnd {fuel : Nat} {cs : List Value} {x : DataW H × List MemPlace} (h : DataW.trod enc Tryz.prog W 0 sp held fuel 325 cs = some x) : ∃ k : Knd, KndC cs k := by
  obtain ⟨xs, m, rfl, rfl, hl, hxl, hi⟩ := DataW.trod_struct Tryz.underlying325 h
  obtain ⟨c0, c1, rfl⟩ := lst2 (hl.trans (show Tryz.prog.cellsOf 325 = 2 by kernel_rfl))
  clear hl h
  obtain ⟨y0, hy0⟩ : ∃ y, xs[0]? = some y := ⟨xs[0]'(by rw [hxl]; decide), List.getElem?_eq_getElem _⟩
  have h0 : DataW.trod enc Tryz.prog W 0 sp held m 3 [c0] = some y0 := by
    have h9 : DataW.trod enc Tryz.prog W 0 sp held m 3 (([c0, c1].drop 0).take (Tryz.prog.cellsOf 3)) = xs[0]? := hi 0 _ rfl
    rw [show Tryz.prog.cellsOf 3 = 1 by kernel_rfl, hy0] at h9
    exact h9
  obtain ⟨y1, hy1⟩ : ∃ y, xs[1]? = some y := ⟨xs[1]'(by rw [hxl]; decide), List.getElem?_eq_getElem _⟩
  have h1 : DataW.trod enc Tryz.prog W 0 sp held m 9 [c1] = some y1 := by
    have h9 : DataW.trod enc Tryz.prog W 0 sp held m 9 (([c0, c1].drop 1).take (Tryz.prog.cellsOf 9)) = xs[1]? := hi 1 _ rfl
    rw [show Tryz.prog.cellsOf 9 = 1 by kernel_rfl, hy1] at h9
    exact h9
  obtain ⟨a0, e0, _, _⟩ := DataW.trod_int Tryz.underlying3 h0
  obtain rfl := (List.cons.inj e0).1
  obtain ⟨a1, e1, _, z1⟩ := DataW.trod_string Tryz.underlying9 h1
  obtain rfl := (List.cons.inj e1).1
  exact ⟨⟨a0, a1⟩, rfl, z1⟩

set_option maxHeartbeats 1000000 in
theorem openIns {fuel : Nat} {cs : List Value} {x : DataW H × List MemPlace} (h : DataW.trod enc Tryz.prog W 0 sp held fuel 359 cs = some x) : ∃ k : Ins, InsC cs k := by
  obtain ⟨xs, m, rfl, rfl, hl, hxl, hi⟩ := DataW.trod_struct Tryz.underlying359 h
  obtain ⟨c0, c1, c2, c3, rfl⟩ := lst4 (hl.trans (show Tryz.prog.cellsOf 359 = 4 by kernel_rfl))
  clear hl h
  obtain ⟨y0, hy0⟩ : ∃ y, xs[0]? = some y := ⟨xs[0]'(by rw [hxl]; decide), List.getElem?_eq_getElem _⟩
  have h0 : DataW.trod enc Tryz.prog W 0 sp held m 3 [c0] = some y0 := by
    have h9 : DataW.trod enc Tryz.prog W 0 sp held m 3 (([c0, c1, c2, c3].drop 0).take (Tryz.prog.cellsOf 3)) = xs[0]? := hi 0 _ rfl
    rw [show Tryz.prog.cellsOf 3 = 1 by kernel_rfl, hy0] at h9
    exact h9
  obtain ⟨y1, hy1⟩ : ∃ y, xs[1]? = some y := ⟨xs[1]'(by rw [hxl]; decide), List.getElem?_eq_getElem _⟩
  have h1 : DataW.trod enc Tryz.prog W 0 sp held m 3 [c1] = some y1 := by
    have h9 : DataW.trod enc Tryz.prog W 0 sp held m 3 (([c0, c1, c2, c3].drop 1).take (Tryz.prog.cellsOf 3)) = xs[1]? := hi 1 _ rfl
    rw [show Tryz.prog.cellsOf 3 = 1 by kernel_rfl, hy1] at h9
    exact h9
  obtain ⟨y2, hy2⟩ : ∃ y, xs[2]? = some y := ⟨xs[2]'(by rw [hxl]; decide), List.getElem?_eq_getElem _⟩
  have h2 : DataW.trod enc Tryz.prog W 0 sp held m 9 [c2] = some y2 := by
    have h9 : DataW.trod enc Tryz.prog W 0 sp held m 9 (([c0, c1, c2, c3].drop 2).take (Tryz.prog.cellsOf 9)) = xs[2]? := hi 2 _ rfl
    rw [show Tryz.prog.cellsOf 9 = 1 by kernel_rfl, hy2] at h9
    exact h9
  obtain ⟨y3, hy3⟩ : ∃ y, xs[3]? = some y := ⟨xs[3]'(by rw [hxl]; decide), List.getElem?_eq_getElem _⟩
  have h3 : DataW.trod enc Tryz.prog W 0 sp held m 9 [c3] = some y3 := by
    have h9 : DataW.trod enc Tryz.prog W 0 sp held m 9 (([c0, c1, c2, c3].drop 3).take (Tryz.prog.cellsOf 9)) = xs[3]? := hi 3 _ rfl
    rw [show Tryz.prog.cellsOf 9 = 1 by kernel_rfl, hy3] at h9
    exact h9
  obtain ⟨a0, e0, _, _⟩ := DataW.trod_int Tryz.underlying3 h0
  obtain rfl := (List.cons.inj e0).1
  obtain ⟨a1, e1, _, _⟩ := DataW.trod_int Tryz.underlying3 h1
  obtain rfl := (List.cons.inj e1).1
  obtain ⟨a2, e2, _, z2⟩ := DataW.trod_string Tryz.underlying9 h2
  obtain rfl := (List.cons.inj e2).1
  obtain ⟨a3, e3, _, z3⟩ := DataW.trod_string Tryz.underlying9 h3
  obtain rfl := (List.cons.inj e3).1
  exact ⟨⟨a0, a1, a2, a3⟩, rfl, z2, z3⟩

set_option maxHeartbeats 1000000 in
theorem openTag {fuel : Nat} {cs : List Value} {x : DataW H × List MemPlace} (h : DataW.trod enc Tryz.prog W 0 sp held fuel 51 cs = some x) : ∃ k : Tag, TagC cs k := by
  obtain ⟨xs, m, rfl, rfl, hl, hxl, hi⟩ := DataW.trod_struct Tryz.underlying51 h
  obtain ⟨c0, c1, rfl⟩ := lst2 (hl.trans (show Tryz.prog.cellsOf 51 = 2 by kernel_rfl))
  clear hl h
  obtain ⟨y0, hy0⟩ : ∃ y, xs[0]? = some y := ⟨xs[0]'(by rw [hxl]; decide), List.getElem?_eq_getElem _⟩
  have h0 : DataW.trod enc Tryz.prog W 0 sp held m 3 [c0] = some y0 := by
    have h9 : DataW.trod enc Tryz.prog W 0 sp held m 3 (([c0, c1].drop 0).take (Tryz.prog.cellsOf 3)) = xs[0]? := hi 0 _ rfl
    rw [show Tryz.prog.cellsOf 3 = 1 by kernel_rfl, hy0] at h9
    exact h9
  obtain ⟨y1, hy1⟩ : ∃ y, xs[1]? = some y := ⟨xs[1]'(by rw [hxl]; decide), List.getElem?_eq_getElem _⟩
  have h1 : DataW.trod enc Tryz.prog W 0 sp held m 9 [c1] = some y1 := by
    have h9 : DataW.trod enc Tryz.prog W 0 sp held m 9 (([c0, c1].drop 1).take (Tryz.prog.cellsOf 9)) = xs[1]? := hi 1 _ rfl
    rw [show Tryz.prog.cellsOf 9 = 1 by kernel_rfl, hy1] at h9
    exact h9
  obtain ⟨a0, e0, _, _⟩ := DataW.trod_int Tryz.underlying3 h0
  obtain rfl := (List.cons.inj e0).1
  obtain ⟨a1, e1, _, z1⟩ := DataW.trod_string Tryz.underlying9 h1
  obtain rfl := (List.cons.inj e1).1
  exact ⟨⟨a0, a1⟩, rfl, z1⟩

set_option maxHeartbeats 1000000 in
theorem openFld {fuel : Nat} {cs : List Value} {x : DataW H × List MemPlace} (h : DataW.trod enc Tryz.prog W 0 sp held fuel 327 cs = some x) : ∃ k : Fld, FldC cs k := by
  obtain ⟨xs, m, rfl, rfl, hl, hxl, hi⟩ := DataW.trod_struct Tryz.underlying327 h
  obtain ⟨c0, c1, c2, rfl⟩ := lst3 (hl.trans (show Tryz.prog.cellsOf 327 = 3 by kernel_rfl))
  clear hl h
  obtain ⟨y0, hy0⟩ : ∃ y, xs[0]? = some y := ⟨xs[0]'(by rw [hxl]; decide), List.getElem?_eq_getElem _⟩
  have h0 : DataW.trod enc Tryz.prog W 0 sp held m 9 [c0] = some y0 := by
    have h9 : DataW.trod enc Tryz.prog W 0 sp held m 9 (([c0, c1, c2].drop 0).take (Tryz.prog.cellsOf 9)) = xs[0]? := hi 0 _ rfl
    rw [show Tryz.prog.cellsOf 9 = 1 by kernel_rfl, hy0] at h9
    exact h9
  obtain ⟨y1, hy1⟩ : ∃ y, xs[1]? = some y := ⟨xs[1]'(by rw [hxl]; decide), List.getElem?_eq_getElem _⟩
  have h1 : DataW.trod enc Tryz.prog W 0 sp held m 325 [c1, c2] = some y1 := by
    have h9 : DataW.trod enc Tryz.prog W 0 sp held m 325 (([c0, c1, c2].drop 1).take (Tryz.prog.cellsOf 325)) = xs[1]? := hi 1 _ rfl
    rw [show Tryz.prog.cellsOf 325 = 2 by kernel_rfl, hy1] at h9
    exact h9
  obtain ⟨a0, e0, _, z0⟩ := DataW.trod_string Tryz.underlying9 h0
  obtain rfl := (List.cons.inj e0).1
  obtain ⟨a1, hk1⟩ := openKnd h1
  obtain ⟨e1, z1_0⟩ := hk1
  simp only [List.cons.injEq, and_true] at e1
  obtain ⟨rfl, rfl⟩ := e1
  exact ⟨⟨a0, a1⟩, rfl, z0, z1_0⟩

set_option maxHeartbeats 1000000 in
theorem openMp {fuel : Nat} {cs : List Value} {x : DataW H × List MemPlace} (h : DataW.trod enc Tryz.prog W 0 sp held fuel 363 cs = some x) : ∃ k : Mp, MapC No W cs k := by
  obtain ⟨xs, m, rfl, rfl, hl, hxl, hi⟩ := DataW.trod_struct Tryz.underlying363 h
  obtain ⟨c0, c1, c2, rfl⟩ := lst3 (hl.trans (show Tryz.prog.cellsOf 363 = 3 by kernel_rfl))
  clear hl h
  obtain ⟨y0, hy0⟩ : ∃ y, xs[0]? = some y := ⟨xs[0]'(by rw [hxl]; decide), List.getElem?_eq_getElem _⟩
  have h0 : DataW.trod enc Tryz.prog W 0 sp held m 3 [c0] = some y0 := by
    have h9 : DataW.trod enc Tryz.prog W 0 sp held m 3 (([c0, c1, c2].drop 0).take (Tryz.prog.cellsOf 3)) = xs[0]? := hi 0 _ rfl
    rw [show Tryz.prog.cellsOf 3 = 1 by kernel_rfl, hy0] at h9
    exact h9
  obtain ⟨y1, hy1⟩ : ∃ y, xs[1]? = some y := ⟨xs[1]'(by rw [hxl]; decide), List.getElem?_eq_getElem _⟩
  have h1 : DataW.trod enc Tryz.prog W 0 sp held m 361 [c1] = some y1 := by
    have h9 : DataW.trod enc Tryz.prog W 0 sp held m 361 (([c0, c1, c2].drop 1).take (Tryz.prog.cellsOf 361)) = xs[1]? := hi 1 _ rfl
    rw [show Tryz.prog.cellsOf 361 = 1 by kernel_rfl, hy1] at h9
    exact h9
  obtain ⟨y2, hy2⟩ : ∃ y, xs[2]? = some y := ⟨xs[2]'(by rw [hxl]; decide), List.getElem?_eq_getElem _⟩
  have h2 : DataW.trod enc Tryz.prog W 0 sp held m 361 [c2] = some y2 := by
    have h9 : DataW.trod enc Tryz.prog W 0 sp held m 361 (([c0, c1, c2].drop 2).take (Tryz.prog.cellsOf 361)) = xs[2]? := hi 2 _ rfl
    rw [show Tryz.prog.cellsOf 361 = 1 by kernel_rfl, hy2] at h9
    exact h9
  obtain ⟨a0, e0, _, _⟩ := DataW.trod_int Tryz.underlying3 h0
  obtain rfl := (List.cons.inj e0).1
  obtain ⟨a1, s1⟩ := openSl (R := TagC) Tryz.underlying361 (show Tryz.prog.cellsOf 51 = 2 by kernel_rfl) (by decide) (fun _ _ _ h => openTag h) h1
  obtain ⟨a2, s2⟩ := openSl (R := TagC) Tryz.underlying361 (show Tryz.prog.cellsOf 51 = 2 by kernel_rfl) (by decide) (fun _ _ _ h => openTag h) h2
  exact ⟨⟨a0, a1, a2⟩, _, _, rfl, s1, s2⟩

set_option maxHeartbeats 1000000 in
theorem openMth {fuel : Nat} {cs : List Value} {x : DataW H × List MemPlace} (h : DataW.trod enc Tryz.prog W 0 sp held fuel 333 cs = some x) : ∃ k : Mth, MthC No W cs k := by
  obtain ⟨xs, m, rfl, rfl, hl, hxl, hi⟩ := DataW.trod_struct Tryz.underlying333 h
  obtain ⟨c0, c1, c2, c3, c4, c5, c6, c7, rfl⟩ := lst8 (hl.trans (show Tryz.prog.cellsOf 333 = 8 by kernel_rfl))
  clear hl h
  obtain ⟨y0, hy0⟩ : ∃ y, xs[0]? = some y := ⟨xs[0]'(by rw [hxl]; decide), List.getElem?_eq_getElem _⟩
  have h0 : DataW.trod enc Tryz.prog W 0 sp held m 9 [c0] = some y0 := by
    have h9 : DataW.trod enc Tryz.prog W 0 sp held m 9 (([c0, c1, c2, c3, c4, c5, c6, c7].drop 0).take (Tryz.prog.cellsOf 9)) = xs[0]? := hi 0 _ rfl
    rw [show Tryz.prog.cellsOf 9 = 1 by kernel_rfl, hy0] at h9
    exact h9
  obtain ⟨y1, hy1⟩ : ∃ y, xs[1]? = some y := ⟨xs[1]'(by rw [hxl]; decide), List.getElem?_eq_getElem _⟩
  have h1 : DataW.trod enc Tryz.prog W 0 sp held m 329 [c1] = some y1 := by
    have h9 : DataW.trod enc Tryz.prog W 0 sp held m 329 (([c0, c1, c2, c3, c4, c5, c6, c7].drop 1).take (Tryz.prog.cellsOf 329)) = xs[1]? := hi 1 _ rfl
    rw [show Tryz.prog.cellsOf 329 = 1 by kernel_rfl, hy1] at h9
    exact h9
  obtain ⟨y2, hy2⟩ : ∃ y, xs[2]? = some y := ⟨xs[2]'(by rw [hxl]; decide), List.getElem?_eq_getElem _⟩
  have h2 : DataW.trod enc Tryz.prog W 0 sp held m 325 [c2, c3] = some y2 := by
    have h9 : DataW.trod enc Tryz.prog W 0 sp held m 325 (([c0, c1, c2, c3, c4, c5, c6, c7].drop 2).take (Tryz.prog.cellsOf 325)) = xs[2]? := hi 2 _ rfl
    rw [show Tryz.prog.cellsOf 325 = 2 by kernel_rfl, hy2] at h9
    exact h9
  obtain ⟨y3, hy3⟩ : ∃ y, xs[3]? = some y := ⟨xs[3]'(by rw [hxl]; decide), List.getElem?_eq_getElem _⟩
  have h3 : DataW.trod enc Tryz.prog W 0 sp held m 3 [c4] = some y3 := by
    have h9 : DataW.trod enc Tryz.prog W 0 sp held m 3 (([c0, c1, c2, c3, c4, c5, c6, c7].drop 4).take (Tryz.prog.cellsOf 3)) = xs[3]? := hi 3 _ rfl
    rw [show Tryz.prog.cellsOf 3 = 1 by kernel_rfl, hy3] at h9
    exact h9
  obtain ⟨y4, hy4⟩ : ∃ y, xs[4]? = some y := ⟨xs[4]'(by rw [hxl]; decide), List.getElem?_eq_getElem _⟩
  have h4 : DataW.trod enc Tryz.prog W 0 sp held m 3 [c5] = some y4 := by
    have h9 : DataW.trod enc Tryz.prog W 0 sp held m 3 (([c0, c1, c2, c3, c4, c5, c6, c7].drop 5).take (Tryz.prog.cellsOf 3)) = xs[4]? := hi 4 _ rfl
    rw [show Tryz.prog.cellsOf 3 = 1 by kernel_rfl, hy4] at h9
    exact h9
  obtain ⟨y5, hy5⟩ : ∃ y, xs[5]? = some y := ⟨xs[5]'(by rw [hxl]; decide), List.getElem?_eq_getElem _⟩
  have h5 : DataW.trod enc Tryz.prog W 0 sp held m 330 [c6] = some y5 := by
    have h9 : DataW.trod enc Tryz.prog W 0 sp held m 330 (([c0, c1, c2, c3, c4, c5, c6, c7].drop 6).take (Tryz.prog.cellsOf 330)) = xs[5]? := hi 5 _ rfl
    rw [show Tryz.prog.cellsOf 330 = 1 by kernel_rfl, hy5] at h9
    exact h9
  obtain ⟨y6, hy6⟩ : ∃ y, xs[6]? = some y := ⟨xs[6]'(by rw [hxl]; decide), List.getElem?_eq_getElem _⟩
  have h6 : DataW.trod enc Tryz.prog W 0 sp held m 331 [c7] = some y6 := by
    have h9 : DataW.trod enc Tryz.prog W 0 sp held m 331 (([c0, c1, c2, c3, c4, c5, c6, c7].drop 7).take (Tryz.prog.cellsOf 331)) = xs[6]? := hi 6 _ rfl
    rw [show Tryz.prog.cellsOf 331 = 1 by kernel_rfl, hy6] at h9
    exact h9
  obtain ⟨a0, e0, _, z0⟩ := DataW.trod_string Tryz.underlying9 h0
  obtain rfl := (List.cons.inj e0).1
  obtain ⟨a1, s1⟩ := openSl (R := KndC) Tryz.underlying329 (show Tryz.prog.cellsOf 325 = 2 by kernel_rfl) (by decide) (fun _ _ _ h => openKnd h) h1
  obtain ⟨a2, hk2⟩ := openKnd h2
  obtain ⟨e2, z2_0⟩ := hk2
  simp only [List.cons.injEq, and_true] at e2
  obtain ⟨rfl, rfl⟩ := e2
  obtain ⟨a3, e3, _, _⟩ := DataW.trod_int Tryz.underlying3 h3
  obtain rfl := (List.cons.inj e3).1
  obtain ⟨a4, e4, _, _⟩ := DataW.trod_int Tryz.underlying3 h4
  obtain rfl := (List.cons.inj e4).1
  obtain ⟨a5, s5⟩ := openSl (R := InsC) Tryz.underlying330 (show Tryz.prog.cellsOf 359 = 4 by kernel_rfl) (by decide) (fun _ _ _ h => openIns h) h5
  obtain ⟨a6, s6⟩ := openSl (R := MapC No W) Tryz.underlying331 (show Tryz.prog.cellsOf 363 = 3 by kernel_rfl) (by decide) (fun _ _ _ h => openMp h) h6
  exact ⟨⟨a0, a1, a2, a3, a4, a5, a6⟩, _, _, _, rfl, z0, z2_0, s1, s5, s6⟩

set_option maxHeartbeats 1000000 in
theorem openCls {fuel : Nat} {cs : List Value} {x : DataW H × List MemPlace} (h : DataW.trod enc Tryz.prog W 0 sp held fuel 249 cs = some x) : ∃ k : Cls, ClsC No W cs k := by
  obtain ⟨xs, m, rfl, rfl, hl, hxl, hi⟩ := DataW.trod_struct Tryz.underlying249 h
  obtain ⟨c0, c1, c2, c3, rfl⟩ := lst4 (hl.trans (show Tryz.prog.cellsOf 249 = 4 by kernel_rfl))
  clear hl h
  obtain ⟨y0, hy0⟩ : ∃ y, xs[0]? = some y := ⟨xs[0]'(by rw [hxl]; decide), List.getElem?_eq_getElem _⟩
  have h0 : DataW.trod enc Tryz.prog W 0 sp held m 9 [c0] = some y0 := by
    have h9 : DataW.trod enc Tryz.prog W 0 sp held m 9 (([c0, c1, c2, c3].drop 0).take (Tryz.prog.cellsOf 9)) = xs[0]? := hi 0 _ rfl
    rw [show Tryz.prog.cellsOf 9 = 1 by kernel_rfl, hy0] at h9
    exact h9
  obtain ⟨y1, hy1⟩ : ∃ y, xs[1]? = some y := ⟨xs[1]'(by rw [hxl]; decide), List.getElem?_eq_getElem _⟩
  have h1 : DataW.trod enc Tryz.prog W 0 sp held m 9 [c1] = some y1 := by
    have h9 : DataW.trod enc Tryz.prog W 0 sp held m 9 (([c0, c1, c2, c3].drop 1).take (Tryz.prog.cellsOf 9)) = xs[1]? := hi 1 _ rfl
    rw [show Tryz.prog.cellsOf 9 = 1 by kernel_rfl, hy1] at h9
    exact h9
  obtain ⟨y2, hy2⟩ : ∃ y, xs[2]? = some y := ⟨xs[2]'(by rw [hxl]; decide), List.getElem?_eq_getElem _⟩
  have h2 : DataW.trod enc Tryz.prog W 0 sp held m 246 [c2] = some y2 := by
    have h9 : DataW.trod enc Tryz.prog W 0 sp held m 246 (([c0, c1, c2, c3].drop 2).take (Tryz.prog.cellsOf 246)) = xs[2]? := hi 2 _ rfl
    rw [show Tryz.prog.cellsOf 246 = 1 by kernel_rfl, hy2] at h9
    exact h9
  obtain ⟨y3, hy3⟩ : ∃ y, xs[3]? = some y := ⟨xs[3]'(by rw [hxl]; decide), List.getElem?_eq_getElem _⟩
  have h3 : DataW.trod enc Tryz.prog W 0 sp held m 247 [c3] = some y3 := by
    have h9 : DataW.trod enc Tryz.prog W 0 sp held m 247 (([c0, c1, c2, c3].drop 3).take (Tryz.prog.cellsOf 247)) = xs[3]? := hi 3 _ rfl
    rw [show Tryz.prog.cellsOf 247 = 1 by kernel_rfl, hy3] at h9
    exact h9
  obtain ⟨a0, e0, _, z0⟩ := DataW.trod_string Tryz.underlying9 h0
  obtain rfl := (List.cons.inj e0).1
  obtain ⟨a1, e1, _, z1⟩ := DataW.trod_string Tryz.underlying9 h1
  obtain rfl := (List.cons.inj e1).1
  obtain ⟨a2, s2⟩ := openSl (R := FldC) Tryz.underlying246 (show Tryz.prog.cellsOf 327 = 3 by kernel_rfl) (by decide) (fun _ _ _ h => openFld h) h2
  obtain ⟨a3, s3⟩ := openSl (R := MthC No W) Tryz.underlying247 (show Tryz.prog.cellsOf 333 = 8 by kernel_rfl) (by decide) (fun _ _ _ h => openMth h) h3
  exact ⟨⟨a0, a1, a2, a3⟩, _, _, rfl, z0, z1, s2, s3⟩

set_option maxHeartbeats 1000000 in
theorem openAsk {fuel : Nat} {cs : List Value} {x : DataW H × List MemPlace} (h : DataW.trod enc Tryz.prog W 0 sp held fuel 251 cs = some x) : ∃ k : Ask, AskC cs k := by
  obtain ⟨xs, m, rfl, rfl, hl, hxl, hi⟩ := DataW.trod_struct Tryz.underlying251 h
  obtain ⟨c0, c1, rfl⟩ := lst2 (hl.trans (show Tryz.prog.cellsOf 251 = 2 by kernel_rfl))
  clear hl h
  obtain ⟨y0, hy0⟩ : ∃ y, xs[0]? = some y := ⟨xs[0]'(by rw [hxl]; decide), List.getElem?_eq_getElem _⟩
  have h0 : DataW.trod enc Tryz.prog W 0 sp held m 9 [c0] = some y0 := by
    have h9 : DataW.trod enc Tryz.prog W 0 sp held m 9 (([c0, c1].drop 0).take (Tryz.prog.cellsOf 9)) = xs[0]? := hi 0 _ rfl
    rw [show Tryz.prog.cellsOf 9 = 1 by kernel_rfl, hy0] at h9
    exact h9
  obtain ⟨y1, hy1⟩ : ∃ y, xs[1]? = some y := ⟨xs[1]'(by rw [hxl]; decide), List.getElem?_eq_getElem _⟩
  have h1 : DataW.trod enc Tryz.prog W 0 sp held m 3 [c1] = some y1 := by
    have h9 : DataW.trod enc Tryz.prog W 0 sp held m 3 (([c0, c1].drop 1).take (Tryz.prog.cellsOf 3)) = xs[1]? := hi 1 _ rfl
    rw [show Tryz.prog.cellsOf 3 = 1 by kernel_rfl, hy1] at h9
    exact h9
  obtain ⟨a0, e0, _, z0⟩ := DataW.trod_string Tryz.underlying9 h0
  obtain rfl := (List.cons.inj e0).1
  obtain ⟨a1, e1, _, _⟩ := DataW.trod_int Tryz.underlying3 h1
  obtain rfl := (List.cons.inj e1).1
  exact ⟨⟨a0, a1⟩, rfl, z0⟩

set_option maxHeartbeats 1000000 in
theorem openKpr {fuel : Nat} {cs : List Value} {x : DataW H × List MemPlace} (h : DataW.trod enc Tryz.prog W 0 sp held fuel 138 cs = some x) : ∃ k : Kpr, KprC No W cs k := by
  obtain ⟨xs, m, rfl, rfl, hl, hxl, hi⟩ := DataW.trod_struct Tryz.underlying138 h
  obtain ⟨c0, c1, rfl⟩ := lst2 (hl.trans (show Tryz.prog.cellsOf 138 = 2 by kernel_rfl))
  clear hl h
  obtain ⟨y0, hy0⟩ : ∃ y, xs[0]? = some y := ⟨xs[0]'(by rw [hxl]; decide), List.getElem?_eq_getElem _⟩
  have h0 : DataW.trod enc Tryz.prog W 0 sp held m 135 [c0] = some y0 := by
    have h9 : DataW.trod enc Tryz.prog W 0 sp held m 135 (([c0, c1].drop 0).take (Tryz.prog.cellsOf 135)) = xs[0]? := hi 0 _ rfl
    rw [show Tryz.prog.cellsOf 135 = 1 by kernel_rfl, hy0] at h9
    exact h9
  obtain ⟨y1, hy1⟩ : ∃ y, xs[1]? = some y := ⟨xs[1]'(by rw [hxl]; decide), List.getElem?_eq_getElem _⟩
  have h1 : DataW.trod enc Tryz.prog W 0 sp held m 136 [c1] = some y1 := by
    have h9 : DataW.trod enc Tryz.prog W 0 sp held m 136 (([c0, c1].drop 1).take (Tryz.prog.cellsOf 136)) = xs[1]? := hi 1 _ rfl
    rw [show Tryz.prog.cellsOf 136 = 1 by kernel_rfl, hy1] at h9
    exact h9
  obtain ⟨a0, s0⟩ := openSl (R := ClsC No W) Tryz.underlying135 (show Tryz.prog.cellsOf 249 = 4 by kernel_rfl) (by decide) (fun _ _ _ h => openCls h) h0
  obtain ⟨a1, s1⟩ := openSl (R := AskC) Tryz.underlying136 (show Tryz.prog.cellsOf 251 = 2 by kernel_rfl) (by decide) (fun _ _ _ h => openAsk h) h1
  exact ⟨⟨a0, a1⟩, _, _, rfl, s0, s1⟩

set_option maxHeartbeats 1000000 in
theorem openPlan {fuel : Nat} {cs : List Value} {x : DataW H × List MemPlace} (h : DataW.trod enc Tryz.prog W 0 sp held fuel 24 cs = some x) : ∃ k : Plan, PlanC No W cs k := by
  obtain ⟨xs, m, rfl, rfl, hl, hxl, hi⟩ := DataW.trod_struct Tryz.underlying24 h
  obtain ⟨c0, rfl⟩ := lst1 (hl.trans (show Tryz.prog.cellsOf 24 = 1 by kernel_rfl))
  clear hl h
  obtain ⟨y0, hy0⟩ : ∃ y, xs[0]? = some y := ⟨xs[0]'(by rw [hxl]; decide), List.getElem?_eq_getElem _⟩
  have h0 : DataW.trod enc Tryz.prog W 0 sp held m 22 [c0] = some y0 := by
    have h9 : DataW.trod enc Tryz.prog W 0 sp held m 22 (([c0].drop 0).take (Tryz.prog.cellsOf 22)) = xs[0]? := hi 0 _ rfl
    rw [show Tryz.prog.cellsOf 22 = 1 by kernel_rfl, hy0] at h9
    exact h9
  obtain ⟨a0, s0⟩ := openSl (R := KprC No W) Tryz.underlying22 (show Tryz.prog.cellsOf 138 = 2 by kernel_rfl) (by decide) (fun _ _ _ h => openKpr h) h0
  exact ⟨⟨a0⟩, _, rfl, s0⟩

end
end Go.Proofs.YthdibgikjekneaaGreat
