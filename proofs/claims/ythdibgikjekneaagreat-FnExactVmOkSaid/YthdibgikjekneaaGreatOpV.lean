/- The statement's reading of values, things and runs. -/
import Derived.Test.YthdibgikjekneaaGreatOpR
import Derived.Test.YthdibgikjekneaaGreatVmd
namespace Go.Proofs.YthdibgikjekneaaGreat
open Go.RowKit Go.ChangeShapes

def LMthW (cs : List Value) (m : LMth) : Prop := LMthC cs m ∧ (Lit.int .i64 m.of_.keeper).wf = true
def ObjW (X : Nat → Prop) (w : World) (cs : List Value) (o : Obj) : Prop := ObjC X w cs o ∧ (Lit.int .i64 o.of_.keeper).wf = true
def FrmW (X : Nat → Prop) (w : World) (cs : List Value) (f : Frm) : Prop := FrmC X w cs f ∧ (Lit.int .i64 f.of_.of_.keeper).wf = true
theorem Sl.mem {α : Type} {X : Nat → Prop} {w : World} {sz : Nat} {R : List Value → α → Prop} {v : Value} {xs : List α} (h : Sl X w sz R v xs) : ∀ x ∈ xs, ∃ cs, R cs x := fun x hx => by
  obtain ⟨A, cap, rfl, _, _, h3⟩ := h
  obtain ⟨k, hk, rfl⟩ := List.mem_iff_getElem.1 hx
  obtain ⟨b, off, _, _, h4⟩ := h3 (by omega)
  obtain ⟨cs, h5, _⟩ := h4 k hk
  exact ⟨cs, h5⟩
theorem lst6 {l : List Value} (h : l.length = 6) : ∃ a b c d e f, l = [a, b, c, d, e, f] := by
  match l, h with
  | [a, b, c, d, e, f], _ => exact ⟨a, b, c, d, e, f, rfl⟩

section
variable {H : Type} {enc : TypeId × Value → H} {P : Program} {w : World} {base : Nat} {spare : Nat → Bool} {held : Bool}
theorem trodAll_five {t0 t1 t2 t3 t4 : TypeId} {args : Array Value} {ds : List (DataW H)} {ps : List MemPlace} (h : DataW.TrodAll enc P w base spare held [t0, t1, t2, t3, t4] args.toList ds ps) :
    ∃ v0 v1 v2 v3 v4 d0 d1 d2 d3 d4 p0 p1 p2 p3 p4, args = #[v0, v1, v2, v3, v4] ∧ ds = [d0, d1, d2, d3, d4] ∧ ps = p0 ++ p1 ++ p2 ++ p3 ++ p4 ∧ DataW.Trod enc P w base spare held t0 v0 d0 p0 ∧ DataW.Trod enc P w base spare held t1 v1 d1 p1 ∧ DataW.Trod enc P w base spare held t2 v2 d2 p2 ∧ DataW.Trod enc P w base spare held t3 v3 d3 p3 ∧ DataW.Trod enc P w base spare held t4 v4 d4 p4 := by
  obtain ⟨v0, vs0, d0, ds0, p0, q0, hargs, rfl, rfl, h0, r0⟩ := trodAll_cons h
  obtain ⟨v1, vs1, d1, ds1, p1, q1, rfl, rfl, rfl, h1, r1⟩ := trodAll_cons r0
  obtain ⟨v2, vs2, d2, ds2, p2, q2, rfl, rfl, rfl, h2, r2⟩ := trodAll_cons r1
  obtain ⟨v3, vs3, d3, ds3, p3, q3, rfl, rfl, rfl, h3, r3⟩ := trodAll_cons r2
  obtain ⟨v4, vs4, d4, ds4, p4, q4, rfl, rfl, rfl, h4, r4⟩ := trodAll_cons r3
  obtain ⟨rfl, rfl, rfl⟩ := trodAll_nil r4
  exact ⟨v0, v1, v2, v3, v4, d0, d1, d2, d3, d4, p0, p1, p2, p3, p4, by cases args; simp_all, rfl, by simp, h0, h1, h2, h3, h4⟩
end

section
variable {H : Type} {enc : TypeId × Value → H} {W : World} {sp : Nat → Bool} {held : Bool}
set_option maxHeartbeats 1000000 in
theorem openLMth {fuel : Nat} {cs : List Value} {x : DataW H × List MemPlace} (h : DataW.trod enc Tryz.prog W 0 sp held fuel 194 cs = some x) : ∃ k : LMth, LMthW cs k := by
  obtain ⟨xs, m, rfl, rfl, hl, hxl, hi⟩ := DataW.trod_struct Tryz.underlying194 h
  obtain ⟨c0, c1, c2, rfl⟩ := lst3 (hl.trans (show Tryz.prog.cellsOf 194 = 3 by kernel_rfl))
  clear hl h
  obtain ⟨y0, hy0⟩ : ∃ y, xs[0]? = some y := ⟨xs[0]'(by rw [hxl]; decide), List.getElem?_eq_getElem _⟩
  have h0 : DataW.trod enc Tryz.prog W 0 sp held m 26 [c0, c1] = some y0 := by
    have h9 : DataW.trod enc Tryz.prog W 0 sp held m 26 (([c0, c1, c2].drop 0).take (Tryz.prog.cellsOf 26)) = xs[0]? := hi 0 _ rfl
    rw [show Tryz.prog.cellsOf 26 = 2 by kernel_rfl, hy0] at h9
    exact h9
  obtain ⟨y1, hy1⟩ : ∃ y, xs[1]? = some y := ⟨xs[1]'(by rw [hxl]; decide), List.getElem?_eq_getElem _⟩
  have h1 : DataW.trod enc Tryz.prog W 0 sp held m 3 [c2] = some y1 := by
    have h9 : DataW.trod enc Tryz.prog W 0 sp held m 3 (([c0, c1, c2].drop 2).take (Tryz.prog.cellsOf 3)) = xs[1]? := hi 1 _ rfl
    rw [show Tryz.prog.cellsOf 3 = 1 by kernel_rfl, hy1] at h9
    exact h9
  obtain ⟨a0, hk0, wk0⟩ := openRef h0
  obtain ⟨e0, z0_0⟩ := hk0
  simp only [List.cons.injEq, and_true] at e0
  obtain ⟨rfl, rfl⟩ := e0
  obtain ⟨a1, e1, _, _⟩ := DataW.trod_int Tryz.underlying3 h1
  obtain rfl := (List.cons.inj e1).1
  exact ⟨⟨a0, a1⟩, ⟨rfl, z0_0⟩, wk0⟩

set_option maxHeartbeats 1000000 in
theorem openVal {fuel : Nat} {cs : List Value} {x : DataW H × List MemPlace} (h : DataW.trod enc Tryz.prog W 0 sp held fuel 49 cs = some x) : ∃ k : Val, ValC cs k := by
  obtain ⟨xs, m, rfl, rfl, hl, hxl, hi⟩ := DataW.trod_struct Tryz.underlying49 h
  obtain ⟨c0, c1, rfl⟩ := lst2 (hl.trans (show Tryz.prog.cellsOf 49 = 2 by kernel_rfl))
  clear hl h
  obtain ⟨y0, hy0⟩ : ∃ y, xs[0]? = some y := ⟨xs[0]'(by rw [hxl]; decide), List.getElem?_eq_getElem _⟩
  have h0 : DataW.trod enc Tryz.prog W 0 sp held m 3 [c0] = some y0 := by
    have h9 : DataW.trod enc Tryz.prog W 0 sp held m 3 (([c0, c1].drop 0).take (Tryz.prog.cellsOf 3)) = xs[0]? := hi 0 _ rfl
    rw [show Tryz.prog.cellsOf 3 = 1 by kernel_rfl, hy0] at h9
    exact h9
  obtain ⟨y1, hy1⟩ : ∃ y, xs[1]? = some y := ⟨xs[1]'(by rw [hxl]; decide), List.getElem?_eq_getElem _⟩
  have h1 : DataW.trod enc Tryz.prog W 0 sp held m 3 [c1] = some y1 := by
    have h9 : DataW.trod enc Tryz.prog W 0 sp held m 3 (([c0, c1].drop 1).take (Tryz.prog.cellsOf 3)) = xs[1]? := hi 1 _ rfl
    rw [show Tryz.prog.cellsOf 3 = 1 by kernel_rfl, hy1] at h9
    exact h9
  obtain ⟨a0, e0, _, _⟩ := DataW.trod_int Tryz.underlying3 h0
  obtain rfl := (List.cons.inj e0).1
  obtain ⟨a1, e1, _, _⟩ := DataW.trod_int Tryz.underlying3 h1
  obtain rfl := (List.cons.inj e1).1
  exact ⟨⟨a0, a1⟩, rfl⟩

set_option maxHeartbeats 1000000 in
theorem openObj {fuel : Nat} {cs : List Value} {x : DataW H × List MemPlace} (h : DataW.trod enc Tryz.prog W 0 sp held fuel 110 cs = some x) : ∃ k : Obj, ObjW No W cs k := by
  obtain ⟨xs, m, rfl, rfl, hl, hxl, hi⟩ := DataW.trod_struct Tryz.underlying110 h
  obtain ⟨c0, c1, c2, rfl⟩ := lst3 (hl.trans (show Tryz.prog.cellsOf 110 = 3 by kernel_rfl))
  clear hl h
  obtain ⟨y0, hy0⟩ : ∃ y, xs[0]? = some y := ⟨xs[0]'(by rw [hxl]; decide), List.getElem?_eq_getElem _⟩
  have h0 : DataW.trod enc Tryz.prog W 0 sp held m 26 [c0, c1] = some y0 := by
    have h9 : DataW.trod enc Tryz.prog W 0 sp held m 26 (([c0, c1, c2].drop 0).take (Tryz.prog.cellsOf 26)) = xs[0]? := hi 0 _ rfl
    rw [show Tryz.prog.cellsOf 26 = 2 by kernel_rfl, hy0] at h9
    exact h9
  obtain ⟨y1, hy1⟩ : ∃ y, xs[1]? = some y := ⟨xs[1]'(by rw [hxl]; decide), List.getElem?_eq_getElem _⟩
  have h1 : DataW.trod enc Tryz.prog W 0 sp held m 108 [c2] = some y1 := by
    have h9 : DataW.trod enc Tryz.prog W 0 sp held m 108 (([c0, c1, c2].drop 2).take (Tryz.prog.cellsOf 108)) = xs[1]? := hi 1 _ rfl
    rw [show Tryz.prog.cellsOf 108 = 1 by kernel_rfl, hy1] at h9
    exact h9
  obtain ⟨a0, hk0, wk0⟩ := openRef h0
  obtain ⟨e0, z0_0⟩ := hk0
  simp only [List.cons.injEq, and_true] at e0
  obtain ⟨rfl, rfl⟩ := e0
  obtain ⟨a1, s1⟩ := openSl (R := ValC) Tryz.underlying108 (show Tryz.prog.cellsOf 49 = 2 by kernel_rfl) (by decide) (fun _ _ _ h => openVal h) h1
  exact ⟨⟨a0, a1⟩, ⟨_, rfl, z0_0, s1⟩, wk0⟩

set_option maxHeartbeats 1000000 in
theorem openFrm {fuel : Nat} {cs : List Value} {x : DataW H × List MemPlace} (h : DataW.trod enc Tryz.prog W 0 sp held fuel 196 cs = some x) : ∃ k : Frm, FrmW No W cs k := by
  obtain ⟨xs, m, rfl, rfl, hl, hxl, hi⟩ := DataW.trod_struct Tryz.underlying196 h
  obtain ⟨c0, c1, c2, c3, c4, c5, rfl⟩ := lst6 (hl.trans (show Tryz.prog.cellsOf 196 = 6 by kernel_rfl))
  clear hl h
  obtain ⟨y0, hy0⟩ : ∃ y, xs[0]? = some y := ⟨xs[0]'(by rw [hxl]; decide), List.getElem?_eq_getElem _⟩
  have h0 : DataW.trod enc Tryz.prog W 0 sp held m 194 [c0, c1, c2] = some y0 := by
    have h9 : DataW.trod enc Tryz.prog W 0 sp held m 194 (([c0, c1, c2, c3, c4, c5].drop 0).take (Tryz.prog.cellsOf 194)) = xs[0]? := hi 0 _ rfl
    rw [show Tryz.prog.cellsOf 194 = 3 by kernel_rfl, hy0] at h9
    exact h9
  obtain ⟨y1, hy1⟩ : ∃ y, xs[1]? = some y := ⟨xs[1]'(by rw [hxl]; decide), List.getElem?_eq_getElem _⟩
  have h1 : DataW.trod enc Tryz.prog W 0 sp held m 3 [c3] = some y1 := by
    have h9 : DataW.trod enc Tryz.prog W 0 sp held m 3 (([c0, c1, c2, c3, c4, c5].drop 3).take (Tryz.prog.cellsOf 3)) = xs[1]? := hi 1 _ rfl
    rw [show Tryz.prog.cellsOf 3 = 1 by kernel_rfl, hy1] at h9
    exact h9
  obtain ⟨y2, hy2⟩ : ∃ y, xs[2]? = some y := ⟨xs[2]'(by rw [hxl]; decide), List.getElem?_eq_getElem _⟩
  have h2 : DataW.trod enc Tryz.prog W 0 sp held m 108 [c4] = some y2 := by
    have h9 : DataW.trod enc Tryz.prog W 0 sp held m 108 (([c0, c1, c2, c3, c4, c5].drop 4).take (Tryz.prog.cellsOf 108)) = xs[2]? := hi 2 _ rfl
    rw [show Tryz.prog.cellsOf 108 = 1 by kernel_rfl, hy2] at h9
    exact h9
  obtain ⟨y3, hy3⟩ : ∃ y, xs[3]? = some y := ⟨xs[3]'(by rw [hxl]; decide), List.getElem?_eq_getElem _⟩
  have h3 : DataW.trod enc Tryz.prog W 0 sp held m 108 [c5] = some y3 := by
    have h9 : DataW.trod enc Tryz.prog W 0 sp held m 108 (([c0, c1, c2, c3, c4, c5].drop 5).take (Tryz.prog.cellsOf 108)) = xs[3]? := hi 3 _ rfl
    rw [show Tryz.prog.cellsOf 108 = 1 by kernel_rfl, hy3] at h9
    exact h9
  obtain ⟨a0, hk0, wk0⟩ := openLMth h0
  obtain ⟨e0, z0_0⟩ := hk0
  simp only [List.cons.injEq, and_true] at e0
  obtain ⟨rfl, rfl, rfl⟩ := e0
  obtain ⟨a1, e1, _, _⟩ := DataW.trod_int Tryz.underlying3 h1
  obtain rfl := (List.cons.inj e1).1
  obtain ⟨a2, s2⟩ := openSl (R := ValC) Tryz.underlying108 (show Tryz.prog.cellsOf 49 = 2 by kernel_rfl) (by decide) (fun _ _ _ h => openVal h) h2
  obtain ⟨a3, s3⟩ := openSl (R := ValC) Tryz.underlying108 (show Tryz.prog.cellsOf 49 = 2 by kernel_rfl) (by decide) (fun _ _ _ h => openVal h) h3
  exact ⟨⟨a0, a1, a2, a3⟩, ⟨_, _, rfl, z0_0, s2, s3⟩, wk0⟩

theorem openObjS {fuel : Nat} {v : Value} {x : DataW H × List MemPlace} (h : DataW.trod enc Tryz.prog W 0 sp held fuel 47 [v] = some x) : ∃ xs : List Obj, Sl No W 3 (ObjC No W) v xs ∧ ∀ o ∈ xs, (Lit.int .i64 o.of_.keeper).wf = true := by
  obtain ⟨xs, hs⟩ := openSl (R := ObjW No W) Tryz.underlying47 (show Tryz.prog.cellsOf 110 = 3 by kernel_rfl) (by decide) (fun _ _ _ h => openObj h) h
  exact ⟨xs, hs.weaken (fun _ h => h) (fun _ _ _ h => h.1), fun o ho => let ⟨_, hc⟩ := hs.mem o ho; hc.2⟩
end
end Go.Proofs.YthdibgikjekneaaGreat
