/- Values, things, methods that are done and runs: as data, and how they read as in memory. No program is named here. -/
import Derived.Test.YtbalicnnlfennaaGreatCG10
namespace Go.Proofs.YtbalicnnlfennaaGreat
open Go.RowKit

structure Val where
 kind : Int
 n : Int
structure LMth where
 of_ : Ref
 at_ : Int
structure Obj where
 of_ : Ref
 fields : List Val
structure Cal where
 of_ : LMth
 pc : Int
 locals : List Val
 stack : List Val
structure St where
 status : Int
 frames : List Cal
 heap : List Obj
 outs : List Int
 back : Val

def OutC (cs : List Value) (n : Int) : Prop := cs = [.int .i64 n]
def ValC (cs : List Value) (v : Val) : Prop := cs = [.int .i64 v.kind, .int .i64 v.n]
def ObjC (X : Nat → Prop) (w : World) (cs : List Value) (o : Obj) : Prop :=
 ∃ vf, cs = [.int .i64 o.of_.keeper, .string o.of_.name, vf] ∧ o.of_.name.size ≤ maxLen ∧ Sl X w 2 ValC vf o.fields
def CalC (X : Nat → Prop) (w : World) (cs : List Value) (f : Cal) : Prop :=
 ∃ vl vs, cs = [.int .i64 f.of_.of_.keeper, .string f.of_.of_.name, .int .i64 f.of_.at_, .int .i64 f.pc, vl, vs] ∧ f.of_.of_.name.size ≤ maxLen ∧ Sl X w 2 ValC vl f.locals ∧ Sl X w 2 ValC vs f.stack
def StC (X : Nat → Prop) (w : World) (cs : List Value) (s : St) : Prop :=
 ∃ vf vh vo, cs = [.int .i64 s.status, vf, vh, vo, .int .i64 s.back.kind, .int .i64 s.back.n] ∧ Sl X w 6 (CalC X w) vf s.frames ∧ Sl X w 3 (ObjC X w) vh s.heap ∧ Sl X w 1 OutC vo s.outs

section
variable {X Y : Nat → Prop} {w w' : World} {cs : List Value}
theorem ObjC.keep {o : Obj} (h : ObjC X w cs o) (hf : Fr Y w w') (hXY : ∀ b, Y b → X b) : ObjC X w' cs o := by
 obtain ⟨vf, rfl, h1, h2⟩ := h
 exact ⟨vf, rfl, h1, h2.keep hf hXY (fun _ _ _ h => h)⟩
theorem CalC.keep {f : Cal} (h : CalC X w cs f) (hf : Fr Y w w') (hXY : ∀ b, Y b → X b) : CalC X w' cs f := by
 obtain ⟨vl, vs, rfl, h1, h2, h3⟩ := h
 exact ⟨vl, vs, rfl, h1, h2.keep hf hXY (fun _ _ _ h => h), h3.keep hf hXY (fun _ _ _ h => h)⟩
theorem StC.keep {s : St} (h : StC X w cs s) (hf : Fr Y w w') (hXY : ∀ b, Y b → X b) : StC X w' cs s := by
 obtain ⟨vf, vh, vo, rfl, h1, h2, h3⟩ := h
 exact ⟨vf, vh, vo, rfl, h1.keep hf hXY (fun _ _ _ h => h.keep hf hXY), h2.keep hf hXY (fun _ _ _ h => h.keep hf hXY), h3.keep hf hXY (fun _ _ _ h => h)⟩
theorem ObjC.weaken {o : Obj} (h : ObjC X w cs o) (hYX : ∀ b, Y b → X b) : ObjC Y w cs o := by
 obtain ⟨vf, rfl, h1, h2⟩ := h
 exact ⟨vf, rfl, h1, h2.weaken hYX (fun _ _ _ h => h)⟩
theorem CalC.weaken {f : Cal} (h : CalC X w cs f) (hYX : ∀ b, Y b → X b) : CalC Y w cs f := by
 obtain ⟨vl, vs, rfl, h1, h2, h3⟩ := h
 exact ⟨vl, vs, rfl, h1, h2.weaken hYX (fun _ _ _ h => h), h3.weaken hYX (fun _ _ _ h => h)⟩
theorem StC.weaken {s : St} (h : StC X w cs s) (hYX : ∀ b, Y b → X b) : StC Y w cs s := by
 obtain ⟨vf, vh, vo, rfl, h1, h2, h3⟩ := h
 exact ⟨vf, vh, vo, rfl, h1.weaken hYX (fun _ _ _ h => h.weaken hYX), h2.weaken hYX (fun _ _ _ h => h.weaken hYX), h3.weaken hYX (fun _ _ _ h => h)⟩
theorem ObjC.old {o : Obj} (h : ObjC No w cs o) : ObjC (fun b => w.heap.size ≤ b) w cs o := by
 obtain ⟨vf, rfl, h1, h2⟩ := h
 exact ⟨vf, rfl, h1, h2.old (by decide) (fun _ _ _ h => h)⟩
theorem CalC.old {f : Cal} (h : CalC No w cs f) : CalC (fun b => w.heap.size ≤ b) w cs f := by
 obtain ⟨vl, vs, rfl, h1, h2, h3⟩ := h
 exact ⟨vl, vs, rfl, h1, h2.old (by decide) (fun _ _ _ h => h), h3.old (by decide) (fun _ _ _ h => h)⟩
theorem StC.old {s : St} (h : StC No w cs s) : StC (fun b => w.heap.size ≤ b) w cs s := by
 obtain ⟨vf, vh, vo, rfl, h1, h2, h3⟩ := h
 exact ⟨vf, vh, vo, rfl, h1.old (by decide) (fun _ _ _ h => h.old), h2.old (by decide) (fun _ _ _ h => h.old), h3.old (by decide) (fun _ _ _ h => h)⟩
end

section
variable {X : Nat → Prop} {w : World} {A : Option Addr} {n cap : Nat}
theorem Sl.num {xs : List Int} (h : Sl X w 1 OutC (.slice A n cap) xs) {k : Nat} (hk : k < xs.length) :
  ∃ b off, A = some ⟨b, off, none⟩ ∧ ¬ X b ∧ w.cell? ⟨b, off + k, none⟩ = some (.int .i64 xs[k]) := by
 obtain ⟨b, off, cs, hA, hX, rfl, hc⟩ := h.cells hk
 refine ⟨b, off, hA, hX, ?_⟩
 have := hc 0 _ (by decide) rfl
 simpa using this
theorem Sl.val {xs : List Val} (h : Sl X w 2 ValC (.slice A n cap) xs) {k : Nat} (hk : k < xs.length) :
  ∃ b off, A = some ⟨b, off, none⟩ ∧ ¬ X b ∧ w.cell? ⟨b, off + k * 2, none⟩ = some (.int .i64 xs[k].kind) ∧ w.cell? ⟨b, off + k * 2 + 1, none⟩ = some (.int .i64 xs[k].n) := by
 obtain ⟨b, off, cs, hA, hX, rfl, hc⟩ := h.cells hk
 exact ⟨b, off, hA, hX, hc 0 _ (by decide) rfl, hc 1 _ (by decide) rfl⟩
theorem Sl.obj {xs : List Obj} (h : Sl X w 3 (ObjC X w) (.slice A n cap) xs) {k : Nat} (hk : k < xs.length) :
  ∃ b off Af cf, A = some ⟨b, off, none⟩ ∧ ¬ X b ∧ w.cell? ⟨b, off + k * 3, none⟩ = some (.int .i64 xs[k].of_.keeper) ∧ w.cell? ⟨b, off + k * 3 + 1, none⟩ = some (.string xs[k].of_.name) ∧ w.cell? ⟨b, off + k * 3 + 2, none⟩ = some (.slice Af xs[k].fields.length cf) ∧ xs[k].of_.name.size ≤ maxLen ∧ Sl X w 2 ValC (.slice Af xs[k].fields.length cf) xs[k].fields ∧ xs[k].fields.length ≤ cf ∧ xs[k].fields.length ≤ maxLen := by
 obtain ⟨b, off, cs, hA, hX, ⟨vf, rfl, z0, hvf⟩, hc⟩ := h.cells hk
 obtain ⟨Af, cf, rfl, pvf, qvf⟩ := hvf.form
 exact ⟨b, off, Af, cf, hA, hX, hc 0 _ (by decide) rfl, hc 1 _ (by decide) rfl, hc 2 _ (by decide) rfl, z0, hvf, pvf, qvf⟩
theorem Sl.cal {xs : List Cal} (h : Sl X w 6 (CalC X w) (.slice A n cap) xs) {k : Nat} (hk : k < xs.length) :
  ∃ b off Al cl As cs, A = some ⟨b, off, none⟩ ∧ ¬ X b ∧ w.cell? ⟨b, off + k * 6, none⟩ = some (.int .i64 xs[k].of_.of_.keeper) ∧ w.cell? ⟨b, off + k * 6 + 1, none⟩ = some (.string xs[k].of_.of_.name) ∧ w.cell? ⟨b, off + k * 6 + 2, none⟩ = some (.int .i64 xs[k].of_.at_) ∧ w.cell? ⟨b, off + k * 6 + 3, none⟩ = some (.int .i64 xs[k].pc) ∧ w.cell? ⟨b, off + k * 6 + 4, none⟩ = some (.slice Al xs[k].locals.length cl) ∧ w.cell? ⟨b, off + k * 6 + 5, none⟩ = some (.slice As xs[k].stack.length cs) ∧ xs[k].of_.of_.name.size ≤ maxLen ∧ Sl X w 2 ValC (.slice Al xs[k].locals.length cl) xs[k].locals ∧ Sl X w 2 ValC (.slice As xs[k].stack.length cs) xs[k].stack ∧ xs[k].locals.length ≤ cl ∧ xs[k].locals.length ≤ maxLen ∧ xs[k].stack.length ≤ cs ∧ xs[k].stack.length ≤ maxLen := by
 obtain ⟨b, off, cs, hA, hX, ⟨vl, vs, rfl, z0, hvl, hvs⟩, hc⟩ := h.cells hk
 obtain ⟨Al, cl, rfl, pvl, qvl⟩ := hvl.form
 obtain ⟨As, cs, rfl, pvs, qvs⟩ := hvs.form
 exact ⟨b, off, Al, cl, As, cs, hA, hX, hc 0 _ (by decide) rfl, hc 1 _ (by decide) rfl, hc 2 _ (by decide) rfl, hc 3 _ (by decide) rfl, hc 4 _ (by decide) rfl, hc 5 _ (by decide) rfl, z0, hvl, hvs, pvl, qvl, pvs, qvs⟩
theorem Bx.c6 {g : Nat} {t : TypeId} {c0 c1 c2 c3 c4 c5 : Value} (h : Bx w g t #[c0, c1, c2, c3, c4, c5]) : w.cell? ⟨g, 0, none⟩ = some c0 ∧ w.cell? ⟨g, 1, none⟩ = some c1 ∧ w.cell? ⟨g, 2, none⟩ = some c2 ∧ w.cell? ⟨g, 3, none⟩ = some c3 ∧ w.cell? ⟨g, 4, none⟩ = some c4 ∧ w.cell? ⟨g, 5, none⟩ = some c5 :=
 ⟨h.cell 0, h.cell 1, h.cell 2, h.cell 3, h.cell 4, h.cell 5⟩
end

def numB (n : Int) : Bool := decide (-9999 ≤ n) && decide (n ≤ 9999)
def valB (many : Int) (v : Val) : Bool :=
 if v.kind = 1 then numB v.n else if v.kind = 2 then decide (0 ≤ v.n) && decide (v.n < many) else (decide (v.kind = 0) || decide (v.kind = 3)) && decide (v.n = 0)
end Go.Proofs.YtbalicnnlfennaaGreat

namespace Go.Proofs.YtbalicnnlfennaaGreat
open Go.RowKit

def noObj : Obj := ⟨noRef, []⟩
def noMth : Mth := ⟨noS, [], ⟨0, noS⟩, 0, 0, [], []⟩
def objB (p : Plan) (many : Nat) (o : Obj) : Bool := canB p o.of_ && decide (o.fields.length = (layK p o.of_).length) && o.fields.all (valB many)
def heapB (p : Plan) (h : List Obj) : Bool := decide (h.length ≤ 12) && h.all (objB p h.length)
def hasB (p : Plan) (k : Int) (h : List Obj) (v : Val) (t : Knd) : Bool :=
 if t.kind = 1 then decide (v.kind = 1) else if v.kind = 3 then true else
  if v.kind = 2 then decide ((findK p k t.name).2 = 1) && underK p (h.getD v.n.toNat noObj).of_ (findK p k t.name).1 else false
def mthOf (p : Plan) (m : LMth) : Mth := (clsAt p m.of_).methods.getD m.at_.toNat noMth
def hasMB (p : Plan) (m : LMth) : Bool := canB p m.of_ && decide (0 ≤ m.at_) && decide (m.at_ < (clsAt p m.of_).methods.length)
def frmB (p : Plan) (many : Nat) (f : Cal) : Bool :=
 hasMB p f.of_ && decide (0 ≤ f.pc) && decide (f.pc < (mthOf p f.of_).code.length) && decide ((f.locals.length : Int) = (mthOf p f.of_).locals) &&
  decide ((f.stack.length : Int) ≤ (mthOf p f.of_).stack) && f.locals.all (valB many) && f.stack.all (valB many)
def stB (p : Plan) (s : St) : Bool :=
 decide (1 ≤ s.status) && decide (s.status ≤ 10) && decide (s.heap.length ≤ 12) && decide (s.outs.length ≤ 40) && decide (s.frames.length ≤ 8) &&
  (decide (0 < s.frames.length) == decide (s.status = 1)) && s.outs.all numB && s.frames.all (frmB p s.heap.length) && heapB p s.heap && valB s.heap.length s.back
theorem getD_nat {α : Type} {xs : List α} {i : Nat} (h : i < xs.length) (d : α) : xs.getD ((i : Int).toNat) d = xs[i] := by
 simp [List.getD, List.getElem?_eq_getElem h]
theorem allB_step {α : Type} {f : α → Bool} {xs : List α} {k : Nat} (hk : k < xs.length) (h : (xs.take k).all f = true) (hf : f xs[k] = true) : (xs.take (k + 1)).all f = true := by
 rw [List.take_succ_eq_append_getElem hk, List.all_append, h]; simp [hf]
theorem allB_no {α : Type} {f : α → Bool} {xs : List α} {k : Nat} (hk : k < xs.length) (hf : f xs[k] = false) : xs.all f = false := by
 rw [List.all_eq_false]
 exact ⟨_, List.getElem_mem hk, by simp [hf]⟩
theorem allB_yes {α : Type} {f : α → Bool} {xs : List α} {k : Nat} (hk : xs.length ≤ k) (h : (xs.take k).all f = true) : xs.all f = true := by
 rwa [List.take_of_length_le hk] at h
end Go.Proofs.YtbalicnnlfennaaGreat
