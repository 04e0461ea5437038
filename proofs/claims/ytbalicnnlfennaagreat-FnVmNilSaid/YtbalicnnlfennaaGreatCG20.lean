/- The program's link of a field: get; LnkGet. -/
import Derived.Test.YtbalicnnlfennaaGreatCG19
namespace Go.Proofs.YtbalicnnlfennaaGreat
open Go.RowKit

def zeroF : LFld := ⟨noRef, 0, ⟨0, ⟨#[]⟩⟩⟩
def getG (p : Plan) (k : Int) (m : Str) (rc : Ref × Int) : LFld × Int :=
 if rc.2 = 1 then getGo p k m 0 (fldsOf p (chainK p rc.1).reverse) else (zeroF, rc.2)
def getB (p : Plan) (k : Int) (s m : Str) : LFld × Int := getG p k m (linkB p k s m)
def lfV (f : LFld) : Value := .agg #[.int .i64 f.of_.keeper, .string f.of_.name, .int .i64 f.at_, .int .i64 f.kind.kind, .string f.kind.name]
def GetPost (q : LFld × Int) (p : Plan) (l bl n : Nat) (w : World) (e : Ending) (w' : World) : Prop :=
 ∃ ev, e = .returned (.tuple #[lfV q.1, ev]) ∧ ErrV q.2 ev w' ∧ Fr (fun b => b = bl) w w' ∧ Lg w' l bl (n + 2) p
theorem GetPost.mk {q : LFld × Int} {p : Plan} {l bl n : Nat} {w w' : World} {v ev : Value} {f : LFld} {c : Int} (hq : q = (f, c)) (hv : v = .tuple #[lfV f, ev]) (he : ErrV c ev w') (hf : Fr (fun b => b = bl) w w') (hl : Lg w' l bl (n + 2) p) : GetPost q p l bl n w (.returned v) w' := by
 subst hq; subst hv; exact ⟨_, rfl, he, hf, hl⟩
theorem set5 {X : Nat → Prop} {a w : World} {g : Nat} {c0 c1 c2 c3 c4 : Value} {o : Go.Obj} (h : Fr X a w) (hg : a.heap.size ≤ g) : Fr X a ((((((w.setCell ⟨g, 0, none⟩ c0).setCell ⟨g, 1, none⟩ c1).setCell ⟨g, 2, none⟩ c2).setCell ⟨g, 3, none⟩ c3).setCell ⟨g, 4, none⟩ c4).alloc o) :=
 (((((h.setCell hg c0).setCell (p := ⟨g, 1, none⟩) hg c1).setCell (p := ⟨g, 2, none⟩) hg c2).setCell (p := ⟨g, 3, none⟩) hg c3).setCell (p := ⟨g, 4, none⟩) hg c4).alloc o
theorem set5X {n : Nat} {a w : World} {g : Nat} {c0 c1 c2 c3 c4 : Value} {o : Go.Obj} (h : Fr (fun b => n ≤ b) a w) (hg : n ≤ g) : Fr (fun b => n ≤ b) a ((((((w.setCell ⟨g, 0, none⟩ c0).setCell ⟨g, 1, none⟩ c1).setCell ⟨g, 2, none⟩ c2).setCell ⟨g, 3, none⟩ c3).setCell ⟨g, 4, none⟩ c4).alloc o) :=
 (((((h.setCellX (p := ⟨g, 0, none⟩) hg c0).setCellX (p := ⟨g, 1, none⟩) hg c1).setCellX (p := ⟨g, 2, none⟩) hg c2).setCellX (p := ⟨g, 3, none⟩) hg c3).setCellX (p := ⟨g, 4, none⟩) hg c4).alloc o
theorem set5' {X : Nat → Prop} {a w : World} {g : Nat} {c0 c1 c2 c3 c4 : Value} (h : Fr X a w) (hg : a.heap.size ≤ g) : Fr X a (((((w.setCell ⟨g, 0, none⟩ c0).setCell ⟨g, 1, none⟩ c1).setCell ⟨g, 2, none⟩ c2).setCell ⟨g, 3, none⟩ c3).setCell ⟨g, 4, none⟩ c4) :=
 ((((h.setCell hg c0).setCell (p := ⟨g, 1, none⟩) hg c1).setCell (p := ⟨g, 2, none⟩) hg c2).setCell (p := ⟨g, 3, none⟩) hg c3).setCell (p := ⟨g, 4, none⟩) hg c4
theorem set5X' {n : Nat} {a w : World} {g : Nat} {c0 c1 c2 c3 c4 : Value} (h : Fr (fun b => n ≤ b) a w) (hg : n ≤ g) : Fr (fun b => n ≤ b) a (((((w.setCell ⟨g, 0, none⟩ c0).setCell ⟨g, 1, none⟩ c1).setCell ⟨g, 2, none⟩ c2).setCell ⟨g, 3, none⟩ c3).setCell ⟨g, 4, none⟩ c4) :=
 ((((h.setCellX (p := ⟨g, 0, none⟩) hg c0).setCellX (p := ⟨g, 1, none⟩) hg c1).setCellX (p := ⟨g, 2, none⟩) hg c2).setCellX (p := ⟨g, 3, none⟩) hg c3).setCellX (p := ⟨g, 4, none⟩) hg c4
theorem bx5 {w : World} {g : Nat} {t : TypeId} {cs : Array Value} {c0 c1 c2 c3 c4 : Value} : Bx ((((((w.setCell ⟨g, 0, none⟩ c0).setCell ⟨g, 1, none⟩ c1).setCell ⟨g, 2, none⟩ c2).setCell ⟨g, 3, none⟩ c3).setCell ⟨g, 4, none⟩ c4).alloc (.cells cs t)) w.heap.size t cs := Bx.new_ (by simp)
theorem nodup_rev : ∀ {xs : List Ref}, xs.Nodup → xs.reverse.Nodup
 | [], _ => by simp
 | x :: xs, h => by
  rw [List.nodup_cons] at h
  rw [List.reverse_cons, List.nodup_append]
  refine ⟨nodup_rev h.2, by simp, fun a ha b hb => ?_⟩
  obtain rfl : b = x := by simpa using hb
  rintro rfl
  exact h.1 (by simpa using ha)
theorem knd_small {k : Knd} (h : kndB k = true) : k.name.size ≤ maxLen := by
 unfold kndB at h
 simp only [Bool.or_eq_true, Bool.and_eq_true] at h
 rcases h with h | h
 ·have h1 : k.name.toList = [] := by simpa using h.2
  rw [toList_data] at h1
  have : k.name.size = 0 := by
   show k.name.data.size = 0
   rw [← Array.length_toList, h1]; rfl
  omega
 ·exact name_small h.2
theorem fld_small {p : Plan} (hp : lodB p = true) {r : Ref} {k i : Nat} (hh : Here p r k i) : ∀ f ∈ (clsAt p r).fields, f.name.size ≤ maxLen ∧ f.kind.name.size ≤ maxLen := fun f hf => by
 have := clsB_fld (Here.clsB hp hh) f hf
 exact ⟨name_small this.1, knd_small this.2⟩
theorem linkB_can {p : Plan} (hp : lodB p = true) {k : Int} {s m : Str} {r : Ref} (h : linkB p k s m = (r, 1)) : canB p r = true := by
 unfold linkB at h
 split at h
 ·obtain ⟨kc, i, rfl, _, h2, _⟩ := classB_one hp h
  exact h2
 ·cases h
theorem lay_small {p : Plan} (hp : lodB p = true) {rs : List Ref} (h : AllHere p rs) (i : Nat) : ∀ x ∈ layGo i (fldsOf p rs), x.of_.name.size ≤ maxLen ∧ x.kind.name.size ≤ maxLen := fun x hx => by
 obtain ⟨k, hk, he⟩ := List.getElem_of_mem hx
 rw [layGo_len] at hk
 rw [layGo_get _ _ _ hk] at he
 subst he
 obtain ⟨h1, h2⟩ := fldsOf_mem (List.getElem_mem hk)
 obtain ⟨h3, _, _, hh⟩ := h _ h1
 exact ⟨h3, (fld_small hp hh _ h2).2⟩
end Go.Proofs.YtbalicnnlfennaaGreat

namespace Go.Proofs.YtbalicnnlfennaaGreat
open Go.RowKit

def eachF (p : Plan) (k : Int) : List Tag → List Tag → Bool
 | [], [] => true
 | a :: l, b :: m => mayK p k a b && eachF p k l m
 | _, _ => false
theorem eachF_no {p : Plan} {k : Int} : ∀ {xs ys : List Tag}, ¬ xs.length = ys.length → eachF p k xs ys = false
 | [], [], h => absurd rfl h
 | [], _ :: _, _ => rfl
 | _ :: _, [], _ => rfl
 | x :: xs, y :: ys, h => by rw [eachF, eachF_no (xs := xs) (ys := ys) (fun e => h (by simp [e]))]; simp
theorem eachF_yes {p : Plan} {k : Int} : ∀ {xs ys : List Tag}, xs.length = ys.length → (∀ (i : Nat) (h1 : i < xs.length) (h2 : i < ys.length), mayK p k xs[i] ys[i] = true) → eachF p k xs ys = true
 | [], [], _, _ => rfl
 | [], _ :: _, h, _ => absurd h (by simp)
 | _ :: _, [], h, _ => absurd h (by simp)
 | x :: xs, y :: ys, h, hm => by
  rw [eachF, show mayK p k x y = true from hm 0 (by simp) (by simp), eachF_yes (xs := xs) (ys := ys) (by simpa using h) (fun i h1 h2 => hm (i + 1) (by simpa using h1) (by simpa using h2))]
  rfl
theorem eachF_not {p : Plan} {k : Int} : ∀ {xs ys : List Tag} (i : Nat) (h1 : i < xs.length) (h2 : i < ys.length), mayK p k xs[i] ys[i] = false → eachF p k xs ys = false
 | x :: xs, y :: ys, 0, _, _, h => by rw [eachF, show mayK p k x y = false from h]; rfl
 | x :: xs, y :: ys, i + 1, h1, h2, h => by
  rw [eachF, eachF_not (xs := xs) (ys := ys) i (by simpa using h1) (by simpa using h2) (by simpa using h)]; simp
end Go.Proofs.YtbalicnnlfennaaGreat

namespace Go.Proofs.YtbalicnnlfennaaGreat
open Go.RowKit

structure Frm where
 locals : List Tag
 stack : List Tag
def takeF (st : List Tag) : Option (Tag × List Tag) := match st.getLast? with
 | none => none
 | some x => some (x, st.dropLast)
def popF (p : Plan) (k : Int) (st : List Tag) (t : Tag) : Option (List Tag) := match takeF st with
 | none => none
 | some (x, r) => if mayK p k x t then some r else none
def popR (st : List Tag) : Option (List Tag) := match takeF st with
 | none => none
 | some (x, r) => if x.kind = 2 ∨ x.kind = 3 then some r else none
def pushF (most : Int) (st : List Tag) (t : Tag) : Option (List Tag) := if (st.length : Int) < most then some (st ++ [t]) else none
def popsF (p : Plan) (k : Int) : List Tag → List Knd → Option (List Tag)
 | st, [] => some st
 | st, a :: l => match popF p k st (tagOf a) with
  | none => none
  | some r => popsF p k r l
def mthAt (p : Plan) (q : Ref × Int) : Mth := (clsAt p q.1).methods.getD q.2.toNat zeroMth
def insF (p : Plan) (k : Int) (m : Mth) (f : Frm) (i : Ins) : Option Frm :=
 if i.op = 1 then (pushF m.stack f.stack numT).map (⟨f.locals, ·⟩)
 else if i.op = 2 then (if (f.locals.getD i.a.toNat noT).kind = 0 then none else (pushF m.stack f.stack (f.locals.getD i.a.toNat noT)).map (⟨f.locals, ·⟩))
 else if i.op = 3 then (takeF f.stack).map (fun x => ⟨f.locals.set i.a.toNat x.1, x.2⟩)
 else if i.op = 4 then ((popF p k f.stack numT).bind fun s => (popF p k s numT).bind fun s => pushF m.stack s numT).map (⟨f.locals, ·⟩)
 else if i.op = 5 then (pushF m.stack f.stack nullT).map (⟨f.locals, ·⟩)
 else if i.op = 6 then (pushF m.stack f.stack (clsT i.name)).map (⟨f.locals, ·⟩)
 else if i.op = 7 then (if (getB p k i.name i.member).2 = 1 then ((popF p k f.stack (clsT i.name)).bind fun s => pushF m.stack s (tagOf (getB p k i.name i.member).1.kind)).map (⟨f.locals, ·⟩) else none)
 else if i.op = 8 then (if (getB p k i.name i.member).2 = 1 then ((popF p k f.stack (tagOf (getB p k i.name i.member).1.kind)).bind fun s => popF p k s (clsT i.name)).map (⟨f.locals, ·⟩) else none)
 else if i.op = 9 then (if (callB p k i.name i.member).2 = 1 then ((popsF p k f.stack (mthAt p (callB p k i.name i.member).1).args.reverse).bind fun s => (popF p k s (clsT i.name)).bind fun s => pushF m.stack s (tagOf (mthAt p (callB p k i.name i.member).1).ret)).map (⟨f.locals, ·⟩) else none)
 else if i.op = 10 then (popF p k f.stack (tagOf m.ret)).map (⟨f.locals, ·⟩)
 else if i.op = 11 then (popF p k f.stack numT).map (⟨f.locals, ·⟩)
 else if i.op = 12 then (popR f.stack).map (⟨f.locals, ·⟩)
 else if i.op = 13 then some f
 else if i.op = 14 then (popF p k f.stack numT).map (⟨f.locals, ·⟩)
 else if i.op = 15 then ((popR f.stack).bind fun s => pushF m.stack s (clsT i.name)).map (⟨f.locals, ·⟩)
 else none
def mapF (m : Mth) (j : Int) : Option Mp := m.maps.find? (fun x => x.at_ == j)
def suffF (p : Plan) (k : Int) (f : Frm) (x : Mp) : Bool := eachF p k f.locals x.locals && eachF p k f.stack x.stack
def leadsF (p : Plan) (k : Int) (m : Mth) (f : Frm) (i : Ins) : Bool :=
 if i.op = 11 ∨ i.op = 12 ∨ i.op = 13 then (match mapF m i.a with
  | none => false
  | some x => suffF p k f x) else true
def meetF (p : Plan) (k : Int) (m : Mth) (j : Int) (f : Frm) (goes : Bool) : Option Frm := match mapF m j with
 | some x => if goes && !suffF p k f x then none else some ⟨x.locals, x.stack⟩
 | none => if goes then some f else none
def goesOn (i : Ins) : Bool := decide (i.op ≠ 10) && decide (i.op ≠ 13)
def lookGo (p : Plan) (k : Int) (m : Mth) : Nat → List Ins → Frm → Bool → List Frm → List Frm × Int
 | j, [], _, goes, out => if goes then ([], (j : Int) + 1) else (out, 0)
 | j, i :: is, f, goes, out => match meetF p k m j f goes with
  | none => ([], (j : Int) + 1)
  | some g => match insF p k m g i with
   | none => ([], (j : Int) + 1)
   | some h => if leadsF p k m h i then lookGo p k m (j + 1) is h (goesOn i) (out ++ [g]) else ([], (j : Int) + 1)
def beginF (s : Str) (m : Mth) : Frm := ⟨(clsT s :: m.args.map tagOf) ++ List.replicate (m.locals.toNat - (m.args.length + 1)) noT, []⟩
def lookF (p : Plan) (k : Int) (s : Str) (m : Mth) : List Frm × Int := lookGo p k m 0 m.code (beginF s m) true []
end Go.Proofs.YtbalicnnlfennaaGreat
