/- A method as the verifier looks at it: what is known ahead of each instruction, and the first that is wrong; the plain law. No program is named here. -/
import Derived.Test.YtbalicnnlfennaaGreatBG20
namespace Go.Proofs.YtbalicnnlfennaaGreat
open Go.RowKit

/-- What is known of all places, and of the stack (its last is on top). -/
structure Frm where
  locals : List Tag
  stack : List Tag
def takeF (st : List Tag) : Option (Tag × List Tag) := match st.getLast? with
  | none => none
  | some x => some (x, st.dropLast)
def popF (p : Plan) (k : Int) (st : List Tag) (t : Tag) : Option (List Tag) := match takeF st with
  | none => none
  | some (x, r) => if mayK p k x t then some r else none
def popR (st : List Tag) : Option (List Tag) := match takeF st with
  | none => none
  | some (x, r) => if x.kind = 2 ∨ x.kind = 3 then some r else none
def pushF (most : Int) (st : List Tag) (t : Tag) : Option (List Tag) := if (st.length : Int) < most then some (st ++ [t]) else none
/-- The arguments, the last first. -/
def popsF (p : Plan) (k : Int) : List Tag → List Knd → Option (List Tag)
  | st, [] => some st
  | st, a :: l => match popF p k st (tagOf a) with
    | none => none
    | some r => popsF p k r l
def mthAt (p : Plan) (q : Ref × Int) : Mth := (clsAt p q.1).methods.getD q.2.toNat zeroMth
def insF (p : Plan) (k : Int) (m : Mth) (f : Frm) (i : Ins) : Option Frm :=
  if i.op = 1 then (pushF m.stack f.stack numT).map (⟨f.locals, ·⟩)
  else if i.op = 2 then (if (f.locals.getD i.a.toNat noT).kind = 0 then none else (pushF m.stack f.stack (f.locals.getD i.a.toNat noT)).map (⟨f.locals, ·⟩))
  else if i.op = 3 then (takeF f.stack).map (fun x => ⟨f.locals.set i.a.toNat x.1, x.2⟩)
  else if i.op = 4 then ((popF p k f.stack numT).bind fun s => (popF p k s numT).bind fun s => pushF m.stack s numT).map (⟨f.locals, ·⟩)
  else if i.op = 5 then (pushF m.stack f.stack nullT).map (⟨f.locals, ·⟩)
  else if i.op = 6 then (pushF m.stack f.stack (clsT i.name)).map (⟨f.locals, ·⟩)
  else if i.op = 7 then (if (getB p k i.name i.member).2 = 1 then ((popF p k f.stack (clsT i.name)).bind fun s => pushF m.stack s (tagOf (getB p k i.name i.member).1.kind)).map (⟨f.locals, ·⟩) else none)
  else if i.op = 8 then (if (getB p k i.name i.member).2 = 1 then ((popF p k f.stack (tagOf (getB p k i.name i.member).1.kind)).bind fun s => popF p k s (clsT i.name)).map (⟨f.locals, ·⟩) else none)
  else if i.op = 9 then (if (callB p k i.name i.member).2 = 1 then ((popsF p k f.stack (mthAt p (callB p k i.name i.member).1).args.reverse).bind fun s => (popF p k s (clsT i.name)).bind fun s => pushF m.stack s (tagOf (mthAt p (callB p k i.name i.member).1).ret)).map (⟨f.locals, ·⟩) else none)
  else if i.op = 10 then (popF p k f.stack (tagOf m.ret)).map (⟨f.locals, ·⟩)
  else if i.op = 11 then (popF p k f.stack numT).map (⟨f.locals, ·⟩)
  else if i.op = 12 then (popR f.stack).map (⟨f.locals, ·⟩)
  else if i.op = 13 then some f
  else if i.op = 14 then (popF p k f.stack numT).map (⟨f.locals, ·⟩)
  else if i.op = 15 then ((popR f.stack).bind fun s => pushF m.stack s (clsT i.name)).map (⟨f.locals, ·⟩)
  else none
def mapF (m : Mth) (j : Int) : Option Mp := m.maps.find? (fun x => x.at_ == j)
def suffF (p : Plan) (k : Int) (f : Frm) (x : Mp) : Bool := eachF p k f.locals x.locals && eachF p k f.stack x.stack
def leadsF (p : Plan) (k : Int) (m : Mth) (f : Frm) (i : Ins) : Bool :=
  if i.op = 11 ∨ i.op = 12 ∨ i.op = 13 then (match mapF m i.a with
    | none => false
    | some x => suffF p k f x) else true
/-- What is known ahead of an instruction: what is told there, if something is. -/
def meetF (p : Plan) (k : Int) (m : Mth) (j : Int) (f : Frm) (goes : Bool) : Option Frm := match mapF m j with
  | some x => if goes && !suffF p k f x then none else some ⟨x.locals, x.stack⟩
  | none => if goes then some f else none
def goesOn (i : Ins) : Bool := decide (i.op ≠ 10) && decide (i.op ≠ 13)
def lookGo (p : Plan) (k : Int) (m : Mth) : Nat → List Ins → Frm → Bool → List Frm → List Frm × Int
  | j, [], _, goes, out => if goes then ([], (j : Int) + 1) else (out, 0)
  | j, i :: is, f, goes, out => match meetF p k m j f goes with
    | none => ([], (j : Int) + 1)
    | some g => match insF p k m g i with
      | none => ([], (j : Int) + 1)
      | some h => if leadsF p k m h i then lookGo p k m (j + 1) is h (goesOn i) (out ++ [g]) else ([], (j : Int) + 1)
/-- What is known at a method's beginning. -/
def beginF (s : Str) (m : Mth) : Frm := ⟨(clsT s :: m.args.map tagOf) ++ List.replicate (m.locals.toNat - (m.args.length + 1)) noT, []⟩
def lookF (p : Plan) (k : Int) (s : Str) (m : Mth) : List Frm × Int := lookGo p k m 0 m.code (beginF s m) true []
end Go.Proofs.YtbalicnnlfennaaGreat

/- Runs as data: what an instruction does, how a run begins and goes on; the plain law. No program is named here. -/
namespace Go.Proofs.YtbalicnnlfennaaGreat
open Go.RowKit

def noVal : Val := ⟨0, 0⟩
/-- It ends so. -/
def St.ends (s : St) (c : Int) : St := ⟨c, [], s.heap, s.outs, s.back⟩
/-- It goes on, with these methods. -/
def St.goes (s : St) (fs : List Cal) : St := ⟨1, fs, s.heap, s.outs, s.back⟩
def jumpM (p : Plan) (s : St) (fs : List Cal) (f : Cal) (to : Int) : St :=
  if ((mthOf p f.of_).code.length : Int) ≤ to then s.ends 10 else s.goes (fs ++ [⟨f.of_, to, f.locals, f.stack⟩])
def nextM (p : Plan) (s : St) (fs : List Cal) (f : Cal) : St := jumpM p s fs f (f.pc + 1)
def putM (p : Plan) (s : St) (fs : List Cal) (f : Cal) (v : Val) : St :=
  if (mthOf p f.of_).stack ≤ f.stack.length then s.ends 10 else nextM p s fs ⟨f.of_, f.pc, f.locals, f.stack ++ [v]⟩
def Cal.left (f : Cal) (st : List Val) : Cal := ⟨f.of_, f.pc, f.locals, st⟩
/-- What is on top, and the rest. -/
def popV (st : List Val) : Option (Val × List Val) := match st.getLast? with
  | none => none
  | some x => some (x, st.dropLast)
/-- So many from the top, the lowest first. -/
def popsV (st : List Val) (n : Nat) : Option (List Val × List Val) := if n ≤ st.length then some (st.drop (st.length - n), st.take (st.length - n)) else none
def classM (p : Plan) (k : Int) (s : Str) : Option Ref := if (findK p k s).2 = 1 then (if canB p (findK p k s).1 then some (findK p k s).1 else none) else none
def newVals (p : Plan) (r : Ref) : List Val := (layB p r).map fun f => if f.kind.kind = 1 then ⟨1, 0⟩ else ⟨3, 0⟩
/-- 1, if a value is a thing of a class, or of one under it; else what comes of it. -/
def objM (p : Plan) (h : List Obj) (v : Val) (top : Ref) : Int :=
  if v.kind = 3 then 3 else if v.kind = 2 then (if underK p (h.getD v.n.toNat noObj).of_ top then 1 else 10) else 10
def typesB (p : Plan) (of_ : LMth) (h : List Obj) (vs : List Val) : Bool :=
  (vs.zip (⟨2, of_.of_.name⟩ :: (mthOf p of_).args)).all fun x => hasB p of_.of_.keeper h x.1 x.2
def rightM (p : Plan) (of_ : LMth) : Bool := decide ((lookF p of_.of_.keeper of_.of_.name (mthOf p of_)).2 = 0)
def enterM (p : Plan) (look : Bool) (s : St) (fs : List Cal) (of_ : LMth) (vs : List Val) : St :=
  if 8 ≤ fs.length then s.ends 7 else if look && !rightM p of_ then s.ends 5 else if typesB p of_ s.heap vs then
    s.goes (fs ++ [⟨of_, 0, vs ++ List.replicate ((mthOf p of_).locals.toNat - vs.length) noVal, []⟩]) else s.ends 10
def St.withHeap (s : St) (h : List Obj) : St := ⟨s.status, s.frames, h, s.outs, s.back⟩
def St.withOuts (s : St) (o : List Int) : St := ⟨s.status, s.frames, s.heap, o, s.back⟩
def St.withBack (s : St) (b : Val) : St := ⟨s.status, s.frames, s.heap, s.outs, b⟩
def retM (p : Plan) (s : St) (fs : List Cal) (v : Val) : St := match fs.getLast? with
  | none => (s.withBack v).ends 2
  | some g => putM p s fs.dropLast g v
def insM (p : Plan) (look : Bool) (s : St) (fs : List Cal) (f : Cal) (i : Ins) : St :=
  if i.op = 1 then putM p s fs f ⟨1, i.a⟩
  else if i.op = 2 then (if (f.locals.getD i.a.toNat noVal).kind = 0 then s.ends 10 else putM p s fs f (f.locals.getD i.a.toNat noVal))
  else if i.op = 3 then (match popV f.stack with
    | none => s.ends 10
    | some (v, r) => nextM p s fs ⟨f.of_, f.pc, f.locals.set i.a.toNat v, r⟩)
  else if i.op = 4 then (match popsV f.stack 2 with
    | none => s.ends 10
    | some (two, r) => if (two.getD 0 noVal).kind = 1 then (if (two.getD 1 noVal).kind = 1 then (if numB ((two.getD 0 noVal).n + (two.getD 1 noVal).n) then putM p s fs (f.left r) ⟨1, (two.getD 0 noVal).n + (two.getD 1 noVal).n⟩ else s.ends 9) else s.ends 10) else s.ends 10)
  else if i.op = 5 then putM p s fs f ⟨3, 0⟩
  else if i.op = 6 then (match classM p f.of_.of_.keeper i.name with
    | none => s.ends 4
    | some r => if 12 ≤ s.heap.length then s.ends 8 else putM p (s.withHeap (s.heap ++ [⟨r, newVals p r⟩])) fs f ⟨2, s.heap.length⟩)
  else if i.op = 7 then (if (getB p f.of_.of_.keeper i.name i.member).2 = 1 then (match popV f.stack with
    | none => s.ends 10
    | some (v, r) => if objM p s.heap v (getB p f.of_.of_.keeper i.name i.member).1.of_ = 1 then putM p s fs (f.left r) ((s.heap.getD v.n.toNat noObj).fields.getD (getB p f.of_.of_.keeper i.name i.member).1.at_.toNat noVal) else s.ends (objM p s.heap v (getB p f.of_.of_.keeper i.name i.member).1.of_)) else s.ends 4)
  else if i.op = 8 then (if (getB p f.of_.of_.keeper i.name i.member).2 = 1 then (match popsV f.stack 2 with
    | none => s.ends 10
    | some (two, r) => if hasB p (getB p f.of_.of_.keeper i.name i.member).1.of_.keeper s.heap (two.getD 1 noVal) (getB p f.of_.of_.keeper i.name i.member).1.kind then
        (if objM p s.heap (two.getD 0 noVal) (getB p f.of_.of_.keeper i.name i.member).1.of_ = 1 then
          nextM p (s.withHeap (s.heap.modify (two.getD 0 noVal).n.toNat fun o => ⟨o.of_, o.fields.set (getB p f.of_.of_.keeper i.name i.member).1.at_.toNat (two.getD 1 noVal)⟩)) fs (f.left r)
        else s.ends (objM p s.heap (two.getD 0 noVal) (getB p f.of_.of_.keeper i.name i.member).1.of_)) else s.ends 10) else s.ends 4)
  else if i.op = 9 then (if (callB p f.of_.of_.keeper i.name i.member).2 = 1 then (match popsV f.stack ((mthAt p (callB p f.of_.of_.keeper i.name i.member).1).args.length + 1) with
    | none => s.ends 10
    | some (vs, r) => if objM p s.heap (vs.getD 0 noVal) (callB p f.of_.of_.keeper i.name i.member).1.1 = 1 then (match pickB p (s.heap.getD (vs.getD 0 noVal).n.toNat noObj).of_ i.member with
      | none => s.ends 10
      | some q => enterM p look s (fs ++ [f.left r]) ⟨q.1, q.2⟩ vs) else s.ends (objM p s.heap (vs.getD 0 noVal) (callB p f.of_.of_.keeper i.name i.member).1.1)) else s.ends 4)
  else if i.op = 10 then (match popV f.stack with
    | none => s.ends 10
    | some (v, _) => if hasB p f.of_.of_.keeper s.heap v (mthOf p f.of_).ret then retM p s fs v else s.ends 10)
  else if i.op = 11 then (match popV f.stack with
    | none => s.ends 10
    | some (v, r) => if v.kind = 1 then (if v.n = 0 then jumpM p s fs (f.left r) i.a else nextM p s fs (f.left r)) else s.ends 10)
  else if i.op = 12 then (match popV f.stack with
    | none => s.ends 10
    | some (v, r) => if v.kind = 2 ∨ v.kind = 3 then (if v.kind = 3 then jumpM p s fs (f.left r) i.a else nextM p s fs (f.left r)) else s.ends 10)
  else if i.op = 13 then jumpM p s fs f i.a
  else if i.op = 14 then (match popV f.stack with
    | none => s.ends 10
    | some (v, r) => if v.kind = 1 then nextM p (s.withOuts (if s.outs.length < 40 then s.outs ++ [v.n] else s.outs)) fs (f.left r) else s.ends 10)
  else if i.op = 15 then (match popV f.stack with
    | none => s.ends 10
    | some (v, r) => if v.kind = 2 ∨ v.kind = 3 then (if v.kind = 3 then putM p s fs (f.left r) v else (match classM p f.of_.of_.keeper i.name with
      | none => s.ends 4
      | some q => if underK p (s.heap.getD v.n.toNat noObj).of_ q then putM p s fs (f.left r) v else s.ends 6)) else s.ends 10)
  else s.ends 10
def noIns : Ins := ⟨0, 0, noS, noS⟩
def stepM (p : Plan) (look : Bool) (s : St) : St :=
  if s.status = 1 then (match s.frames.getLast? with
    | none => s
    | some f => insM p look s s.frames.dropLast f ((mthOf p f.of_).code.getD f.pc.toNat noIns)) else s
def runM (p : Plan) (look : Bool) : Nat → St → St
  | 0, s => s
  | n + 1, s => if s.status = 1 then runM p look n (stepM p look s) else s
def startB (m : Mth) (args : List Int) : Bool := decide (m.args.length = args.length) && m.args.all fun k => decide (k.kind = 1)
end Go.Proofs.YtbalicnnlfennaaGreat
