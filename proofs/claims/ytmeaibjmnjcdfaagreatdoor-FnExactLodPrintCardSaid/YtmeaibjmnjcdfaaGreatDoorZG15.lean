/- Regions that draw their order, told whole, with several writers, by rows (see All): one row an operation. -/
import Derived.Test.YtmeaibjmnjcdfaaGreatDoorZG13
import Derived.Test.YtmeaibjmnjcdfaaGreatDoorZG14
namespace Go.Proofs.YtmeaibjmnjcdfaaGreatDoor
open Go.RowKit
structure AR where
 p:Value->World->Prop
 u:Bool
 g:Bool
 v:Option Value
 mono:MonP p
 val:∀x,v=some x->p=isV x
 no:g=false->u=false∧p=isV undef
def aV (x:Value):AR:=⟨isV x,false,true,some x,zaz x,fun _ h=>by cases h;rfl,nofun⟩
def aC (p:Value->World->Prop) (h:MonP p):AR:=⟨p,false,true,none,h,nofun,nofun⟩
def aX (x:Value):AR:=⟨isV x,true,true,some x,zaz x,fun _ h=>by cases h;rfl,nofun⟩
def aW (p:Value->World->Prop) (h:MonP p):AR:=⟨p,true,true,none,h,nofun,nofun⟩
def aN:AR:=⟨isV undef,false,false,some undef,zaz undef,fun _ h=>by cases h;rfl,fun _=>⟨rfl,rfl⟩⟩
def AR.post (C:Nat->World->Prop) (S:World->World->Prop) (j:Nat) (r:AR) (W:World) (v:Value) (W':World):Prop:=if r.u=true then C (j+1) W'∧S W W'∧r.p v W' else Fr No W W'∧r.p v W'
section
variable {C:Nat->World->Prop} {S:World->World->Prop} {j:Nat} {W W':World} {v x:Value} {p:Value->World->Prop} {h:MonP p}
@[simp] theorem zpz:(aV x).post C S j W v W'=(Fr No W W'∧isV x v W'):=rfl
@[simp] theorem zpA:(aC p h).post C S j W v W'=(Fr No W W'∧p v W'):=rfl
@[simp] theorem zpB:(aX x).post C S j W v W'=(C (j+1) W'∧S W W'∧isV x v W'):=rfl
@[simp] theorem zpC:(aW p h).post C S j W v W'=(C (j+1) W'∧S W W'∧p v W'):=rfl
end
def zpD:List Oper->List AR->(Nat->Value)->Nat->Act->Act
 | o :: l,r :: R,vs,k,a=>zpD l R vs (k+1) (a.put o.dst (r.v.getD (vs k)))
 | [],_,_,_,a=>a
 | _ :: _,[],_,_,a=>a
section
variable {o:Oper} {l:List Oper} {R:List AR} {vs:Nat->Value} {k:Nat} {a:Act}
theorem zpE (x:Value):zpD (o :: l) (aV x :: R) vs k a=zpD l R vs (k+1) (a.put o.dst x):=rfl
theorem zpF (x:Value):zpD (o :: l) (aX x :: R) vs k a=zpD l R vs (k+1) (a.put o.dst x):=rfl
theorem zpG:zpD (o :: l) (aN :: R) vs k a=zpD l R vs (k+1) (a.put o.dst undef):=rfl
theorem zpJ:zpD l [] vs k a=a:=by cases l<;>rfl
end
theorem zpK:∀(l:List Oper) (R:List AR) (vs:Nat->Value) (W:World) (k:Nat) (a:Act),l.length=R.length->(∀j,j<R.length->(R.map AR.p).getD j (fun _ _=>True) (vs (k+j)) W)->
  zad l vs (fun _=>true) k a=zpD l R vs k a
 | [],R,_,_,_,_,_,_=>by cases R<;>rfl
 | o :: l,[],_,_,_,_,hl,_=>by simp at hl
 | o :: l,r :: R,vs,W,k,a,hl,h=>by
  have ih:=zpK l R vs W (k+1) (a.put o.dst (vs k)) (by simpa using hl) (fun j hj=>by
   have:=h (j+1) (by simpa using hj)
   rw[show k+(j+1)=k+1+j by omega] at this
   simpa using this)
  have e:r.v.getD (vs k)=vs k:=by
   cases hv:r.v with
   | none=>rfl
   | some u=>
    have h0:=h 0 (by simp)
    simp only[List.map_cons,List.getD_cons_zero,Nat.add_zero,r.val u hv] at h0
    exact h0.symm
  show zad (o :: l) vs (fun _=>true) k a=zpD l R vs (k+1) (a.put o.dst (r.v.getD (vs k)))
  rw[e]
  exact ih
def HopA (K:Oper->AR->Prop):List Oper->List AR->Prop
 | o :: l,r :: R=>K o r∧HopA K l R
 | [],_=>True
 | _ :: _,[]=>True
theorem hopA {K:Oper->AR->Prop} {o:Oper} {r:AR} {l:List Oper} {R:List AR} (h:K o r) (t:HopA K l R):HopA K (o :: l) (r :: R):=⟨h,t⟩
theorem zpL {K:Oper->AR->Prop} {l:List Oper}:HopA K l []:=by cases l<;>trivial
theorem HopA.at {K:Oper->AR->Prop}:∀{l:List Oper} {R:List AR},HopA K l R->∀(k:Nat) (o:Oper) (r:AR),l[k]? =some o->R[k]? =some r->K o r
 | [],_,_,_,_,_,h,_=>by simp at h
 | _ :: _,[],_,_,_,_,_,h=>by simp at h
 | o :: l,r :: R,h,0,o',r',h1,h2=>by
  rw[lz3] at h1 h2
  have e1:=Option.some.inj h1
  have e2:=Option.some.inj h2
  subst e1
  subst e2
  exact h.1
 | o :: l,r :: R,h,k+1,o',r',h1,h2=>HopA.at (l:=l) (R:=R) h.2 k o' r' (by simpa using h1) (by simpa using h2)
theorem hSA {v:Value} {W W':World} {o:Oper} {l:List Oper} {r:AR} {R:List AR} (hr:r.v.isSome=true) (t:HopA (fun _ r=>r.v=none->r.p v W->r.p v W') l R):HopA (fun _ r=>r.v=none->r.p v W->r.p v W') (o :: l) (r :: R):=⟨fun h=>(by rw[h] at hr;cases hr),t⟩
def grdA (l:List Oper) (R:List AR):Bool:=(l.zip R).all fun x=>match x.1.guard with
 | none=>x.2.g
 | some (i,b)=>match (R[i]?).bind AR.v with|some y=>(yb y == some b) == x.2.g|none=>false
def zpM (P:Program) (l:List Oper) (R:List AR) (a:Act) (C:Nat->World->Prop) (S:World->World->Prop) (tot:Nat) (o:Oper) (r:AR):Prop:=
 r.g=true->∀(a':Act) (W:World) (j:Nat),(if r.u=true then j<tot else j≤tot)->C j W->(∀t,offB l t=true->a'.tmps.getD t undef=a.tmps.getD t undef)->(∀i t,depB l o i t=true->(R.map AR.p).getD i (fun _ _=>True) (a'.tmps.getD t undef) W)->
  zaa P (r.post C S j W) ((execOp a'.eval o).run P W)
theorem aNo {P:Program} {l:List Oper} {R:List AR} {a:Act} {C:Nat->World->Prop} {S:World->World->Prop} {tot:Nat} {o:Oper}:zpM P l R a C S tot o aN:=fun h=>by cases h
theorem zpN {P:Program} {l:List Oper} {Q:Exit->Act->World->Prop} {a:Act} {w:World} {id:Nat} (tot M:Nat) (R:List AR) (C:Nat->World->Prop) (S:World->World->Prop) (hf:P.follows .mixedOrders=true)
  (hm:(zae l&&znm l.toArray&&decide (R.length=l.length)&&decide ((List.range l.length).countP (fun k=>(R.map AR.u).getD k false)=tot)&&znV l M&&grdA l R)=true) (hM:M≤a.tmps.size)
  (hC:∀j W W',C j W->Fr No W W'->C j W') (h0:C 0 w.drew) (hS:∀v W W',S W W'->HopA (fun _ r=>r.v=none->r.p v W->r.p v W') l R)
  (hop:HopA (zpM P l R a C S tot) l R)
  (hend:∀vs W,C tot W->(∀k,k<l.length->(R.map AR.p).getD k (fun _ _=>True) (vs k) W)->Q .normal (zpD l R vs 0 a) W):(Code.region id l.toArray true).wp P Q a w:=by
 simp only[lz5,decide_eq_true_eq] at hm
 obtain⟨⟨⟨⟨⟨h1,h2⟩,hl⟩,ht⟩,hd⟩,hg⟩:=hm
 have row:∀{k:Nat} {o:Oper},l[k]? =some o->∃r,R[k]? =some r∧(R.map AR.p).getD k (fun _ _=>True)=r.p∧(R.map AR.u).getD k false=r.u∧(R.map AR.g).getD k true=r.g:=fun {k o} ho=>by
  have hk:k<R.length:=by rw[hl];exact(List.getElem?_eq_some_iff.1 ho).1
  exact⟨R[k],lz8 hk,by simp[List.getD,lz8 hk],by simp[List.getD,lz8 hk],by simp[List.getD,lz8 hk]⟩
 have grow:∀k,k<R.length->∃o r,l[k]? =some o∧R[k]? =some r∧(R.map AR.p).getD k (fun _ _=>True)=r.p∧(R.map AR.u).getD k false=r.u∧(R.map AR.g).getD k true=r.g:=fun k hk=>by
  obtain⟨r,h⟩:=row (lz8 (show k<l.length by omega))
  exact⟨_,r,lz8 (show k<l.length by omega),h⟩
 have hop':∀(k:Nat) (o:Oper) (r:AR),l[k]? =some o->R[k]? =some r->r.g=true->∀(a':Act) (W:World) (j:Nat),(if r.u=true then j<tot else j≤tot)->C j W->(∀t,(∀p∈l,p.dst≠some t)->a'.eval (.tmp t)=a.eval (.tmp t))->(∀e∈o.after,Region.binds .any e=true->∀p d,l[e.on]? =some p->p.dst=some d->(R.map AR.p).getD e.on (fun _ _=>True) (a'.eval (.tmp d)) W)->zab P o a' W (r.post C S j W):=fun k o r ho hr hrg a' W j hj hW hoff hdep=>by
  exact hop.at k o r ho hr hrg a' W j hj hW (fun t ht=>hoff t fun p hp=>by
   have:=List.all_eq_true.1 ht p hp
   simpa using this) (fun i t hd=>by
   obtain⟨e,he,h2,p,hp,h4,rfl⟩:=znU hd
   exact hdep e he h2 p t hp h4)
 refine znr (R.map AR.p) (R.map AR.u) (R.map AR.g) tot C S hf (by rw[h1,h2,List.length_map,hl,ht];simp) (znW hd hM) (fun φ h=>by obtain⟨r,_,rfl⟩:=List.mem_map.1 h;exact r.mono) (fun φ h v W W' hv hs=>?_) hC (fun k o ho=>?_) (fun k hk hu=>?_) (fun k hk hg' W=>?_) h0 (fun k o ho hu hg' a' W j hj hW hoff hdep=>?_) (fun k o ho hu a' W j hj hW hoff hdep=>?_) (fun vs W hW hv=>?_)
 ·obtain⟨r,hr,rfl⟩:=List.mem_map.1 h
  obtain⟨k,hk,rfl⟩:=List.getElem_of_mem hr
  obtain⟨o,r',ho,hr',_⟩:=grow k hk
  cases hrv:R[k].v with
  | some x=>rw[R[k].val x hrv] at hv ⊢;exact hv
  | none=>exact(hS v W W' hs).at k o R[k] ho (lz8 hk) hrv hv
 ·obtain⟨r,hr,_,_,e3⟩:=row ho
  have hz:=List.all_eq_true.1 hg (o,r) (by
   rw[List.mem_iff_getElem?]
   exact⟨k,by rw[List.getElem?_zip_eq_some];exact⟨ho,hr⟩⟩)
  rw[e3]
  dsimp only at hz
  refine⟨fun hn=>by rw[hn] at hz;exact hz,fun i b hgd v W hv=>?_⟩
  rw[hgd] at hz
  dsimp only at hz
  cases hri:R[i]? with
  | none=>rw[hri] at hz;cases hz
  | some ri=>
   rw[hri] at hz
   cases hvi:ri.v with
   | none=>simp[hvi] at hz
   | some y=>
    simp only[Option.bind_some,hvi] at hz
    have e1:(R.map AR.p).getD i (fun _ _=>True)=ri.p:=by simp[List.getD,hri]
    rw[e1,ri.val y hvi] at hv
    obtain rfl:v=y:=hv
    exact eq_of_beq hz
 ·obtain⟨o,r,_,_,_,e2,e3⟩:=grow k (by simpa using hk)
  rw[e2] at hu
  rw[e3]
  cases hrg:r.g with
  | true=>rfl
  | false=>rw[(r.no hrg).1] at hu;cases hu
 ·obtain⟨o,r,_,_,e1,_,e3⟩:=grow k (by simpa using hk)
  rw[e3] at hg'
  rw[e1,(r.no hg').2]
  rfl
 ·obtain⟨r,hr,e1,e2,e3⟩:=row ho
  rw[e2] at hu
  rw[e3] at hg'
  have:=hop' k o r ho hr hg' a' W j (by rw[hu];exact hj) hW hoff hdep
  unfold AR.post at this
  rw[hu] at this
  rw[e1]
  exact this
 ·obtain⟨r,hr,e1,e2,e3⟩:=row ho
  rw[e2] at hu
  have hrg:r.g=true:=by
   cases hrg:r.g with
   | true=>rfl
   | false=>rw[(r.no hrg).1] at hu;cases hu
  have:=hop' k o r ho hr hrg a' W j (by rw[hu];exact hj) hW hoff hdep
  unfold AR.post at this
  rw[hu] at this
  rw[e1]
  exact this
 ·have:=hend vs W hW hv
  rw[<-zpK l R vs W 0 a hl.symm (fun j hj=>by rw[Nat.zero_add];exact hv j (by omega))] at this
  exact this
end Go.Proofs.YtmeaibjmnjcdfaaGreatDoor
