/- Regions that draw their order, told by rows: one row an operation of the head (what it yields; is it new memory; its law outlives what comes behind it). -/
import Derived.Test.YtmeaibjmnjcdfaaGreatDoorZG12
namespace Go.Proofs.YtmeaibjmnjcdfaaGreatDoor
open Go.RowKit
def slB (t:TypeId) (cs:Array Value) (n:Nat) (base:Nat):Value->World->Prop:=fun v W=>∃b,v=.slice (some ⟨b,0,none⟩) n n∧Bx W b t cs∧base≤b
theorem zj1 (t:TypeId) (cs:Array Value) (n base:Nat):MonP (slB t cs n base):=fun _ _ _ ⟨b,h1,h2,h3⟩ hf=>⟨b,h1,h2.keep hf,h3⟩
theorem zj2 {t:TypeId} {cs:Array Value} {n base:Nat} {v:Value} {W:World} (h:slB t cs n base v W):bk v<W.heap.size:=by
 obtain⟨b,rfl,hb,_⟩:=h
 exact hb.lt
structure MR where
 p:Value->World->Prop
 al:Bool
 ea:Bool
 v:Option Value
 mono:MonP p
 bk:al=true->∀v W,p v W->bk v<W.heap.size
 val:∀u,v=some u->p=isV u
def mV (u:Value):MR:=⟨isV u,false,false,some u,zaz u,nofun,fun _ h=>by cases h;rfl⟩
def mC (p:Value->World->Prop) (h:MonP p):MR:=⟨p,false,false,none,h,nofun,nofun⟩
def mA (b:Bool) (p:Value->World->Prop) (h:MonP p) (hb:b=true->∀v W,p v W->bk v<W.heap.size):MR:=⟨p,b,false,none,h,hb,nofun⟩
def mB (t:TypeId) (cs:Array Value) (base:Nat):MR:=⟨atB t cs base,true,false,none,zaA t cs base,fun _ _ _ h=>zaB h,nofun⟩
def mS (t:TypeId) (cs:Array Value) (n base:Nat):MR:=⟨slB t cs n base,true,false,none,zj1 t cs n base,fun _ _ _ h=>zj2 h,nofun⟩
def MR.post (r:MR) (W:World) (v:Value) (W':World):Prop:=Fr No W W'∧r.p v W'∧(r.al=true->W.heap.size≤Go.Proofs.YtmeaibjmnjcdfaaGreatDoor.bk v)
@[simp] theorem postV (u:Value) (W:World) (v:Value) (W':World):(mV u).post W v W'=(Fr No W W'∧isV u v W'):=by simp[MR.post,mV]
@[simp] theorem postC (p:Value->World->Prop) (h:MonP p) (W:World) (v:Value) (W':World):(mC p h).post W v W'=(Fr No W W'∧p v W'):=by simp[MR.post,mC]
@[simp] theorem postA (b:Bool) (p:Value->World->Prop) (h:MonP p) (hb:b=true->∀v W,p v W->bk v<W.heap.size) (W:World) (v:Value) (W':World):(mA b p h hb).post W v W'=(Fr No W W'∧p v W'∧(b=true->W.heap.size≤bk v)):=rfl
@[simp] theorem postB (t:TypeId) (cs:Array Value) (base:Nat) (W:World) (v:Value) (W':World):(mB t cs base).post W v W'=(Fr No W W'∧atB t cs base v W'∧W.heap.size≤bk v):=by simp[MR.post,mB]
@[simp] theorem postS (t:TypeId) (cs:Array Value) (n base:Nat) (W:World) (v:Value) (W':World):(mS t cs n base).post W v W'=(Fr No W W'∧slB t cs n base v W'∧W.heap.size≤bk v):=by simp[MR.post,mS]
def znJ:List Oper->List MR->(Nat->Value)->Nat->Act->Act
 | o :: l,r :: R,vs,k,a=>znJ l R vs (k+1) (a.put o.dst (r.v.getD (vs k)))
 | [],_,_,_,a=>a
 | _ :: _,[],_,_,a=>a
section
variable {o:Oper} {l:List Oper} {R:List MR} {vs:Nat->Value} {k:Nat} {a:Act}
theorem znK (u:Value):znJ (o :: l) (mV u :: R) vs k a=znJ l R vs (k+1) (a.put o.dst u):=rfl
theorem znM (p:Value->World->Prop) (h:MonP p):znJ (o :: l) (mC p h :: R) vs k a=znJ l R vs (k+1) (a.put o.dst (vs k)):=rfl
theorem znQ (t:TypeId) (cs:Array Value) (n base:Nat):znJ (o :: l) (mS t cs n base :: R) vs k a=znJ l R vs (k+1) (a.put o.dst (vs k)):=rfl
theorem znR:znJ l [] vs k a=a:=by cases l<;>rfl
end
theorem znS:∀(l:List Oper) (R:List MR) (vs:Nat->Value) (W:World) (k:Nat) (a:Act),(∀j,j<R.length->(R.map MR.p).getD j (fun _ _=>True) (vs (k+j)) W)->
  zad (l.take R.length) vs (fun _=>true) k a=znJ l R vs k a
 | [],R,_,_,_,_,_=>by cases R<;>rfl
 | o :: l,[],_,_,_,_,_=>rfl
 | o :: l,r :: R,vs,W,k,a,h=>by
  have ih:=znS l R vs W (k+1) (a.put o.dst (vs k)) (fun j hj=>by
   have:=h (j+1) (by simpa using hj)
   rw[show k+(j+1)=k+1+j by omega] at this
   simpa using this)
  have e:r.v.getD (vs k)=vs k:=by
   cases hv:r.v with
   | none=>rfl
   | some u=>
    have h0:=h 0 (by simp)
    simp only[List.map_cons,List.getD_cons_zero,Nat.add_zero,r.val u hv] at h0
    exact h0.symm
  show zad (o :: l.take R.length) vs (fun _=>true) k a=znJ l R vs (k+1) (a.put o.dst (r.v.getD (vs k)))
  rw[e]
  exact ih
def HopG (K:Oper->MR->Prop):List Oper->List MR->Prop
 | o :: l,r :: R=>K o r∧HopG K l R
 | [],_=>True
 | _ :: _,[]=>True
theorem hopC {K:Oper->MR->Prop} {o:Oper} {r:MR} {l:List Oper} {R:List MR} (h:K o r) (t:HopG K l R):HopG K (o :: l) (r :: R):=⟨h,t⟩
theorem hopZ {K:Oper->MR->Prop} {l:List Oper}:HopG K l []:=by cases l<;>trivial
theorem hc4 {K:Oper->MR->Prop} {o p q s:Oper} {a b c d:MR} {l:List Oper} {R:List MR} (h:K o a) (i:K p b) (j:K q c) (k:K s d) (t:HopG K l R):HopG K (o::p::q::s::l) (a::b::c::d::R):=hopC h (hopC i (hopC j (hopC k t)))
theorem znT {K:Oper->MR->Prop}:∀(l:List Oper) (R:List MR),HopG K l R->∀(k:Nat) (o:Oper) (r:MR),l[k]? =some o->R[k]? =some r->K o r
 | [],_,_,_,_,_,h,_=>by simp at h
 | _ :: _,[],_,_,_,_,_,h=>by simp at h
 | o :: l,r :: R,h,0,o',r',h1,h2=>by
  rw[lz3] at h1 h2
  have e1:=Option.some.inj h1
  have e2:=Option.some.inj h2
  subst e1
  subst e2
  exact h.1
 | o :: l,r :: R,h,k+1,o',r',h1,h2=>znT l R h.2 k o' r' (by simpa using h1) (by simpa using h2)
theorem HopG.at {K:Oper->MR->Prop} {l:List Oper} {R:List MR} (h:HopG K l R) (k:Nat) (o:Oper) (r:MR) (h1:l[k]? =some o) (h2:R[k]? =some r):K o r:=znT l R h k o r h1 h2
theorem nE {b:Bool} {A B:Prop} (hb:b=false) (h:B):(b=true->A)∧(b=false->B):=⟨fun h'=>(by rw[hb] at h';cases h'),fun _=>h⟩
theorem fr1 {W:World} {p:Prop} (h:p):Fr No W W∧p:=⟨Fr.refl _ _,h⟩
theorem gx0 {P:Prop}(h:P:=by clear hoff hdep;simp[execOp,Act.eval,go_sem,zaa, *];exact fr1 rfl):P:=h
def offB (l:List Oper) (t:Nat):Bool:=l.all fun p=>p.dst != some t
def depB (l:List Oper) (o:Oper) (i t:Nat):Bool:=o.after.toList.any (fun e=>Nat.beq e.on i&&Region.binds .any e)&&(match l[i]? with|some p=>(match p.dst with|some d=>Nat.beq d t|none=>false)|none=>false)
theorem znU {l:List Oper} {o:Oper} {i t:Nat} (h:depB l o i t=true):∃e∈o.after,Region.binds .any e=true∧∃p,l[e.on]? =some p∧p.dst=some t∧e.on=i:=by
 unfold depB at h
 rw[lz5,List.any_eq_true] at h
 obtain⟨⟨e,he,h2⟩,h3⟩:=h
 rw[lz5] at h2
 have h4:e.on=i:=Nat.eq_of_beq_eq_true h2.1
 refine⟨e,by simpa using he,h2.2,?_⟩
 rw[h4]
 cases hp:l[i]? with
 | none=>rw[hp] at h3;cases h3
 | some p=>
  rw[hp] at h3
  cases hd:p.dst with
  | none=>simp only[hd] at h3;cases h3
  | some d=>
   simp only[hd] at h3
   have h5:d=t:=Nat.eq_of_beq_eq_true h3
   exact⟨p,rfl,by rw[hd,h5],rfl⟩
def znV (l:List Oper) (M:Nat):Bool:=l.all fun p=>match p.dst with|some d=>decide (d<M)|none=>true
theorem znW {l:List Oper} {M N:Nat} (h:znV l M=true) (hMN:M≤N):∀o∈l,∀d,o.dst=some d->d<N:=fun o ho d hd=>by
 have:=List.all_eq_true.1 h o ho
 rw[hd] at this
 exact Nat.lt_of_lt_of_le (of_decide_eq_true this) hMN
def HopK (P:Program) (l:List Oper) (n:Nat) (R:List MR) (a:Act) (_:World) (C:World->Prop) (o:Oper) (r:MR):Prop:=
 ∀(a':Act) (W:World),C W->(∀t,offB (l.take n) t=true->a'.tmps.getD t undef=a.tmps.getD t undef)->(∀i t,depB (l.take n) o i t=true->(R.map MR.p).getD i (fun _ _=>True) (a'.tmps.getD t undef) W)->
  (r.ea=true->zaw P o a' (fun v=>r.p v W∧r.al=false))∧(r.ea=false->zaa P (r.post W) ((execOp a'.eval o).run P W))
theorem znX {P:Program} {l:List Oper} {R:List MR} {a:Act} {w:World} {C:World->Prop} {n k:Nat} {o:Oper} (hn:R.length=n) (h:k<n->∀r,R[k]? =some r->HopK P l n R a w C o r) (ho:(l.take n)[k]? =some o)
  (a':Act) (W:World) (hW:C W) (hoff:∀t,(∀p∈l.take n,p.dst≠some t)->a'.eval (.tmp t)=a.eval (.tmp t)) (hdep:∀e∈o.after,Region.binds .any e=true->∀p d,(l.take n)[e.on]? =some p->p.dst=some d->(R.map MR.p).getD e.on (fun _ _=>True) (a'.eval (.tmp d)) W):
  ((R.map MR.ea).getD k false=true->zaw P o a' (fun v=>(R.map MR.p).getD k (fun _ _=>True) v W∧(R.map MR.al).getD k false=false))∧((R.map MR.ea).getD k false=false->zab P o a' W (fun v W'=>Fr No W W'∧(R.map MR.p).getD k (fun _ _=>True) v W'∧((R.map MR.al).getD k false=true->W.heap.size≤bk v))):=by
 have hk:k<n:=by
  have:=(List.getElem?_eq_some_iff.1 ho).1
  simp only[List.length_take] at this
  omega
 have hkR:k<R.length:=by omega
 have hr:R[k]? =some R[k]:=lz8 hkR
 have h1:=h hk R[k] hr a' W hW (fun t ht=>hoff t fun p hp=>by
  have:=List.all_eq_true.1 ht p hp
  simpa using this) (fun i t hd=>by
  obtain⟨e,he,h2,p,hp,h4,rfl⟩:=znU hd
  exact hdep e he h2 p t hp h4)
 have e1:(R.map MR.p).getD k (fun _ _=>True)=R[k].p:=by simp[List.getD,hr]
 have e2:(R.map MR.al).getD k false=R[k].al:=by simp[List.getD,hr]
 have e3:(R.map MR.ea).getD k false=R[k].ea:=by simp[List.getD,hr]
 rw[e1,e2,e3]
 exact h1
theorem znY {R:List MR}:∀p∈(R.map MR.p).zip (R.map MR.al),p.2=true->∀v W,p.1 v W->bk v<W.heap.size:=fun p hp=>by
 rw[List.zip_map'] at hp
 obtain⟨r,_,rfl⟩:=List.mem_map.1 hp
 exact r.bk
theorem znZ {R:List MR}:∀φ∈R.map MR.p,MonP φ:=fun φ h=>by
 obtain⟨r,_,rfl⟩:=List.mem_map.1 h
 exact r.mono
section
variable {P:Program} {l:List Oper} {Q:Exit->Act->World->Prop} {a:Act} {w:World} {id:Nat}
theorem zn0 (n M:Nat) (R:List MR) (hf:P.follows .mixedOrders=true) (hm:(monB (fun k=>(R.map MR.ea).getD k false) l n&&decide (R.length=n)&&znV (l.take n) M)=true) (hM:M≤a.tmps.size)
  (hop:HopG (HopK P l n R a w (Fr No w)) l R)
  (hend:∀vs W,Fr No w W->(∀k,k<n->(R.map MR.p).getD k (fun _ _=>True) (vs k) W)->(∀j k,j<n->k<n->j≠k->(R.map MR.al).getD j false=true->(R.map MR.al).getD k false=true->bk (vs j)≠bk (vs k))->wpList P l.toArray (fun e a' W'=>e=.normal∧Q .normal a' W') (l.drop n) (znJ l R vs 0 a) W):(Code.region id l.toArray true).wp P Q a w:=by
 simp only[lz5,decide_eq_true_eq] at hm
 obtain⟨⟨hm,hl⟩,hd⟩:=hm
 refine zaC n (R.map MR.p) (R.map MR.al) (R.map MR.ea) znY hf (by rw[hm,List.length_map,List.length_map,hl];simp) (znW hd hM) znZ (fun k o ho a' W hW hoff hdep=>?_) (fun vs W hW hv hne=>?_)
 ·exact znX hl (fun _ r hr=>hop.at k o r (by rw[List.getElem?_take] at ho;split at ho<;>simp_all) hr) ho a' W hW hoff hdep
 ·have:=hend vs W hW hv hne
  rw[<-znS l R vs W 0 a (fun j hj=>by rw[Nat.zero_add];exact hv j (by omega)),hl] at this
  exact this
end
end Go.Proofs.YtmeaibjmnjcdfaaGreatDoor
