/- Regions that draw their order, told by rows: one row an operation of the head (what it yields; is it new memory; its law outlives what comes behind it). -/
import Derived.Test.YtpghfhjhjlmljaaGreatPG11
import Derived.Test.YtpghfhjhjlmljaaGreatRows
import Derived.Maps.OwnSet
import Derived.Maps.Views
import Derived.DeepKeys5
import Derived.KernelRfl
namespace Go.Proofs.YtpghfhjhjlmljaaGreat
open Go.RowKit Go.Maps
def slB (t:TypeId) (cs:Array Value) (n:Nat) (base:Nat):Value->World->Prop:=fun v W=>∃b,v=.slice (some ⟨b,0,none⟩) n n∧Bx W b t cs∧base≤b
theorem zj1 (t:TypeId) (cs:Array Value) (n base:Nat):MonP (slB t cs n base):=fun _ _ _ ⟨b,h1,h2,h3⟩ hf=>⟨b,h1,h2.keep hf,h3⟩
theorem zj2 {t:TypeId} {cs:Array Value} {n base:Nat} {v:Value} {W:World} (h:slB t cs n base v W):bk v<W.heap.size:=by
 obtain⟨b,rfl,hb,_⟩:=h
 exact hb.lt
structure MR where
 p:Value->World->Prop
 al:Bool
 ea:Bool
 v:Option Value
 mono:MonP p
 bk:al=true->∀v W,p v W->bk v<W.heap.size
 val:∀u,v=some u->p=isV u
def mV (u:Value):MR:=⟨isV u,false,false,some u,zaz u,nofun,fun _ h=>by cases h;rfl⟩
def mC (p:Value->World->Prop) (h:MonP p):MR:=⟨p,false,false,none,h,nofun,nofun⟩
def mA (b:Bool) (p:Value->World->Prop) (h:MonP p) (hb:b=true->∀v W,p v W->bk v<W.heap.size):MR:=⟨p,b,false,none,h,hb,nofun⟩
def mB (t:TypeId) (cs:Array Value) (base:Nat):MR:=⟨atB t cs base,true,false,none,zaA t cs base,fun _ _ _ h=>zaB h,nofun⟩
def mS (t:TypeId) (cs:Array Value) (n base:Nat):MR:=⟨slB t cs n base,true,false,none,zj1 t cs n base,fun _ _ _ h=>zj2 h,nofun⟩
def mE (r:MR):MR:=⟨r.p,r.al,true,r.v,r.mono,r.bk,r.val⟩
def MR.post (r:MR) (W:World) (v:Value) (W':World):Prop:=Fr No W W'∧r.p v W'∧(r.al=true->W.heap.size≤Go.Proofs.YtpghfhjhjlmljaaGreat.bk v)
@[simp] theorem postV (u:Value) (W:World) (v:Value) (W':World):(mV u).post W v W'=(Fr No W W'∧isV u v W'):=by simp[MR.post,mV]
@[simp] theorem postC (p:Value->World->Prop) (h:MonP p) (W:World) (v:Value) (W':World):(mC p h).post W v W'=(Fr No W W'∧p v W'):=by simp[MR.post,mC]
@[simp] theorem postA (b:Bool) (p:Value->World->Prop) (h:MonP p) (hb:b=true->∀v W,p v W->bk v<W.heap.size) (W:World) (v:Value) (W':World):(mA b p h hb).post W v W'=(Fr No W W'∧p v W'∧(b=true->W.heap.size≤bk v)):=rfl
@[simp] theorem postB (t:TypeId) (cs:Array Value) (base:Nat) (W:World) (v:Value) (W':World):(mB t cs base).post W v W'=(Fr No W W'∧atB t cs base v W'∧W.heap.size≤bk v):=by simp[MR.post,mB]
@[simp] theorem postS (t:TypeId) (cs:Array Value) (n base:Nat) (W:World) (v:Value) (W':World):(mS t cs n base).post W v W'=(Fr No W W'∧slB t cs n base v W'∧W.heap.size≤bk v):=by simp[MR.post,mS]
def znJ:List Oper->List MR->(Nat->Value)->Nat->Act->Act
 | o :: l,r :: R,vs,k,a=>znJ l R vs (k+1) (a.put o.dst (r.v.getD (vs k)))
 | [],_,_,_,a=>a
 | _ :: _,[],_,_,a=>a
section
variable {o:Oper} {l:List Oper} {R:List MR} {vs:Nat->Value} {k:Nat} {a:Act}
theorem znK (u:Value):znJ (o :: l) (mV u :: R) vs k a=znJ l R vs (k+1) (a.put o.dst u):=rfl
theorem znL (u:Value):znJ (o :: l) (mE (mV u) :: R) vs k a=znJ l R vs (k+1) (a.put o.dst u):=rfl
theorem znM (p:Value->World->Prop) (h:MonP p):znJ (o :: l) (mC p h :: R) vs k a=znJ l R vs (k+1) (a.put o.dst (vs k)):=rfl
theorem znP (t:TypeId) (cs:Array Value) (base:Nat):znJ (o :: l) (mB t cs base :: R) vs k a=znJ l R vs (k+1) (a.put o.dst (vs k)):=rfl
theorem znQ (t:TypeId) (cs:Array Value) (n base:Nat):znJ (o :: l) (mS t cs n base :: R) vs k a=znJ l R vs (k+1) (a.put o.dst (vs k)):=rfl
theorem znR:znJ l [] vs k a=a:=by cases l<;>rfl
end
theorem znS:∀(l:List Oper) (R:List MR) (vs:Nat->Value) (W:World) (k:Nat) (a:Act),(∀j,j<R.length->(R.map MR.p).getD j (fun _ _=>True) (vs (k+j)) W)->
  zad (l.take R.length) vs (fun _=>true) k a=znJ l R vs k a
 | [],R,_,_,_,_,_=>by cases R<;>rfl
 | o :: l,[],_,_,_,_,_=>rfl
 | o :: l,r :: R,vs,W,k,a,h=>by
  have ih:=znS l R vs W (k+1) (a.put o.dst (vs k)) (fun j hj=>by
   have:=h (j+1) (by simpa using hj)
   rw[show k+(j+1)=k+1+j by omega] at this
   simpa using this)
  have e:r.v.getD (vs k)=vs k:=by
   cases hv:r.v with
   | none=>rfl
   | some u=>
    have h0:=h 0 (by simp)
    simp only[List.map_cons,List.getD_cons_zero,Nat.add_zero,r.val u hv] at h0
    exact h0.symm
  show zad (o :: l.take R.length) vs (fun _=>true) k a=znJ l R vs (k+1) (a.put o.dst (r.v.getD (vs k)))
  rw[e]
  exact ih
def HopG (K:Oper->MR->Prop):List Oper->List MR->Prop
 | o :: l,r :: R=>K o r∧HopG K l R
 | [],_=>True
 | _ :: _,[]=>True
theorem hopC {K:Oper->MR->Prop} {o:Oper} {r:MR} {l:List Oper} {R:List MR} (h:K o r) (t:HopG K l R):HopG K (o :: l) (r :: R):=⟨h,t⟩
theorem hopZ {K:Oper->MR->Prop} {l:List Oper}:HopG K l []:=by cases l<;>trivial
theorem hc4 {K:Oper->MR->Prop} {o p q s:Oper} {a b c d:MR} {l:List Oper} {R:List MR} (h:K o a) (i:K p b) (j:K q c) (k:K s d) (t:HopG K l R):HopG K (o::p::q::s::l) (a::b::c::d::R):=hopC h (hopC i (hopC j (hopC k t)))
theorem znT {K:Oper->MR->Prop}:∀(l:List Oper) (R:List MR),HopG K l R->∀(k:Nat) (o:Oper) (r:MR),l[k]? =some o->R[k]? =some r->K o r
 | [],_,_,_,_,_,h,_=>by simp at h
 | _ :: _,[],_,_,_,_,_,h=>by simp at h
 | o :: l,r :: R,h,0,o',r',h1,h2=>by
  rw[lz3] at h1 h2
  have e1:=Option.some.inj h1
  have e2:=Option.some.inj h2
  subst e1
  subst e2
  exact h.1
 | o :: l,r :: R,h,k+1,o',r',h1,h2=>znT l R h.2 k o' r' (by simpa using h1) (by simpa using h2)
theorem HopG.at {K:Oper->MR->Prop} {l:List Oper} {R:List MR} (h:HopG K l R) (k:Nat) (o:Oper) (r:MR) (h1:l[k]? =some o) (h2:R[k]? =some r):K o r:=znT l R h k o r h1 h2
theorem nE {b:Bool} {A B:Prop} (hb:b=false) (h:B):(b=true->A)∧(b=false->B):=⟨fun h'=>(by rw[hb] at h';cases h'),fun _=>h⟩
theorem yE {b:Bool} {A B:Prop} (hb:b=true) (h:A):(b=true->A)∧(b=false->B):=⟨fun _=>h,fun h'=>(by rw[hb] at h';cases h')⟩
theorem fr1 {W:World} {p:Prop} (h:p):Fr No W W∧p:=⟨Fr.refl _ _,h⟩
theorem gx0 {P:Prop}(h:P:=by clear hoff hdep;simp[execOp,Act.eval,go_sem,zaa, *];exact fr1 rfl):P:=h
def offB (l:List Oper) (t:Nat):Bool:=l.all fun p=>p.dst != some t
def depB (l:List Oper) (o:Oper) (i t:Nat):Bool:=o.after.toList.any (fun e=>Nat.beq e.on i&&Region.binds .any e)&&(match l[i]? with|some p=>(match p.dst with|some d=>Nat.beq d t|none=>false)|none=>false)
theorem znU {l:List Oper} {o:Oper} {i t:Nat} (h:depB l o i t=true):∃e∈o.after,Region.binds .any e=true∧∃p,l[e.on]? =some p∧p.dst=some t∧e.on=i:=by
 unfold depB at h
 rw[lz5,List.any_eq_true] at h
 obtain⟨⟨e,he,h2⟩,h3⟩:=h
 rw[lz5] at h2
 have h4:e.on=i:=Nat.eq_of_beq_eq_true h2.1
 refine⟨e,by simpa using he,h2.2,?_⟩
 rw[h4]
 cases hp:l[i]? with
 | none=>rw[hp] at h3;cases h3
 | some p=>
  rw[hp] at h3
  cases hd:p.dst with
  | none=>simp only[hd] at h3;cases h3
  | some d=>
   simp only[hd] at h3
   have h5:d=t:=Nat.eq_of_beq_eq_true h3
   exact⟨p,rfl,by rw[hd,h5],rfl⟩
def znV (l:List Oper) (M:Nat):Bool:=l.all fun p=>match p.dst with|some d=>decide (d<M)|none=>true
theorem znW {l:List Oper} {M N:Nat} (h:znV l M=true) (hMN:M≤N):∀o∈l,∀d,o.dst=some d->d<N:=fun o ho d hd=>by
 have:=List.all_eq_true.1 h o ho
 rw[hd] at this
 exact Nat.lt_of_lt_of_le (of_decide_eq_true this) hMN
def HopK (P:Program) (l:List Oper) (n:Nat) (R:List MR) (a:Act) (_:World) (C:World->Prop) (o:Oper) (r:MR):Prop:=
 ∀(a':Act) (W:World),C W->(∀t,offB (l.take n) t=true->a'.tmps.getD t undef=a.tmps.getD t undef)->(∀i t,depB (l.take n) o i t=true->(R.map MR.p).getD i (fun _ _=>True) (a'.tmps.getD t undef) W)->
  (r.ea=true->zaw P o a' (fun v=>r.p v W∧r.al=false))∧(r.ea=false->zaa P (r.post W) ((execOp a'.eval o).run P W))
theorem znX {P:Program} {l:List Oper} {R:List MR} {a:Act} {w:World} {C:World->Prop} {n k:Nat} {o:Oper} (hn:R.length=n) (h:k<n->∀r,R[k]? =some r->HopK P l n R a w C o r) (ho:(l.take n)[k]? =some o)
  (a':Act) (W:World) (hW:C W) (hoff:∀t,(∀p∈l.take n,p.dst≠some t)->a'.eval (.tmp t)=a.eval (.tmp t)) (hdep:∀e∈o.after,Region.binds .any e=true->∀p d,(l.take n)[e.on]? =some p->p.dst=some d->(R.map MR.p).getD e.on (fun _ _=>True) (a'.eval (.tmp d)) W):
  ((R.map MR.ea).getD k false=true->zaw P o a' (fun v=>(R.map MR.p).getD k (fun _ _=>True) v W∧(R.map MR.al).getD k false=false))∧((R.map MR.ea).getD k false=false->zab P o a' W (fun v W'=>Fr No W W'∧(R.map MR.p).getD k (fun _ _=>True) v W'∧((R.map MR.al).getD k false=true->W.heap.size≤bk v))):=by
 have hk:k<n:=by
  have:=(List.getElem?_eq_some_iff.1 ho).1
  simp only[List.length_take] at this
  omega
 have hkR:k<R.length:=by omega
 have hr:R[k]? =some R[k]:=lz8 hkR
 have h1:=h hk R[k] hr a' W hW (fun t ht=>hoff t fun p hp=>by
  have:=List.all_eq_true.1 ht p hp
  simpa using this) (fun i t hd=>by
  obtain⟨e,he,h2,p,hp,h4,rfl⟩:=znU hd
  exact hdep e he h2 p t hp h4)
 have e1:(R.map MR.p).getD k (fun _ _=>True)=R[k].p:=by simp[List.getD,hr]
 have e2:(R.map MR.al).getD k false=R[k].al:=by simp[List.getD,hr]
 have e3:(R.map MR.ea).getD k false=R[k].ea:=by simp[List.getD,hr]
 rw[e1,e2,e3]
 exact h1
theorem znY {R:List MR}:∀p∈(R.map MR.p).zip (R.map MR.al),p.2=true->∀v W,p.1 v W->bk v<W.heap.size:=fun p hp=>by
 rw[List.zip_map'] at hp
 obtain⟨r,_,rfl⟩:=List.mem_map.1 hp
 exact r.bk
theorem znZ {R:List MR}:∀φ∈R.map MR.p,MonP φ:=fun φ h=>by
 obtain⟨r,_,rfl⟩:=List.mem_map.1 h
 exact r.mono
section
variable {P:Program} {l:List Oper} {Q:Exit->Act->World->Prop} {a:Act} {w:World} {id:Nat}
theorem zn0 (n M:Nat) (R:List MR) (hf:P.follows .mixedOrders=true) (hm:(monB (fun k=>(R.map MR.ea).getD k false) l n&&decide (R.length=n)&&znV (l.take n) M)=true) (hM:M≤a.tmps.size)
  (hop:HopG (HopK P l n R a w (Fr No w)) l R)
  (hend:∀vs W,Fr No w W->(∀k,k<n->(R.map MR.p).getD k (fun _ _=>True) (vs k) W)->(∀j k,j<n->k<n->j≠k->(R.map MR.al).getD j false=true->(R.map MR.al).getD k false=true->bk (vs j)≠bk (vs k))->wpList P l.toArray (fun e a' W'=>e=.normal∧Q .normal a' W') (l.drop n) (znJ l R vs 0 a) W):(Code.region id l.toArray true).wp P Q a w:=by
 simp only[lz5,decide_eq_true_eq] at hm
 obtain⟨⟨hm,hl⟩,hd⟩:=hm
 refine zaC n (R.map MR.p) (R.map MR.al) (R.map MR.ea) znY hf (by rw[hm,List.length_map,List.length_map,hl];simp) (znW hd hM) znZ (fun k o ho a' W hW hoff hdep=>?_) (fun vs W hW hv hne=>?_)
 ·exact znX hl (fun _ r hr=>hop.at k o r (by rw[List.getElem?_take] at ho;split at ho<;>simp_all) hr) ho a' W hW hoff hdep
 ·have:=hend vs W hW hv hne
  rw[<-znS l R vs W 0 a (fun j hj=>by rw[Nat.zero_add];exact hv j (by omega)),hl] at this
  exact this
end
theorem zbW:laidOutB Tryz.prog=true:=by kernel_rfl
theorem zbX:Keyed Tryz.prog 182:=
 Keyed.of_law (deep_law_gate zbW (of_decide_eq_true (by kernel_rfl)) (of_decide_eq_true (by kernel_rfl)) (by kernel_rfl) (by kernel_rfl))
def zbY (k:Int) (s:Str):Lit:=.string (keyBytes [.int .i64 k,.string s.data.toList])
theorem zbZ {k:Int} {s:Str} (wk:(Lit.int .i64 k).wf=true) (hs:s.size≤maxLen):keyOf Tryz.prog 182 (.agg #[.int .i64 k,.string s])=some (zbY k s):=by
 have hkt:Tryz.prog.keyType 182=true:=by kernel_rfl
 have c2:Tryz.prog.cellsOf 182=2:=by kernel_rfl
 have c3:Tryz.prog.cellsOf 3=1:=by kernel_rfl
 have c9:Tryz.prog.cellsOf 9=1:=by kernel_rfl
 obtain⟨m,hm⟩:∃m,Tryz.prog.types.size=m+1:=⟨Tryz.prog.types.size-1,by
  have:0<Tryz.prog.types.size:=of_decide_eq_true (by kernel_rfl)
  omega⟩
 unfold keyOf
 simp only[Tryz.underlying182]
 rw[if_pos (by simp[hkt,Value.formed,Tryz.underlying182,c2]),hm]
 simp[Program.keyLits,Tryz.underlying182,Tryz.underlying3,Tryz.underlying9,c2,c3,c9,wk,hs,Value.cells,zbY]
theorem zb0 {k k':Int} {s s':Str} (wk:(Lit.int .i64 k).wf=true) (wk':(Lit.int .i64 k').wf=true) (hs:s.size≤maxLen) (hs':s'.size≤maxLen) (h:zbY k s=zbY k' s'):k=k'∧s=s':=by
 have h1:=zbZ wk hs
 have h2:=zbZ wk' hs'
 rw[<-h] at h2
 have:=zbX.inj h1 h2
 simpa using this
def MapF (w:World) (b n:Nat) (f:Int->Str->Option Int):Prop:=
 ∃D:DataW Unit,w.ownsMap Tryz.prog 182 (plainElem Tryz.prog 3) b n D∧IsMap D ∧
  ∀k s,(Lit.int .i64 k).wf=true->s.size≤maxLen->Maps.has D (zbY k s)=(f k s).isSome∧D.atKey (zbY k s) (.lit (.int .i64 0))=.lit (.int .i64 ((f k s).getD 0))
def upd (f:Int->Str->Option Int) (k:Int) (s:Str) (v:Int):Int->Str->Option Int:=fun k' s'=>if k'=k∧s'=s then some v else f k' s'
section
variable {X:Nat->Prop} {w w':World} {b n:Nat} {f g:Int->Str->Option Int}
theorem MapF.lt (h:MapF w b n f):b<w.heap.size:=let ⟨_,h,_⟩:=h;h.lt
theorem MapF.keepX (h:MapF w b n f) (hf:Fr X w w') (hn:¬X b):MapF w' b n f:=by
 obtain⟨D,⟨es,clock,hb,h1,h2,h3⟩,hI,hv⟩:=h
 have hlt:b<w.heap.size:=(Array.getElem?_eq_some_iff.1 hb).1
 exact⟨D,⟨es,clock,(hf.block b hlt hn).trans hb,h1,h2,h3⟩,hI,hv⟩
theorem MapF.keep (h:MapF w b n f) (hf:Fr No w w'):MapF w' b n f:=h.keepX hf (fun h=>h)
theorem MapF.congr (h:MapF w b n f) (he:∀k s,f k s=g k s):MapF w b n g:=by
 obtain⟨D,h1,h2,h3⟩:=h
 exact⟨D,h1,h2,fun k s hk hs=>by rw[<-he];exact h3 k s hk hs⟩
theorem MapF.mono {m:Nat} (h:MapF w b n f) (hm:n≤m):MapF w b m f:=by
 obtain⟨D,h1,h2,h3⟩:=h
 exact⟨D,h1.mono hm,h2,h3⟩
theorem MapF.made (w:World):MapF (w.alloc (.map #[] 0)) w.heap.size 0 (fun _ _=>none):=
 ⟨.map [],World.ownsMap_made _ _ _ _,⟨[],rfl⟩,fun _ _ _ _=>⟨rfl,rfl⟩⟩
theorem zb1 (w:World):(zeroValue 3).run Tryz.prog w=.ok (.int .i64 0) w:=by kernel_rfl
theorem MapF.look_ok (h:MapF w b n f) {k:Int} {s:Str} (wk:(Lit.int .i64 k).wf=true) (hs:s.size≤maxLen):
  (Instr.lookup 144 (.map (some b)) (.agg #[.int .i64 k,.string s]) true).run Tryz.prog w=.ok (.tuple #[.int .i64 ((f k s).getD 0),.bool (f k s).isSome]) w:=by
 obtain⟨D,h1,_,h3⟩:=h
 obtain⟨v,ps,hrun,hv⟩:=h1.look_ok zbX Tryz.underlying144 (zb1 w) (plainElem_int Tryz.underlying3 (by decide)) (zbZ wk hs)
 obtain⟨e1,e2⟩:=h3 k s wk hs
 obtain⟨c,rfl,hc,_⟩:=plainElem_int_inv Tryz.underlying3 hv
 rw[e2] at hc
 simp only[Prod.mk.injEq,DataW.lit.injEq,Lit.int.injEq,true_and] at hc
 rw[hrun,e1,hc.1]
theorem MapF.put (h:MapF w b n f) (hn:n<maxLen) {k v:Int} {s:Str} (wk:(Lit.int .i64 k).wf=true) (hs:s.size≤maxLen) (wv:(Lit.int .i64 v).wf=true):
  ∃w',(Instr.mapUpdate 144 (.map (some b)) (.agg #[.int .i64 k,.string s]) (.int .i64 v)).run Tryz.prog w=.ok () w'∧MapF w' b (n+1) (upd f k s v)∧w.grownBy w' (some b):=by
 obtain⟨D,h1,hI,h3⟩:=h
 obtain⟨w',hrun,h4,h5⟩:=h1.update zbX Tryz.underlying144 hn (zbZ wk hs) (plainElem_int Tryz.underlying3 wv)
 have hkl:=zbX.key (zbZ wk hs)
 refine⟨w',hrun,⟨_,h4,?_,fun k' s' wk' hs'=>?_⟩,h5⟩
 ·obtain⟨es,rfl⟩:=hI
  exact⟨_,rfl⟩
 ·unfold upd
  by_cases he:k'=k∧s'=s
  ·obtain⟨rfl,rfl⟩:=he
   rw[if_pos ⟨rfl,rfl⟩]
   exact⟨has_put_same hI hkl _,atKey_put_same hI hkl _ _⟩
  ·rw[if_neg he]
   have hne:zbY k' s'≠zbY k s:=fun h=>he (zb0 wk' wk hs' hs h)
   rw[has_put_other hne,atKey_put_other hne]
   exact h3 k' s' wk' hs'
end
theorem zb2 {w:World} {ops:Array Oper} {rest:List Oper} {o:Oper} {a:Act} {Q:Exit->Act->World->Prop} {b n:Nat} {f:Int->Str->Option Int}
  (hg:o.guard=none) (m x v:Operand) (hop:o.op=Op.mapUpdate 144 m x v) (hm:a.eval m=.map (some b)) (h:MapF w b n f) (hn:n<maxLen) {k c:Int} {s:Str}
  (hx:a.eval x=.agg #[.int .i64 k,.string s]) (hv:a.eval v=.int .i64 c) (wk:(Lit.int .i64 k).wf=true) (hs:s.size≤maxLen) (wv:(Lit.int .i64 c).wf=true)
  (hK:∀w',MapF w' b (n+1) (upd f k s c)->w.grownBy w' (some b)->wpList Tryz.prog ops Q rest (a.put o.dst undef) w'):
  wpList Tryz.prog ops Q (o :: rest) a w:=by
 refine wpList_plain hg fun K' hK'=>?_
 obtain⟨w',hrun,r1,r2⟩:=h.put hn wk hs wv
 unfold Oper.wp
 simp[execOp,hop,hm,hx,hv,hrun,Result.andThen]
 exact hK' _ _ (hK w' r1 r2)
theorem zb3 {k:Int} (h0:0≤k) (h1:k≤9223372036854775807):(Lit.int .i64 k).wf=true:=by
 simp[Lit.wf,IntKind.min,IntKind.max,IntKind.signed,IntKind.bits];omega
end Go.Proofs.YtpghfhjhjlmljaaGreat
