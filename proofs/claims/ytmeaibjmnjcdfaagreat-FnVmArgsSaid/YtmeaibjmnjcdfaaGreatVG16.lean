/- Regions that draw their order, with a writing call in their midst whose value stands whatever comes behind. -/
import Derived.Test.YtmeaibjmnjcdfaaGreatVG15
namespace Go.Proofs.YtmeaibjmnjcdfaaGreat
open Go.RowKit
section
variable {P:Program} {l:List Oper} {Q:Exit->Act->World->Prop} {a:Act} {w:World} {n:Nat} {Φ:Nat->Value->World->Prop} {E:Nat->Bool} {N:List PanicEntry->World->Prop}
theorem zlU {id:Nat} (n:Nat) (Φ:Nat->Value->World->Prop) (A E:Nat->Bool) (u:Nat) (N:List PanicEntry->World->Prop) (C1:World->Prop) (S:World->World->Prop) (hE1:E u=false) (hA1:A u=false) (hC1:∀W W',C1 W->Fr No W W'->C1 W') (hS:∀k v W W',k≠u->Φ k v W->S W W'->Φ k v W') (hA:∀k v W,A k=true->Φ k v W->bk v<W.heap.size) (hf:P.follows .mixedOrders=true) (hm:monB E l n=true) (hsz:∀o∈l.take n,∀d,o.dst=some d->d<a.tmps.size) (hΦ:∀k v W W',Φ k v W->Fr No W W'->Φ k v W')
  (hop:∀k o,k≠u->(l.take n)[k]? =some o->∀a' W,(Fr No w W∨C1 W)->(∀t,(∀p∈l.take n,p.dst≠some t)->a'.eval (.tmp t)=a.eval (.tmp t))->(∀e∈o.after,Region.binds .any e=true->∀p d,(l.take n)[e.on]? =some p->p.dst=some d->Φ e.on (a'.eval (.tmp d)) W)->
   (E k=true->zaw P o a' (fun v=>Φ k v W∧A k=false))∧(E k=false->zab P o a' W (fun v W'=>Fr No W W'∧Φ k v W'∧(A k=true->W.heap.size≤bk v))))
  (hopu:∀o,(l.take n)[u]? =some o->∀a' W,Fr No w W->(∀t,(∀p∈l.take n,p.dst≠some t)->a'.eval (.tmp t)=a.eval (.tmp t))->(∀e∈o.after,Region.binds .any e=true->∀p d,(l.take n)[e.on]? =some p->p.dst=some d->Φ e.on (a'.eval (.tmp d)) W)->
   zlQ P o a' W N (fun v W'=>C1 W'∧S W W'∧Φ u v W'))
  (T:Act->World->Prop)
  (hend:∀vs W,((n≤u∧Fr No w W)∨C1 W)->(∀k,k<n->Φ k (vs k) W)->(∀j k,j<n->k<n->j≠k->A j=true->A k=true->bk (vs j)≠bk (vs k))->wpList P l.toArray (fun e a' W'=>(e=.normal∧T a' W')∨∃c,e=.panic c∧a'.defers=a.defers∧N c W') (l.drop n) (zad (l.take n) vs (fun _=>true) 0 a) W)
  (hT:∀a' W,T a' W->Q .normal a' W) (hN:∀c a' W,a'.defers=a.defers->N c W->Q (.panic c) a' W):(Code.region id l.toArray true).wp P Q a w:=by
 have hpre:preB l.toArray u (fun _=>false) n=true:=by unfold preB;simp
 have hpst:pstB l.toArray u (fun _=>false) n=true:=by unfold pstB;simp
 exact zpO n Φ Φ A E (fun _=>false) (fun _=>false) u hpre hpst N C1 S hE1 hA1 hC1 (fun k v W W' h _=>hS k v W W' h) (fun k v W h hv=>hA k v W h (hv.elim (fun h=>h) (fun h=>h))) hf hm hsz hΦ hΦ (fun k o h _ ho a' W hW=>hop k o h ho a' W (.inl hW)) (fun k o h _ ho a' W hW=>hop k o h ho a' W (.inr hW)) hopu T
  (fun vs W h hne=>h.elim (fun h=>hend vs W (.inl ⟨h.1,h.2.1⟩) h.2.2 hne) (fun h=>hend vs W (.inr h.1) h.2 hne)) hT hN
end
theorem zlV {P:Program} {l:List Oper} {Q:Exit->Act->World->Prop} {a:Act} {w:World} {id:Nat} (n:Nat) (L:List (Value->World->Prop)) (AL EL:List Bool) (u:Nat) (N:List PanicEntry->World->Prop) (C1:World->Prop) (S:World->World->Prop) (hA:∀p∈L.zip AL,p.2=true->∀v W,p.1 v W->bk v<W.heap.size)
  (hf:P.follows .mixedOrders=true) (hm:(monB (fun k=>EL.getD k false) l n&&decide (L.length=n)&&decide (AL.length=n)&&!EL.getD u false&&!AL.getD u false)=true) (hsz:∀o∈l.take n,∀d,o.dst=some d->d<a.tmps.size) (hL:∀φ∈L,MonP φ)
  (hC1:∀W W',C1 W->Fr No W W'->C1 W') (hS:∀k (hk:k<L.length),k≠u->∀v W W',L[k] v W->S W W'->L[k] v W')
  (hop:∀k o,k≠u->(l.take n)[k]? =some o->∀a' W,(Fr No w W∨C1 W)->(∀t,(∀p∈l.take n,p.dst≠some t)->a'.eval (.tmp t)=a.eval (.tmp t))->(∀e∈o.after,Region.binds .any e=true->∀p d,(l.take n)[e.on]? =some p->p.dst=some d->L.getD e.on (fun _ _=>True) (a'.eval (.tmp d)) W)->
   (EL.getD k false=true->zaw P o a' (fun v=>L.getD k (fun _ _=>True) v W∧AL.getD k false=false))∧(EL.getD k false=false->zab P o a' W (fun v W'=>Fr No W W'∧L.getD k (fun _ _=>True) v W'∧(AL.getD k false=true->W.heap.size≤bk v))))
  (hopu:∀o,(l.take n)[u]? =some o->∀a' W,Fr No w W->(∀t,(∀p∈l.take n,p.dst≠some t)->a'.eval (.tmp t)=a.eval (.tmp t))->(∀e∈o.after,Region.binds .any e=true->∀p d,(l.take n)[e.on]? =some p->p.dst=some d->L.getD e.on (fun _ _=>True) (a'.eval (.tmp d)) W)->
   zlQ P o a' W N (fun v W'=>C1 W'∧S W W'∧L.getD u (fun _ _=>True) v W'))
  (hN:∀c a' W,a'.defers=a.defers->N c W->Q (.panic c) a' W)
  (hend:∀vs W,((n≤u∧Fr No w W)∨C1 W)->(∀k,k<n->L.getD k (fun _ _=>True) (vs k) W)->(∀j k,j<n->k<n->j≠k->AL.getD j false=true->AL.getD k false=true->bk (vs j)≠bk (vs k))->wpList P l.toArray (fun e a' W'=>(e=.normal∧Q .normal a' W')∨∃c,e=.panic c∧a'.defers=a.defers∧N c W') (l.drop n) (zad (l.take n) vs (fun _=>true) 0 a) W):(Code.region id l.toArray true).wp P Q a w:=by
 simp only[lz5,decide_eq_true_eq,Bool.not_eq_true'] at hm
 obtain⟨⟨⟨⟨hm,hl1⟩,hl2⟩,hE1⟩,hA1⟩:=hm
 refine zlU n (fun k=>L.getD k (fun _ _=>True)) (fun k=>AL.getD k false) (fun k=>EL.getD k false) u N C1 S hE1 hA1 hC1 (fun k v W W' hku h hs=>?_) (fun k v W hk h=>?_) hf hm hsz (fun k v W W' h hf=>?_) hop hopu (fun a' W'=>Q .normal a' W') hend (fun _ _ h=>h) hN
 ·rcases Nat.lt_or_ge k L.length with h1|h1
  ·have e1:L.getD k (fun _ _=>True)=L[k]:=by simp[List.getD,lz8 h1]
   rw[e1] at h ⊢
   exact hS k h1 hku v W W' h hs
  ·have e1:L.getD k (fun _ _=>True)=fun _ _=>True:=by simp[List.getD,List.getElem?_eq_none h1]
   rw[e1];trivial
 ·have hk2:k<AL.length:=by
   rcases Nat.lt_or_ge k AL.length with h|h
   ·exact h
   ·simp[List.getD,List.getElem?_eq_none h] at hk
  have hk1:k<L.length:=by omega
  have e1:L.getD k (fun _ _=>True)=L[k]:=by simp[List.getD,lz8 hk1]
  have e2:AL.getD k false=AL[k]:=by simp[List.getD,lz8 hk2]
  rw[e1] at h
  rw[e2] at hk
  exact hA (L[k],AL[k]) (List.mem_iff_getElem.2 ⟨k,by simp;omega,by simp⟩) hk v W h
 ·rcases Nat.lt_or_ge k L.length with h1|h1
  ·have e1:L.getD k (fun _ _=>True)=L[k]:=by simp[List.getD,lz8 h1]
   rw[e1] at h ⊢
   exact hL _ (List.getElem_mem h1) v W W' h hf
  ·have e1:L.getD k (fun _ _=>True)=fun _ _=>True:=by simp[List.getD,List.getElem?_eq_none h1]
   rw[e1];trivial
end Go.Proofs.YtmeaibjmnjcdfaaGreat
