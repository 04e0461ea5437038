/- In a round of a range over a function a region that draws its order is walked as everywhere: it holds no defer statement. -/
import Derived.Test.YthembcdcdnffeaaGreatEG5
namespace Go.Proofs.YthembcdcdnffeaaGreat
open Go.RowKit
theorem zcY {r n:Nat} {P:Program} {f:FuncId} {args:Array Value} {w:World} {R:Ending->World->Prop} (h:Calls P f args w R):CallsIn (Fence.wide.inRound r) n P f args w R:=CallsIn.inRound r (callsIn_wide.2 h)
theorem zcZ {r n:Nat} {P:Program} {row:String} {args:Array Value} {w:World} {R:Value->World->Prop} (h:Rows P row args w R):RowsIn (Fence.wide.inRound r) n P row args w R:=
 fun c cs _=>let ⟨v,w',hr,s⟩:=h c cs;⟨v,w',hr,stepsIn_wide.2 s⟩
theorem zc0 {r n:Nat} {P:Program} {o:Oper} {a:Act} {w:World} {K:Act->World->Prop} {Q:Exit->Act->World->Prop} (hd:∀c,o.op≠.defer c) (h:o.wp P a w K Q):o.wpIn (Fence.wide.inRound r) n P a w K Q:=by
 refine⟨fun _ _=>trivial,?_⟩
 show Oper.uponIn _ _ _ _ _ _ _ ((Oper.semAt (some r) a.eval o).run P w)
 rw[Oper.semAt_some r a.eval o hd]
 unfold Oper.wp at h
 generalize(execOp a.eval o).run P w=res at *
 cases res with
 | ok nx w'=>
  cases nx<;>simp only[Oper.upon] at h<;>simp only[Oper.uponIn]<;>first|exact h|exact⟨fun h=>absurd h (by simp[Fence.wide]),zcY h⟩|exact⟨fun h=>absurd h (by simp[Fence.wide]),zcZ h⟩|exact h.elim
 | halt x w'=>cases x<;>simp only[Oper.upon] at h<;>simp only[Oper.uponIn]<;>first|exact h|exact h.elim
def zc1 (l:List Oper):Bool:=l.all fun o=>match o.op with | .defer _=>false|_=>true
theorem zc2 {l:List Oper} (h:zc1 l=true):∀(i:Nat) (o:Oper),l.toArray[i]? =some o->∀c,o.op≠.defer c:=fun i o ho c hc=>by
 have hm:o∈l:=List.mem_of_getElem? (by simpa using ho)
 have:=List.all_eq_true.1 h o hm
 rw[hc] at this
 cases this
theorem zc3 {r n:Nat} {P:Program} {md:Region.Mode} {ops:Array Oper} {Q:Exit->Act->World->Prop} (hd:∀(i:Nat) (o:Oper),ops[i]? =some o->∀c,o.op≠.defer c) (hQ:¬LetsOut Q):
  ∀(f:Nat) (listed:Array Bool) (a:Act) (w:World),wpAny P md ops Q f listed a w->wpAnyIn (Fence.wide.inRound r) n P md ops Q f listed a w
 | 0,_,_,_,h=>h
 | f+1,listed,a,w,h=>by
  refine⟨h.1,fun i hi=>?_⟩
  have h2:=h.2 i hi
  unfold wpOp at h2
  unfold wpOpIn
  cases ho:ops[i]? with
  | none=>rw[ho] at h2;exact zc3 hd hQ f _ _ _ h2
  | some o=>
   rw[ho] at h2
   dsimp only at h2 ⊢
   by_cases hw:Region.wanted o (yielded ops a.tmps)=true
   ·rw[if_pos hw] at h2 ⊢
    rcases h2 with h2 | ⟨_,h2⟩
    ·exact Oper.wpIn_mono (fun a w h=>zc3 hd hQ f _ _ _ h) (zc0 (hd i o ho) h2)
    ·exact absurd h2 hQ
   ·rw[if_neg hw] at h2 ⊢
    exact⟨fun _ _=>trivial,zc3 hd hQ f _ _ _ h2⟩
section
variable {P:Program} {l:List Oper} {Q:Exit->Act->World->Prop} {a:Act} {w:World} {n:Nat} {Φ:Nat->Value->World->Prop} {E:Nat->Bool}
theorem zc4 {id:Nat} {r d:Nat} (n:Nat) (Φ:Nat->Value->World->Prop) (A E:Nat->Bool) (hA:∀k v W,A k=true->Φ k v W->bk v<W.heap.size) (hf:P.follows .mixedOrders=true) (hm:monB E l n=true) (hsz:∀o∈l.take n,∀d,o.dst=some d->d<a.tmps.size) (hΦ:∀k v W W',Φ k v W->Fr No W W'->Φ k v W')
  (hop:∀k o,(l.take n)[k]? =some o->∀a' W,Fr No w W->(∀t,(∀p∈l.take n,p.dst≠some t)->a'.eval (.tmp t)=a.eval (.tmp t))->(∀e∈o.after,Region.binds .any e=true->∀p d,(l.take n)[e.on]? =some p->p.dst=some d->Φ e.on (a'.eval (.tmp d)) W)->
   (E k=true->zaw P o a' (fun v=>Φ k v W∧A k=false))∧(E k=false->zab P o a' W (fun v W'=>Fr No W W'∧Φ k v W'∧(A k=true->W.heap.size≤bk v))))
  (T:Act->World->Prop)
  (hend:∀vs W,Fr No w W->(∀k,k<n->Φ k (vs k) W)->(∀j k,j<n->k<n->j≠k->A j=true->A k=true->bk (vs j)≠bk (vs k))->wpList P l.toArray (fun e a' W'=>e=.normal∧T a' W') (l.drop n) (zad (l.take n) vs (fun _=>true) 0 a) W)
  (hT:∀a' W,T a' W->Q .normal a' W) (hdf:zc1 l=true):(Code.region id l.toArray true).wpIn (Fence.wide.inRound r) d P Q a w:=by
 have hm':=hm
 simp only[monB,lz5,decide_eq_true_eq] at hm'
 have hn:n<l.length:=hm'.1.1.1.1.1.1.2
 refine wpIn_mono (Q:=fun e a' W'=>e=.normal∧T a' W') ?_ (fun e a' W ⟨he,hx⟩=>by subst he;exact hT a' W hx)
 refine wpIn_region_any hf (zc3 (zc2 hdf) (fun⟨_,_,h⟩=>by cases h.1) _ _ _ _ ?_)
 have hcount:(List.range n).countP (fun i=>!(Array.replicate l.toArray.size false).getD i true)=n:=by
  rw[List.countP_eq_length.2 (fun i hi=>by
   have:=List.mem_range.1 hi
   have:i<l.length:=by omega
   simp[this])]
  simp
 have h:=zax (w:=w) A hA hm hsz hΦ (fun c a' w' h=>by cases h.1) hop hend n (Array.replicate l.toArray.size false) { w with drawn:=w.drawn+1 } hcount.symm
  ⟨by simp,fun j oj _ hl=>(by rw[getD_replicate_false] at hl;cases hl),fun t _ ht=>getD_in (by simpa using ht) (getD_replicate_false _ _)⟩ (fun _=>undef) (Fr.refl No w).drew (fun k _ hl=>by rw[getD_replicate_false] at hl;cases hl) (fun j k _ _ _ hl=>by rw[getD_replicate_false] at hl;cases hl)
 rw[zaj (l.take n) (fun _=>undef) (fun _=>undef) (fun i=>(Array.replicate l.toArray.size false).getD i false) (fun _=>false) 0 a (fun j _ _=>⟨rfl,getD_replicate_false _ _⟩)] at h
 have hnone:∀(l':List Oper) (k:Nat) (a:Act),zad l' (fun _=>undef) (fun _=>false) k a=a:=fun l'=>by
  induction l' with
  | nil=>intro k a;rfl
  | cons o rest ih=>intro k a;unfold zad;simpa using ih (k+1) a
 rw[hnone,show n+(l.length-n)=l.toArray.size by simp;omega] at h
 exact h
end
theorem zc5 {r d:Nat} {P:Program} {l:List Oper} {Q:Exit->Act->World->Prop} {a:Act} {w:World} {id:Nat} (n:Nat) (L:List (Value->World->Prop)) (AL EL:List Bool) (hA:∀p∈L.zip AL,p.2=true->∀v W,p.1 v W->bk v<W.heap.size)
  (hf:P.follows .mixedOrders=true) (hm:(monB (fun k=>EL.getD k false) l n&&decide (L.length=n)&&decide (AL.length=n))=true) (hsz:∀o∈l.take n,∀d,o.dst=some d->d<a.tmps.size) (hL:∀φ∈L,MonP φ)
  (hdf:zc1 l=true)
  (hop:∀k o,(l.take n)[k]? =some o->∀a' W,Fr No w W->(∀t,(∀p∈l.take n,p.dst≠some t)->a'.eval (.tmp t)=a.eval (.tmp t))->(∀e∈o.after,Region.binds .any e=true->∀p d,(l.take n)[e.on]? =some p->p.dst=some d->L.getD e.on (fun _ _=>True) (a'.eval (.tmp d)) W)->
   (EL.getD k false=true->zaw P o a' (fun v=>L.getD k (fun _ _=>True) v W∧AL.getD k false=false))∧(EL.getD k false=false->zab P o a' W (fun v W'=>Fr No W W'∧L.getD k (fun _ _=>True) v W'∧(AL.getD k false=true->W.heap.size≤bk v))))
  (hend:∀vs W,Fr No w W->(∀k,k<n->L.getD k (fun _ _=>True) (vs k) W)->(∀j k,j<n->k<n->j≠k->AL.getD j false=true->AL.getD k false=true->bk (vs j)≠bk (vs k))->wpList P l.toArray (fun e a' W'=>e=.normal∧Q .normal a' W') (l.drop n) (zad (l.take n) vs (fun _=>true) 0 a) W):(Code.region id l.toArray true).wpIn (Fence.wide.inRound r) d P Q a w:=by
 simp only[lz5,decide_eq_true_eq] at hm
 obtain⟨⟨hm,hl1⟩,hl2⟩:=hm
 refine zc4 n (fun k=>L.getD k (fun _ _=>True)) (fun k=>AL.getD k false) (fun k=>EL.getD k false) (fun k v W hk h=>?_) hf hm hsz (fun k v W W' h hf=>?_) hop (fun a' W'=>Q .normal a' W') hend (fun _ _ h=>h) hdf
 ·have hk2:k<AL.length:=by
   rcases Nat.lt_or_ge k AL.length with h|h
   ·exact h
   ·simp[List.getD,List.getElem?_eq_none h] at hk
  have hk1:k<L.length:=by omega
  have e1:L.getD k (fun _ _=>True)=L[k]:=by simp[List.getD,lz8 hk1]
  have e2:AL.getD k false=AL[k]:=by simp[List.getD,lz8 hk2]
  rw[e1] at h
  rw[e2] at hk
  exact hA (L[k],AL[k]) (List.mem_iff_getElem.2 ⟨k,by simp;omega,by simp⟩) hk v W h
 ·rcases Nat.lt_or_ge k L.length with h1|h1
  ·have e1:L.getD k (fun _ _=>True)=L[k]:=by simp[List.getD,lz8 h1]
   rw[e1] at h ⊢
   exact hL _ (List.getElem_mem h1) v W W' h hf
  ·have e1:L.getD k (fun _ _=>True)=fun _ _=>True:=by simp[List.getD,List.getElem?_eq_none h1]
   rw[e1];trivial
end Go.Proofs.YthembcdcdnffeaaGreat
