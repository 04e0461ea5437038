/- Regions that draw their order: operations that yield the same in every world are taken first; the rest wait one for the other. -/
import Derived.Test.YtmeaibjmnjcdfaaGreatVG17
namespace Go.Proofs.YtmeaibjmnjcdfaaGreat
open Go.RowKit
def ztq (ops:Array Oper):List Nat->Array Bool->Bool
 | [],listed=>(Region.ready .any ops listed).isEmpty
 | i :: rest,listed=>decide (Region.ready .any ops listed=[i])&&ztq ops rest (listed.setIfInBounds i true)
def ztr (ops:Array Oper) (rest:List Nat):List Nat->Array Bool->Bool
 | [],listed=>ztq ops rest listed
 | i :: es,listed=>(Region.ready .any ops listed).contains i&&Region.free .any ops listed i&&ztr ops rest es (listed.setIfInBounds i true)
def zts (P:Program) (l:List Oper):List (Nat×Value)->Act->Prop
 | [],_=>True
 | (i,v) :: es,a=>∃o,l[i]? =some o∧o.guard=none∧(∀W,(execOp a.eval o).run P W=.ok (.value v) W)∧zts P l es (a.put o.dst v)
def ztt (l:List Oper):List (Nat×Value)->Act->Act
 | [],a=>a
 | (i,v) :: es,a=>ztt l es (match l[i]? with|some o=>a.put o.dst v|none=>a)
def ztu (l:List Oper) (rest:List Nat):List Oper:=rest.filterMap (fun i=>l[i]?)
section
variable {P:Program} {l:List Oper} {Q:Exit->Act->World->Prop}
theorem ztv:∀(rest:List Nat) (listed:Array Bool) (a:Act) (w:World),ztq l.toArray rest listed=true->wpList P l.toArray Q (ztu l rest) a w->wpAny P .any l.toArray Q rest.length listed a w
 | [],listed,a,w,hB,h=>⟨by simpa[ztq] using hB,h⟩
 | i :: rest,listed,a,w,hB,h=>by
  simp only[ztq,lz5,decide_eq_true_eq] at hB
  refine⟨fun h1=>(by rw[h1] at hB;cases hB.1),fun j hj=>?_⟩
  rw[hB.1] at hj
  obtain rfl:j=i:=by simpa using hj
  have hi:j∈Region.ready .any l.toArray listed:=by rw[hB.1];simp
  obtain⟨_,o,ho,_⟩:=mem_ready.1 hi
  have ho':l[j]? =some o:=by simpa using ho
  have e:ztu l (j :: rest)=o :: ztu l rest:=by
   unfold ztu
   rw[List.filterMap_cons,ho']
  rw[e] at h
  have hw:wpOp P l.toArray Q j (wpList P l.toArray Q (ztu l rest)) a w:=by unfold wpOp;simp only[ho];exact h
  exact wpOp_mono (fun a' w' h'=>ztv rest _ a' w' hB.2 h') hw
theorem ztw (hs:Region.noSelect l.toArray=true) (hQ:∀c a w,¬Q (.panic c) a w) (rest:List Nat):∀(es:List (Nat×Value)) (listed:Array Bool) (a:Act) (w:World),ztr l.toArray rest (es.map Prod.fst) listed=true->zts P l es a->
  wpList P l.toArray Q (ztu l rest) (ztt l es a) w->wpAny P .any l.toArray Q (es.length+rest.length) listed a w
 | [],listed,a,w,hB,_,h=>by
  rw[List.length_nil,Nat.zero_add]
  exact ztv rest listed a w hB h
 | (i,v) :: es,listed,a,w,hB,hy,h=>by
  simp only[List.map_cons,ztr,lz5] at hB
  obtain⟨⟨h1,h2⟩,h3⟩:=hB
  obtain⟨o,ho,hg,hrun,hy'⟩:=hy
  have ho':l.toArray[i]? =some o:=by simpa using ho
  have e:ztt l ((i,v) :: es) a=ztt l es (a.put o.dst v):=by
   show ztt l es (match l[i]? with|some o=>a.put o.dst v|none=>a)=_
   rw[ho]
  rw[e] at h
  rw[List.length_cons,show es.length+1+rest.length=(es.length+rest.length)+1 by omega]
  exact wpAny_take ho' hs h2 h1 (fun c a' w' h'=>absurd h' (hQ _ _ _)) (.inl ⟨by unfold Region.wanted;rw[hg],hrun⟩) (ztw hs hQ rest es _ _ _ h3 hy' h)
theorem ztx {id:Nat} {a:Act} {w:World} (es:List (Nat×Value)) (rest:List Nat) (hf:P.follows .mixedOrders=true)
  (hm:(Region.noSelect l.toArray&&decide (es.length+rest.length=l.length)&&ztr l.toArray rest (es.map Prod.fst) (Array.replicate l.length false))=true)
  (hy:zts P l es a) (h:wpList P l.toArray (fun e a' W'=>e=.normal∧Q .normal a' W') (ztu l rest) (ztt l es a) w.drew):(Code.region id l.toArray true).wp P Q a w:=by
 simp only[lz5,decide_eq_true_eq] at hm
 obtain⟨⟨hs,hl⟩,hB⟩:=hm
 refine Code.wp_mono (Q:=fun e a' W'=>e=.normal∧Q .normal a' W') (fun e a' W ⟨he,hx⟩=>by subst he;exact hx) ?_
 refine wp_region_any hf ?_
 have:=ztw (P:=P) (Q:=fun e a' W'=>e=.normal∧Q .normal a' W') hs (fun c a' w' h=>by cases h.1) rest es (Array.replicate l.length false) a w.drew hB hy h
 rw[hl] at this
 simpa using this
end
def mT:MR:=⟨fun _ _=>True,false,false,none,fun _ _ _ _ _=>trivial,nofun,nofun⟩
theorem znF {o:Oper} {l:List Oper} {R:List MR} {vs:Nat->Value} {k:Nat} {a:Act}:znJ (o :: l) (mT :: R) vs k a=znJ l R vs (k+1) (a.put o.dst (vs k)):=rfl
def HopQ (c:Nat->Bool) (K:Oper->MR->Prop):List Nat->List Oper->List MR->Prop
 | q :: qs,o :: l,r :: R=>(c q=true->K o r)∧HopQ c K qs l R
 | [],_,_=>True
 | _ :: _,[],_=>True
 | _ :: _,_ :: _,[]=>True
theorem HopQ.at {c:Nat->Bool} {K:Oper->MR->Prop}:∀{qs:List Nat} {l:List Oper} {R:List MR},HopQ c K qs l R->∀(k:Nat) (q:Nat) (o:Oper) (r:MR),qs[k]? =some q->l[k]? =some o->R[k]? =some r->c q=true->K o r
 | q :: qs,o :: l,r :: R,h,0,q',o',r',h0,h1,h2,hc=>by
  rw[lz3] at h0 h1 h2
  cases h0;cases h1;cases h2
  exact h.1 hc
 | q :: qs,o :: l,r :: R,h,k+1,q',o',r',h0,h1,h2,hc=>HopQ.at h.2 k q' o' r' (by simpa using h0) (by simpa using h1) (by simpa using h2) hc
 | [],_,_,_,_,_,_,_,h0,_,_,_=>by simp at h0
 | _ :: _,[],_,_,_,_,_,_,_,h1,_,_=>by simp at h1
 | _ :: _,_ :: _,[],_,_,_,_,_,_,_,h2,_=>by simp at h2
def Hop3 (K:Nat->MR->MR->Prop):List Nat->List MR->List MR->Prop
 | q :: qs,r :: R,s :: S=>K q r s∧Hop3 K qs R S
 | [],_,_=>True
 | _ :: _,[],_=>True
 | _ :: _,_ :: _,[]=>True
theorem Hop3.at {K:Nat->MR->MR->Prop}:∀{qs:List Nat} {R S:List MR},Hop3 K qs R S->∀(k q:Nat) (r s:MR),qs[k]? =some q->R[k]? =some r->S[k]? =some s->K q r s
 | q :: qs,r :: R,s :: S,h,0,q',r',s',h0,h1,h2=>by
  rw[lz3] at h0 h1 h2
  cases h0;cases h1;cases h2
  exact h.1
 | q :: qs,r :: R,s :: S,h,k+1,q',r',s',h0,h1,h2=>Hop3.at h.2 k q' r' s' (by simpa using h0) (by simpa using h1) (by simpa using h2)
 | [],_,_,_,_,_,_,_,h0,_,_=>by simp at h0
 | _ :: _,[],_,_,_,_,_,_,_,h1,_=>by simp at h1
 | _ :: _,_ :: _,[],_,_,_,_,_,_,_,h2=>by simp at h2
def znG (q:Nat):Bool:=Nat.beq q 0
def znH (q:Nat):Bool:=Nat.beq q 1
def isA (q:Nat):Bool:=Nat.beq q 0 || Nat.beq q 2
def isZ (q:Nat):Bool:=Nat.beq q 1 || Nat.beq q 2
def eqBs (xs ys:List Bool):Bool:=decide (xs=ys)
section
variable {P:Program} {l:List Oper} {Q:Exit->Act->World->Prop} {a:Act} {w:World} {id:Nat}
def HopV (P:Program) (l:List Oper) (n:Nat) (R:List MR) (a:Act) (w:World) (N:List PanicEntry->World->Prop) (C1:World->Prop) (S:World->World->Prop) (o:Oper) (r:MR):Prop:=
 ∀(a':Act) (W:World),Fr No w W->(∀t,offB (l.take n) t=true->a'.tmps.getD t undef=a.tmps.getD t undef)->(∀i t,depB (l.take n) o i t=true->(R.map MR.p).getD i (fun _ _=>True) (a'.tmps.getD t undef) W)->
  zlP P N (fun v W'=>C1 W'∧S W W'∧r.p v W') ((execOp a'.eval o).run P W)
theorem znI (n M:Nat) (R0 R1:List MR) (KN:List Nat) (u:Nat) (N:List PanicEntry->World->Prop) (C1:World->Prop) (S:World->World->Prop) (hf:P.follows .mixedOrders=true)
  (hm:(monB (fun k=>(R0.map MR.ea).getD k false) l n&&decide (R0.length=n)&&decide (R1.length=n)&&decide (KN.length=n)&&eqBs (R0.map MR.ea) (R1.map MR.ea)&&eqBs (R0.map MR.al) (R1.map MR.al)&&!(R0.map MR.ea).getD u false&&!(R0.map MR.al).getD u false&&decide (u<n)&&preB l.toArray u (fun k=>znG (KN.getD k 3)) n&&pstB l.toArray u (fun k=>znH (KN.getD k 3)) n&&(List.range n).all (fun k=>decide (k=u) || znG (KN.getD k 3) || znH (KN.getD k 3) || Nat.beq (KN.getD k 3) 2)&&znV (l.take n) M)=true) (hM:M≤a.tmps.size)
  (hC1:∀W W',C1 W->Fr No W W'->C1 W') (hS:∀v W W',S W W'->Hop3 (fun q r0 r1=>isA q=true->r0.p v W->r1.p v W') KN R0 R1)
  (hop0:HopQ isA (HopK P l n R0 a w (Fr No w)) KN l R0) (hop1:HopQ isZ (HopK P l n R1 a w C1) KN l R1)
  (hopu:∀o r,l[u]? =some o->R1[u]? =some r->HopV P l n R0 a w N C1 S o r) (hN:∀c a' W,a'.defers=a.defers->N c W->Q (.panic c) a' W)
  (hend:∀vs W,C1 W->(∀k,k<n->(R1.map MR.p).getD k (fun _ _=>True) (vs k) W)->(∀j k,j<n->k<n->j≠k->(R1.map MR.al).getD j false=true->(R1.map MR.al).getD k false=true->bk (vs j)≠bk (vs k))->wpList P l.toArray (fun e a' W'=>(e=.normal∧Q .normal a' W')∨∃c,e=.panic c∧a'.defers=a.defers∧N c W') (l.drop n) (znJ l R1 vs 0 a) W):(Code.region id l.toArray true).wp P Q a w:=by
 simp only[lz5,decide_eq_true_eq,eqBs] at hm
 obtain⟨⟨⟨⟨⟨⟨⟨⟨⟨⟨⟨⟨hm,hl0⟩,hl1⟩,hlk⟩,hea⟩,hal⟩,hu1⟩,hu2⟩,hun⟩,hpre⟩,hpst⟩,hkd⟩,hd⟩:=hm
 have hu1':(R0.map MR.ea).getD u false=false:=by simpa only[Bool.not_eq_true'] using hu1
 have hu2':(R0.map MR.al).getD u false=false:=by simpa only[Bool.not_eq_true'] using hu2
 have hkd':=fun k (hk:k<n)=>by simpa only[Bool.or_eq_true,decide_eq_true_eq] using List.all_eq_true.1 hkd k (List.mem_range.2 hk)
 have hnl:n<l.length:=by
  simp only[monB,lz5,decide_eq_true_eq] at hm
  exact hm.1.1.1.1.1.1.2
 have tk:∀{k:Nat} {o:Oper},(l.take n)[k]? =some o->l[k]? =some o:=fun {k o} ho=>by
  rw[List.getElem?_take] at ho;split at ho<;>simp_all
 have tn:∀{k:Nat} {o:Oper},(l.take n)[k]? =some o->k<n:=fun {k o} ho=>by
  have:=(List.getElem?_eq_some_iff.1 ho).1
  simp only[List.length_take] at this
  omega
 have kn:∀k (hk:k<n),KN[k]? =some (KN.getD k 3):=fun k hk=>by simp[List.getD,lz8 (show k<KN.length by omega)]
 have p0:∀k (hk:k<n),∃r,R0[k]? =some r∧(R0.map MR.p).getD k (fun _ _=>True)=r.p∧(R0.map MR.al).getD k false=r.al∧(R0.map MR.ea).getD k false=r.ea:=fun k hk=>by
  have hr:R0[k]? =some (R0[k]'(by omega)):=lz8 (by omega)
  exact⟨_,hr,by simp[List.getD,hr],by simp[List.getD,hr],by simp[List.getD,hr]⟩
 have p1:∀k (hk:k<n),∃r,R1[k]? =some r∧(R1.map MR.p).getD k (fun _ _=>True)=r.p∧(R1.map MR.al).getD k false=r.al∧(R1.map MR.ea).getD k false=r.ea:=fun k hk=>by
  have hr:R1[k]? =some (R1[k]'(by omega)):=lz8 (by omega)
  exact⟨_,hr,by simp[List.getD,hr],by simp[List.getD,hr],by simp[List.getD,hr]⟩
 have hAn:∀k,(R0.map MR.al).getD k false=true->k<n:=fun k h=>by
  rcases Nat.lt_or_ge k n with h1|h1
  ·exact h1
  ·rw[List.getD_eq_getElem?_getD,List.getElem?_eq_none (by simp;omega)] at h;cases h
 refine znE n (fun k=>(R0.map MR.p).getD k (fun _ _=>True)) (fun k=>(R1.map MR.p).getD k (fun _ _=>True)) (fun k=>(R0.map MR.al).getD k false) (fun k=>(R0.map MR.ea).getD k false) (fun k=>znG (KN.getD k 3)) (fun k=>znH (KN.getD k 3)) u hun hpre hpst N C1 S hu1' hu2' hC1
  (fun k v W W' hku hpk h hs=>?_) (fun k v W hk h=>?_) hf hm (znW hd hM) (fun k v W W' h hf=>?_) (fun k v W W' h hf=>?_)
  (fun k o hku hpk ho a' W hW hoff hdep=>?_) (fun k o hku hpk ho a' W hW hoff hdep=>?_) (fun o ho a' W hW hoff hdep=>?_) (fun a' W'=>Q .normal a' W') (fun vs W hW hv hne=>?_) (fun _ _ h=>h) hN
 ·rcases Nat.lt_or_ge k n with hk|hk
  ·obtain⟨r0,hr0,e0,_,_⟩:=p0 k hk
   obtain⟨r1,hr1,e1,_,_⟩:=p1 k hk
   simp only[e0] at h
   simp only[e1]
   have hq:isA (KN.getD k 3)=true:=by
    have hpk':znH (KN.getD k 3)=false:=hpk
    rcases hkd' k hk with ((h9|h9)|h9)|h9
    ·exact absurd h9 hku
    ·show(znG (KN.getD k 3) || _)=true
     rw[h9];rfl
    ·rw[hpk'] at h9;cases h9
    ·show(_ || Nat.beq (KN.getD k 3) 2)=true
     rw[h9,Bool.or_true]
   exact(hS v W W' hs).at k _ r0 r1 (kn k hk) hr0 hr1 hq h
  ·have e1:(R1.map MR.p).getD k (fun _ _=>True)=fun _ _=>True:=by simp[List.getD,List.getElem?_eq_none (show R1.length≤k by omega)]
   simp only[e1]
 ·have hkn:=hAn k hk
  obtain⟨r0,hr0,e0,a0,_⟩:=p0 k hkn
  obtain⟨r1,hr1,e1,a1,_⟩:=p1 k hkn
  have hk':(R0.map MR.al).getD k false=true:=hk
  rcases h with h|h
  ·simp only[e0] at h
   exact r0.bk (a0▸hk') v W h
  ·simp only[e1] at h
   exact r1.bk (by rw[<-a1,<-hal];exact hk') v W h
 ·rcases Nat.lt_or_ge k n with hk|hk
  ·obtain⟨r0,hr0,e0,_,_⟩:=p0 k hk
   simp only[e0] at h ⊢
   exact r0.mono v W W' h hf
  ·have e1:(R0.map MR.p).getD k (fun _ _=>True)=fun _ _=>True:=by simp[List.getD,List.getElem?_eq_none (show R0.length≤k by omega)]
   simp only[e1]
 ·rcases Nat.lt_or_ge k n with hk|hk
  ·obtain⟨r0,hr0,e0,_,_⟩:=p1 k hk
   simp only[e0] at h ⊢
   exact r0.mono v W W' h hf
  ·have e1:(R1.map MR.p).getD k (fun _ _=>True)=fun _ _=>True:=by simp[List.getD,List.getElem?_eq_none (show R1.length≤k by omega)]
   simp only[e1]
 ·have hk:=tn ho
  have hq:isA (KN.getD k 3)=true:=by
   have hpk':znH (KN.getD k 3)=false:=hpk
   rcases hkd' k hk with ((h9|h9)|h9)|h9
   ·exact absurd h9 hku
   ·show(znG (KN.getD k 3) || _)=true
    rw[h9];rfl
   ·rw[hpk'] at h9;cases h9
   ·show(_ || Nat.beq (KN.getD k 3) 2)=true
    rw[h9,Bool.or_true]
  exact znX hl0 (fun _ r hr=>hop0.at k _ o r (kn k hk) (tk ho) hr hq) ho a' W hW hoff hdep
 ·have hk:=tn ho
  have hq:isZ (KN.getD k 3)=true:=by
   have hpk':znG (KN.getD k 3)=false:=hpk
   rcases hkd' k hk with ((h9|h9)|h9)|h9
   ·exact absurd h9 hku
   ·rw[hpk'] at h9;cases h9
   ·show(znH (KN.getD k 3) || _)=true
    rw[h9];rfl
   ·show(_ || Nat.beq (KN.getD k 3) 2)=true
    rw[h9,Bool.or_true]
  have h9:=znX hl1 (fun _ r hr=>hop1.at k _ o r (kn k hk) (tk ho) hr hq) ho a' W hW hoff hdep
  rw[<-hea,<-hal] at h9
  exact h9
 ·obtain⟨r1,hr1,e1,_,_⟩:=p1 u hun
  have h1:=hopu o r1 (tk ho) hr1 a' W hW (fun t ht=>hoff t fun p hp=>by
   have:=List.all_eq_true.1 ht p hp
   simpa using this) (fun i t hd=>by
   obtain⟨e,he,h2,p,hp,h4,rfl⟩:=znU hd
   exact hdep e he h2 p t hp h4)
  simp only[e1]
  exact h1
 ·have:=hend vs W hW hv (fun j k hj hk hjk h1 h2=>hne j k hj hk hjk (hal▸h1) (hal▸h2))
  rw[<-znS l R1 vs W 0 a (fun j hj=>by rw[Nat.zero_add];exact hv j (by omega)),hl1] at this
  exact this
end
end Go.Proofs.YtmeaibjmnjcdfaaGreat
