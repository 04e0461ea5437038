/- Regions that draw their order: operations that yield the same in every world are taken first; the rest wait one for the other. -/
import Derived.Test.YtbfmeklfpackjaaGreatDoorQG21
import Derived.Maps.OwnSet
import Derived.Maps.Views
import Derived.DeepKeys5
import Derived.KernelRfl
namespace Go.Proofs.YtbfmeklfpackjaaGreatDoor
open Go.RowKit Go.Maps
def ztq (ops:Array Oper):List Nat->Array Bool->Bool
 | [],listed=>(Region.ready .any ops listed).isEmpty
 | i :: rest,listed=>decide (Region.ready .any ops listed=[i])&&ztq ops rest (listed.setIfInBounds i true)
def ztr (ops:Array Oper) (rest:List Nat):List Nat->Array Bool->Bool
 | [],listed=>ztq ops rest listed
 | i :: es,listed=>(Region.ready .any ops listed).contains i&&Region.free .any ops listed i&&ztr ops rest es (listed.setIfInBounds i true)
def zts (P:Program) (l:List Oper):List (Nat×Value)->Act->Prop
 | [],_=>True
 | (i,v) :: es,a=>∃o,l[i]? =some o∧o.guard=none∧(∀W,(execOp a.eval o).run P W=.ok (.value v) W)∧zts P l es (a.put o.dst v)
def ztt (l:List Oper):List (Nat×Value)->Act->Act
 | [],a=>a
 | (i,v) :: es,a=>ztt l es (match l[i]? with|some o=>a.put o.dst v|none=>a)
def ztu (l:List Oper) (rest:List Nat):List Oper:=rest.filterMap (fun i=>l[i]?)
section
variable {P:Program} {l:List Oper} {Q:Exit->Act->World->Prop}
theorem ztv:∀(rest:List Nat) (listed:Array Bool) (a:Act) (w:World),ztq l.toArray rest listed=true->wpList P l.toArray Q (ztu l rest) a w->wpAny P .any l.toArray Q rest.length listed a w
 | [],listed,a,w,hB,h=>⟨by simpa[ztq] using hB,h⟩
 | i :: rest,listed,a,w,hB,h=>by
  simp only[ztq,lz5,decide_eq_true_eq] at hB
  refine⟨fun h1=>(by rw[h1] at hB;cases hB.1),fun j hj=>?_⟩
  rw[hB.1] at hj
  obtain rfl:j=i:=by simpa using hj
  have hi:j∈Region.ready .any l.toArray listed:=by rw[hB.1];simp
  obtain⟨_,o,ho,_⟩:=mem_ready.1 hi
  have ho':l[j]? =some o:=by simpa using ho
  have e:ztu l (j :: rest)=o :: ztu l rest:=by
   unfold ztu
   rw[List.filterMap_cons,ho']
  rw[e] at h
  have hw:wpOp P l.toArray Q j (wpList P l.toArray Q (ztu l rest)) a w:=by unfold wpOp;simp only[ho];exact h
  exact wpOp_mono (fun a' w' h'=>ztv rest _ a' w' hB.2 h') hw
theorem ztw (hs:Region.noSelect l.toArray=true) (hQ:∀c a w,¬Q (.panic c) a w) (rest:List Nat):∀(es:List (Nat×Value)) (listed:Array Bool) (a:Act) (w:World),ztr l.toArray rest (es.map Prod.fst) listed=true->zts P l es a->
  wpList P l.toArray Q (ztu l rest) (ztt l es a) w->wpAny P .any l.toArray Q (es.length+rest.length) listed a w
 | [],listed,a,w,hB,_,h=>by
  rw[List.length_nil,Nat.zero_add]
  exact ztv rest listed a w hB h
 | (i,v) :: es,listed,a,w,hB,hy,h=>by
  simp only[List.map_cons,ztr,lz5] at hB
  obtain⟨⟨h1,h2⟩,h3⟩:=hB
  obtain⟨o,ho,hg,hrun,hy'⟩:=hy
  have ho':l.toArray[i]? =some o:=by simpa using ho
  have e:ztt l ((i,v) :: es) a=ztt l es (a.put o.dst v):=by
   show ztt l es (match l[i]? with|some o=>a.put o.dst v|none=>a)=_
   rw[ho]
  rw[e] at h
  rw[List.length_cons,show es.length+1+rest.length=(es.length+rest.length)+1 by omega]
  exact wpAny_take ho' hs h2 h1 (fun c a' w' h'=>absurd h' (hQ _ _ _)) (.inl ⟨by unfold Region.wanted;rw[hg],hrun⟩) (ztw hs hQ rest es _ _ _ h3 hy' h)
theorem ztx {id:Nat} {a:Act} {w:World} (es:List (Nat×Value)) (rest:List Nat) (hf:P.follows .mixedOrders=true)
  (hm:(Region.noSelect l.toArray&&decide (es.length+rest.length=l.length)&&ztr l.toArray rest (es.map Prod.fst) (Array.replicate l.length false))=true)
  (hy:zts P l es a) (h:wpList P l.toArray (fun e a' W'=>e=.normal∧Q .normal a' W') (ztu l rest) (ztt l es a) w.drew):(Code.region id l.toArray true).wp P Q a w:=by
 simp only[lz5,decide_eq_true_eq] at hm
 obtain⟨⟨hs,hl⟩,hB⟩:=hm
 refine Code.wp_mono (Q:=fun e a' W'=>e=.normal∧Q .normal a' W') (fun e a' W ⟨he,hx⟩=>by subst he;exact hx) ?_
 refine wp_region_any hf ?_
 have:=ztw (P:=P) (Q:=fun e a' W'=>e=.normal∧Q .normal a' W') hs (fun c a' w' h=>by cases h.1) rest es (Array.replicate l.length false) a w.drew hB hy h
 rw[hl] at this
 simpa using this
end
def mT:MR:=⟨fun _ _=>True,false,false,none,fun _ _ _ _ _=>trivial,nofun,nofun⟩
theorem znF {o:Oper} {l:List Oper} {R:List MR} {vs:Nat->Value} {k:Nat} {a:Act}:znJ (o :: l) (mT :: R) vs k a=znJ l R vs (k+1) (a.put o.dst (vs k)):=rfl
def HopQ (c:Nat->Bool) (K:Oper->MR->Prop):List Nat->List Oper->List MR->Prop
 | q :: qs,o :: l,r :: R=>(c q=true->K o r)∧HopQ c K qs l R
 | [],_,_=>True
 | _ :: _,[],_=>True
 | _ :: _,_ :: _,[]=>True
theorem HopQ.at {c:Nat->Bool} {K:Oper->MR->Prop}:∀{qs:List Nat} {l:List Oper} {R:List MR},HopQ c K qs l R->∀(k:Nat) (q:Nat) (o:Oper) (r:MR),qs[k]? =some q->l[k]? =some o->R[k]? =some r->c q=true->K o r
 | q :: qs,o :: l,r :: R,h,0,q',o',r',h0,h1,h2,hc=>by
  rw[lz3] at h0 h1 h2
  cases h0;cases h1;cases h2
  exact h.1 hc
 | q :: qs,o :: l,r :: R,h,k+1,q',o',r',h0,h1,h2,hc=>HopQ.at h.2 k q' o' r' (by simpa using h0) (by simpa using h1) (by simpa using h2) hc
 | [],_,_,_,_,_,_,_,h0,_,_,_=>by simp at h0
 | _ :: _,[],_,_,_,_,_,_,_,h1,_,_=>by simp at h1
 | _ :: _,_ :: _,[],_,_,_,_,_,_,_,h2,_=>by simp at h2
def Hop3 (K:Nat->MR->MR->Prop):List Nat->List MR->List MR->Prop
 | q :: qs,r :: R,s :: S=>K q r s∧Hop3 K qs R S
 | [],_,_=>True
 | _ :: _,[],_=>True
 | _ :: _,_ :: _,[]=>True
theorem Hop3.at {K:Nat->MR->MR->Prop}:∀{qs:List Nat} {R S:List MR},Hop3 K qs R S->∀(k q:Nat) (r s:MR),qs[k]? =some q->R[k]? =some r->S[k]? =some s->K q r s
 | q :: qs,r :: R,s :: S,h,0,q',r',s',h0,h1,h2=>by
  rw[lz3] at h0 h1 h2
  cases h0;cases h1;cases h2
  exact h.1
 | q :: qs,r :: R,s :: S,h,k+1,q',r',s',h0,h1,h2=>Hop3.at h.2 k q' r' s' (by simpa using h0) (by simpa using h1) (by simpa using h2)
 | [],_,_,_,_,_,_,_,h0,_,_=>by simp at h0
 | _ :: _,[],_,_,_,_,_,_,_,h1,_=>by simp at h1
 | _ :: _,_ :: _,[],_,_,_,_,_,_,_,h2=>by simp at h2
def znG (q:Nat):Bool:=Nat.beq q 0
def znH (q:Nat):Bool:=Nat.beq q 1
def isA (q:Nat):Bool:=Nat.beq q 0 || Nat.beq q 2
def isZ (q:Nat):Bool:=Nat.beq q 1 || Nat.beq q 2
def eqBs (xs ys:List Bool):Bool:=decide (xs=ys)
section
variable {P:Program} {l:List Oper} {Q:Exit->Act->World->Prop} {a:Act} {w:World} {id:Nat}
def HopV (P:Program) (l:List Oper) (n:Nat) (R:List MR) (a:Act) (w:World) (N:List PanicEntry->World->Prop) (C1:World->Prop) (S:World->World->Prop) (o:Oper) (r:MR):Prop:=
 ∀(a':Act) (W:World),Fr No w W->(∀t,offB (l.take n) t=true->a'.tmps.getD t undef=a.tmps.getD t undef)->(∀i t,depB (l.take n) o i t=true->(R.map MR.p).getD i (fun _ _=>True) (a'.tmps.getD t undef) W)->
  zlP P N (fun v W'=>C1 W'∧S W W'∧r.p v W') ((execOp a'.eval o).run P W)
theorem znI (n M:Nat) (R0 R1:List MR) (KN:List Nat) (u:Nat) (N:List PanicEntry->World->Prop) (C1:World->Prop) (S:World->World->Prop) (hf:P.follows .mixedOrders=true)
  (hm:(monB (fun k=>(R0.map MR.ea).getD k false) l n&&decide (R0.length=n)&&decide (R1.length=n)&&decide (KN.length=n)&&eqBs (R0.map MR.ea) (R1.map MR.ea)&&eqBs (R0.map MR.al) (R1.map MR.al)&&!(R0.map MR.ea).getD u false&&!(R0.map MR.al).getD u false&&decide (u<n)&&preB l.toArray u (fun k=>znG (KN.getD k 3)) n&&pstB l.toArray u (fun k=>znH (KN.getD k 3)) n&&(List.range n).all (fun k=>decide (k=u) || znG (KN.getD k 3) || znH (KN.getD k 3) || Nat.beq (KN.getD k 3) 2)&&znV (l.take n) M)=true) (hM:M≤a.tmps.size)
  (hC1:∀W W',C1 W->Fr No W W'->C1 W') (hS:∀v W W',S W W'->Hop3 (fun q r0 r1=>isA q=true->r0.p v W->r1.p v W') KN R0 R1)
  (hop0:HopQ isA (HopK P l n R0 a w (Fr No w)) KN l R0) (hop1:HopQ isZ (HopK P l n R1 a w C1) KN l R1)
  (hopu:∀o r,l[u]? =some o->R1[u]? =some r->HopV P l n R0 a w N C1 S o r) (hN:∀c a' W,a'.defers=a.defers->N c W->Q (.panic c) a' W)
  (hend:∀vs W,C1 W->(∀k,k<n->(R1.map MR.p).getD k (fun _ _=>True) (vs k) W)->(∀j k,j<n->k<n->j≠k->(R1.map MR.al).getD j false=true->(R1.map MR.al).getD k false=true->bk (vs j)≠bk (vs k))->wpList P l.toArray (fun e a' W'=>(e=.normal∧Q .normal a' W')∨∃c,e=.panic c∧a'.defers=a.defers∧N c W') (l.drop n) (znJ l R1 vs 0 a) W):(Code.region id l.toArray true).wp P Q a w:=by
 simp only[lz5,decide_eq_true_eq,eqBs] at hm
 obtain⟨⟨⟨⟨⟨⟨⟨⟨⟨⟨⟨⟨hm,hl0⟩,hl1⟩,hlk⟩,hea⟩,hal⟩,hu1⟩,hu2⟩,hun⟩,hpre⟩,hpst⟩,hkd⟩,hd⟩:=hm
 have hu1':(R0.map MR.ea).getD u false=false:=by simpa only[Bool.not_eq_true'] using hu1
 have hu2':(R0.map MR.al).getD u false=false:=by simpa only[Bool.not_eq_true'] using hu2
 have hkd':=fun k (hk:k<n)=>by simpa only[Bool.or_eq_true,decide_eq_true_eq] using List.all_eq_true.1 hkd k (List.mem_range.2 hk)
 have hnl:n<l.length:=by
  simp only[monB,lz5,decide_eq_true_eq] at hm
  exact hm.1.1.1.1.1.1.2
 have tk:∀{k:Nat} {o:Oper},(l.take n)[k]? =some o->l[k]? =some o:=fun {k o} ho=>by
  rw[List.getElem?_take] at ho;split at ho<;>simp_all
 have tn:∀{k:Nat} {o:Oper},(l.take n)[k]? =some o->k<n:=fun {k o} ho=>by
  have:=(List.getElem?_eq_some_iff.1 ho).1
  simp only[List.length_take] at this
  omega
 have kn:∀k (hk:k<n),KN[k]? =some (KN.getD k 3):=fun k hk=>by simp[List.getD,lz8 (show k<KN.length by omega)]
 have p0:∀k (hk:k<n),∃r,R0[k]? =some r∧(R0.map MR.p).getD k (fun _ _=>True)=r.p∧(R0.map MR.al).getD k false=r.al∧(R0.map MR.ea).getD k false=r.ea:=fun k hk=>by
  have hr:R0[k]? =some (R0[k]'(by omega)):=lz8 (by omega)
  exact⟨_,hr,by simp[List.getD,hr],by simp[List.getD,hr],by simp[List.getD,hr]⟩
 have p1:∀k (hk:k<n),∃r,R1[k]? =some r∧(R1.map MR.p).getD k (fun _ _=>True)=r.p∧(R1.map MR.al).getD k false=r.al∧(R1.map MR.ea).getD k false=r.ea:=fun k hk=>by
  have hr:R1[k]? =some (R1[k]'(by omega)):=lz8 (by omega)
  exact⟨_,hr,by simp[List.getD,hr],by simp[List.getD,hr],by simp[List.getD,hr]⟩
 have hAn:∀k,(R0.map MR.al).getD k false=true->k<n:=fun k h=>by
  rcases Nat.lt_or_ge k n with h1|h1
  ·exact h1
  ·rw[List.getD_eq_getElem?_getD,List.getElem?_eq_none (by simp;omega)] at h;cases h
 refine znE n (fun k=>(R0.map MR.p).getD k (fun _ _=>True)) (fun k=>(R1.map MR.p).getD k (fun _ _=>True)) (fun k=>(R0.map MR.al).getD k false) (fun k=>(R0.map MR.ea).getD k false) (fun k=>znG (KN.getD k 3)) (fun k=>znH (KN.getD k 3)) u hun hpre hpst N C1 S hu1' hu2' hC1
  (fun k v W W' hku hpk h hs=>?_) (fun k v W hk h=>?_) hf hm (znW hd hM) (fun k v W W' h hf=>?_) (fun k v W W' h hf=>?_)
  (fun k o hku hpk ho a' W hW hoff hdep=>?_) (fun k o hku hpk ho a' W hW hoff hdep=>?_) (fun o ho a' W hW hoff hdep=>?_) (fun a' W'=>Q .normal a' W') (fun vs W hW hv hne=>?_) (fun _ _ h=>h) hN
 ·rcases Nat.lt_or_ge k n with hk|hk
  ·obtain⟨r0,hr0,e0,_,_⟩:=p0 k hk
   obtain⟨r1,hr1,e1,_,_⟩:=p1 k hk
   simp only[e0] at h
   simp only[e1]
   have hq:isA (KN.getD k 3)=true:=by
    have hpk':znH (KN.getD k 3)=false:=hpk
    rcases hkd' k hk with ((h9|h9)|h9)|h9
    ·exact absurd h9 hku
    ·show(znG (KN.getD k 3) || _)=true
     rw[h9];rfl
    ·rw[hpk'] at h9;cases h9
    ·show(_ || Nat.beq (KN.getD k 3) 2)=true
     rw[h9,Bool.or_true]
   exact(hS v W W' hs).at k _ r0 r1 (kn k hk) hr0 hr1 hq h
  ·have e1:(R1.map MR.p).getD k (fun _ _=>True)=fun _ _=>True:=by simp[List.getD,List.getElem?_eq_none (show R1.length≤k by omega)]
   simp only[e1]
 ·have hkn:=hAn k hk
  obtain⟨r0,hr0,e0,a0,_⟩:=p0 k hkn
  obtain⟨r1,hr1,e1,a1,_⟩:=p1 k hkn
  have hk':(R0.map MR.al).getD k false=true:=hk
  rcases h with h|h
  ·simp only[e0] at h
   exact r0.bk (a0▸hk') v W h
  ·simp only[e1] at h
   exact r1.bk (by rw[<-a1,<-hal];exact hk') v W h
 ·rcases Nat.lt_or_ge k n with hk|hk
  ·obtain⟨r0,hr0,e0,_,_⟩:=p0 k hk
   simp only[e0] at h ⊢
   exact r0.mono v W W' h hf
  ·have e1:(R0.map MR.p).getD k (fun _ _=>True)=fun _ _=>True:=by simp[List.getD,List.getElem?_eq_none (show R0.length≤k by omega)]
   simp only[e1]
 ·rcases Nat.lt_or_ge k n with hk|hk
  ·obtain⟨r0,hr0,e0,_,_⟩:=p1 k hk
   simp only[e0] at h ⊢
   exact r0.mono v W W' h hf
  ·have e1:(R1.map MR.p).getD k (fun _ _=>True)=fun _ _=>True:=by simp[List.getD,List.getElem?_eq_none (show R1.length≤k by omega)]
   simp only[e1]
 ·have hk:=tn ho
  have hq:isA (KN.getD k 3)=true:=by
   have hpk':znH (KN.getD k 3)=false:=hpk
   rcases hkd' k hk with ((h9|h9)|h9)|h9
   ·exact absurd h9 hku
   ·show(znG (KN.getD k 3) || _)=true
    rw[h9];rfl
   ·rw[hpk'] at h9;cases h9
   ·show(_ || Nat.beq (KN.getD k 3) 2)=true
    rw[h9,Bool.or_true]
  exact znX hl0 (fun _ r hr=>hop0.at k _ o r (kn k hk) (tk ho) hr hq) ho a' W hW hoff hdep
 ·have hk:=tn ho
  have hq:isZ (KN.getD k 3)=true:=by
   have hpk':znG (KN.getD k 3)=false:=hpk
   rcases hkd' k hk with ((h9|h9)|h9)|h9
   ·exact absurd h9 hku
   ·rw[hpk'] at h9;cases h9
   ·show(znH (KN.getD k 3) || _)=true
    rw[h9];rfl
   ·show(_ || Nat.beq (KN.getD k 3) 2)=true
    rw[h9,Bool.or_true]
  have h9:=znX hl1 (fun _ r hr=>hop1.at k _ o r (kn k hk) (tk ho) hr hq) ho a' W hW hoff hdep
  rw[<-hea,<-hal] at h9
  exact h9
 ·obtain⟨r1,hr1,e1,_,_⟩:=p1 u hun
  have h1:=hopu o r1 (tk ho) hr1 a' W hW (fun t ht=>hoff t fun p hp=>by
   have:=List.all_eq_true.1 ht p hp
   simpa using this) (fun i t hd=>by
   obtain⟨e,he,h2,p,hp,h4,rfl⟩:=znU hd
   exact hdep e he h2 p t hp h4)
  simp only[e1]
  exact h1
 ·have:=hend vs W hW hv (fun j k hj hk hjk h1 h2=>hne j k hj hk hjk (hal▸h1) (hal▸h2))
  rw[<-znS l R1 vs W 0 a (fun j hj=>by rw[Nat.zero_add];exact hv j (by omega)),hl1] at this
  exact this
end
section
variable {P:Program} (w:World)
theorem zty (t ty e:TypeId) (i:TypeInfo) (ht:P.underlying t=some (.slice e)) (hi:P.info? e=some i) (A B:Option Addr) (n c cb:Nat) (hle:n≤c):
  (Builtin.append_ #[t,t] ty #[.slice A n c,.slice B 0 cb]).run P w=.ok (.slice A n c) w:=by
 have hl:∀b:Addr,(loadCells b 0).run P w=.ok #[] w:=fun b=>by simp[loadCells,loadCellsFrom]
 cases A<;>cases B<;>simp[Builtin.append_,run_underlying ht,sizeOf,typeInfo,hi,Builtin.lenOf,Builtin.firstCells,hl,storeCells,hle]
end
theorem zqY.form {w:World} {n:Nat} {v:Value} {xs:List Str} (h:zqY w n v xs):∃A c,v=.slice A xs.length c∧xs.length≤c:=by
 obtain⟨A,c,h1,h2,_⟩:=h.1.form
 exact⟨A,c,h1,h2⟩
theorem zqY.empty (w:World) (n:Nat) (A:Addr):zqY w n (.slice (some A) 0 0) []:=⟨.inr ⟨rfl,rfl,_,rfl⟩,fun q hq=>by rw[zcQ,if_pos rfl] at hq;cases hq⟩
theorem ztz (n:Nat) (v:Value) (xs:List Str) (w:World) (ty:TypeId) (hrow:zqY w n v xs) (hxl:xs.length≤50000) (X:Nat->Prop) (u:Value) (ys:List Str) (hu:Sl X w 1 StrC u ys) (hyl:ys.length≤50000) (hn:n≤w.heap.size):
  ∃v' w',(Builtin.append_ #[71,71] ty #[v,u]).run Tryz.prog w=.ok v' w'∧zqY w' n v' (xs ++ ys)∧Fr (fun b=>n≤b) w w':=by
 obtain⟨i0,z,hi,hz0,hz1,hz2,hz3⟩:=zqX.info
 obtain⟨A,c,rfl,hc⟩:=hrow.form
 obtain⟨B,cb,rfl,_,_⟩:=hu.form
 rcases Nat.eq_zero_or_pos ys.length with h0|h0
 ·obtain rfl:=List.eq_nil_of_length_eq_zero h0
  exact⟨_,w,zty w _ ty _ i0 zqX.und hi A B xs.length c cb hc,by simpa using hrow,Fr.refl _ _⟩
 ·obtain⟨b,off,cs,rfl,_,_,_⟩:=hu.cells h0
  have hraw:=hu.strRaws
  have hl9:(ys.map zqT).length=ys.length:=List.length_map ..
  rw[<-hl9] at hraw ⊢
  obtain⟨g,c',w',hr,h1,h2,h3,h4⟩:=zcR (P:=Tryz.prog) w 71 ty 9 i0 z 1 16 zqX.und hi hz0 hz1 hz2 hz3 (by decide) _ xs.length (rawL (xs.map zqT)) hrow.1 ⟨b,off,none⟩ (ys.map zqT).length cb (rawL (ys.map zqT)) (zqD _) (hraw.rawNews (by decide)) (zqU ys) (by omega) (by unfold maxLen;omega) (by omega)
  have hg:n≤g:=h4.elim (fun h=>hrow.2 g h) (fun h=>by omega)
  refine⟨_,w',hr,⟨?_,fun q hq=>?_⟩,h3.mono (fun b _ hb=>hrow.2 b hb)⟩
  ·rw[List.length_append,List.map_append]
   rw[hl9] at h1 ⊢
   unfold rawL at h1 ⊢
   rw[List.flatMap_append]
   exact h1
  ·rw[zcQ] at hq
   split at hq
   ·cases hq
   ·cases hq;exact hg
section
variable {w:World} {a:Act} {o:Oper} {ops:Array Oper} {Q:Exit->Act->World->Prop} {rest:List Oper}
theorem ztA (hgd:o.guard=none) (s x:Operand) (ho:o.op=.call { callee:=.builtin .append,args:=#[s,x],argTypes:=#[71,71] })
  (n:Nat) (v:Value) (xs:List Str) (hs:a.eval s=v) (hrow:zqY w n v xs) (hxl:xs.length≤50000) (X:Nat->Prop) (u:Value) (ys:List Str) (hx:a.eval x=u) (hu:Sl X w 1 StrC u ys) (hyl:ys.length≤50000) (hn:n≤w.heap.size)
  (k:∀v' w',zqY w' n v' (xs ++ ys)->Fr (fun b=>n≤b) w w'->wpList Tryz.prog ops Q rest (a.put o.dst v') w'):wpList Tryz.prog ops Q (o :: rest) a w:=by
 refine wpList_plain hgd fun K hK=>?_
 obtain⟨v',w',hr,h1,h2⟩:=ztz n v xs w o.type hrow hxl X u ys hu hyl hn
 unfold Oper.wp execOp
 simp only[ho,resolve,invoke,builtin,Sem.run_bind,Sem.run_pure,Result.andThen_ok,List.map_toArray,List.map_cons,List.map_nil,hs,hx,hr]
 exact hK _ _ (k v' w' h1 h2)
end
theorem ztB {W:World} {a':Act} {o:Oper} {s x:Operand} {N:List PanicEntry->World->Prop} {R:Value->World->Prop} (ho:o.op=.call { callee:=.builtin .append,args:=#[s,x],argTypes:=#[71,71] })
  (n:Nat) (v:Value) (xs:List Str) (hs:a'.eval s=v) (hrow:zqY W n v xs) (hxl:xs.length≤50000) (X:Nat->Prop) (u:Value) (ys:List Str) (hx:a'.eval x=u) (hu:Sl X W 1 StrC u ys) (hyl:ys.length≤50000) (hn:n≤W.heap.size)
  (k:∀v' W',zqY W' n v' (xs ++ ys)->Fr (fun b=>n≤b) W W'->R v' W'):zlP Tryz.prog N R ((execOp a'.eval o).run Tryz.prog W):=by
 obtain⟨v',w',hr,h1,h2⟩:=ztz n v xs W o.type hrow hxl X u ys hu hyl hn
 unfold execOp
 simp only[ho,resolve,invoke,builtin,Sem.run_bind,Sem.run_pure,Result.andThen_ok,List.map_toArray,List.map_cons,List.map_nil,hs,hx,hr,zlP]
 exact k v' w' h1 h2
def litE:Value->World->Prop:=fun v _=>∃b,v=.slice (some ⟨b,0,none⟩) 0 0
theorem ztC:MonP litE:=fun _ _ _ h _=>h
def oneE (s:Str):Value->World->Prop:=fun v W=>∃b,v=.slice (some ⟨b,0,none⟩) 1 1∧Bx W b 9 (rowS [s])
theorem ztD (s:Str):MonP (oneE s):=fun _ _ _ ⟨b,h1,h2⟩ hf=>⟨b,h1,h2.keep hf⟩
def ztE (n:Nat) (xs:List Str):Value->World->Prop:=fun v W=>∃A m c,v=.slice A m c∧zqY W n (.slice A m c) xs
theorem ztF (n:Nat) (xs:List Str):MonP (ztE n xs):=fun _ _ _ ⟨A,m,c,h1,h2⟩ hf=>⟨A,m,c,h1,h2.keep hf⟩
theorem ztE.of {n:Nat} {xs:List Str} {v:Value} {W:World} (h:zqY W n v xs):ztE n xs v W:=by
 obtain⟨A,c,rfl,_⟩:=h.form
 exact⟨A,_,c,rfl,h⟩
theorem zqY.cp {n m c:Nat} {A:Option Addr} {xs:List Str} {ks:List (Raw 1)} {W:World} (hk:ks=xs.map zqT) (hm:m=ks.length) (h:RowV W 9 1 (.slice A m c) m (rawL ks)) (hq:∀q,zcP (.slice A m c)=some q->n≤q):zqY W n (.slice A m c) xs:=by
 subst hk
 rw[List.length_map] at hm
 subst hm
 exact⟨h,hq⟩
theorem Sl.oneS {X:Nat->Prop} {w:World} {b:Nat} {E:TypeId} {s:Str} (h:Bx w b E (rowS [s])) (hX:¬X b) (hs:s.size≤maxLen):Sl X w 1 StrC (.slice (some ⟨b,0,none⟩) 1 1) [s]:=by
 refine⟨_,_,rfl,Nat.le_refl _,by unfold maxLen;simp,fun h0=>⟨b,0,rfl,hX,fun k hk=>⟨[.string s],?_,rfl,fun j hj=>?_⟩⟩⟩
 ·have hk0:k=0:=by simpa using hk
  subst hk0
  exact⟨rfl,hs⟩
 ·have hk0:k=0:=by simpa using hk
  obtain rfl:j=0:=by omega
  subst hk0
  rw[h.cell]
  rfl
theorem ztG (i:Ins) (h1:-100000≤i.a) (h2:i.a≤100000) (h3:i.name.size≤10) (h4:i.member.size≤10):(zqr i).length≤100:=by
 have hw:=zrz i.op.toNat
 have hn:insB i=true->(i.op=1∨i.op=2∨i.op=3∨i.op=11∨i.op=12∨i.op=13)->(numL i.a).length≤20:=fun hb ho=>by
  have h9:-10000<i.a∧i.a<10000:=by
   rcases zrA hb with h|h|h|h
   ·exact h.2
   ·omega
   ·omega
   ·omega
  unfold numL
  have:=zp7 (n:=i.a.natAbs) (by omega)
  split
  ·rw[List.length_cons];omega
  ·omega
 have e1:(Str.l i.name).length=i.name.size:=zkb _
 have e2:(Str.l i.member).length=i.member.size:=zkb _
 unfold zqr
 split
 ·rename_i hb
  split
  ·rename_i ho
   have:=hn hb ho
   simp only[List.length_append,List.length_cons];omega
  ·split
   ·simp only[List.length_append,List.length_cons];omega
   ·split
    ·simp only[List.length_append,List.length_cons];omega
    ·omega
 ·simp
theorem zbW:laidOutB Tryz.prog=true:=by kernel_rfl
theorem zbX:Keyed Tryz.prog 29:=
 Keyed.of_law (deep_law_gate zbW (of_decide_eq_true (by kernel_rfl)) (of_decide_eq_true (by kernel_rfl)) (by kernel_rfl) (by kernel_rfl))
def zbY (k:Int) (s:Str):Lit:=.string (keyBytes [.int .i64 k,.string s.data.toList])
theorem zbZ {k:Int} {s:Str} (wk:(Lit.int .i64 k).wf=true) (hs:s.size≤maxLen):keyOf Tryz.prog 29 (.agg #[.int .i64 k,.string s])=some (zbY k s):=by
 have hkt:Tryz.prog.keyType 29=true:=by kernel_rfl
 have c2:Tryz.prog.cellsOf 29=2:=by kernel_rfl
 have c3:Tryz.prog.cellsOf 3=1:=by kernel_rfl
 have c9:Tryz.prog.cellsOf 9=1:=by kernel_rfl
 obtain⟨m,hm⟩:∃m,Tryz.prog.types.size=m+1:=⟨Tryz.prog.types.size-1,by
  have:0<Tryz.prog.types.size:=of_decide_eq_true (by kernel_rfl)
  omega⟩
 unfold keyOf
 simp only[Tryz.underlying29]
 rw[if_pos (by simp[hkt,Value.formed,Tryz.underlying29,c2]),hm]
 simp[Program.keyLits,Tryz.underlying29,Tryz.underlying3,Tryz.underlying9,c2,c3,c9,wk,hs,Value.cells,zbY]
theorem zb0 {k k':Int} {s s':Str} (wk:(Lit.int .i64 k).wf=true) (wk':(Lit.int .i64 k').wf=true) (hs:s.size≤maxLen) (hs':s'.size≤maxLen) (h:zbY k s=zbY k' s'):k=k'∧s=s':=by
 have h1:=zbZ wk hs
 have h2:=zbZ wk' hs'
 rw[<-h] at h2
 have:=zbX.inj h1 h2
 simpa using this
def MapF (w:World) (b n:Nat) (f:Int->Str->Option Int):Prop:=
 ∃D:DataW Unit,w.ownsMap Tryz.prog 29 (plainElem Tryz.prog 3) b n D∧IsMap D ∧
  ∀k s,(Lit.int .i64 k).wf=true->s.size≤maxLen->Maps.has D (zbY k s)=(f k s).isSome∧D.atKey (zbY k s) (.lit (.int .i64 0))=.lit (.int .i64 ((f k s).getD 0))
def upd (f:Int->Str->Option Int) (k:Int) (s:Str) (v:Int):Int->Str->Option Int:=fun k' s'=>if k'=k∧s'=s then some v else f k' s'
section
variable {X:Nat->Prop} {w w':World} {b n:Nat} {f g:Int->Str->Option Int}
theorem MapF.lt (h:MapF w b n f):b<w.heap.size:=let ⟨_,h,_⟩:=h;h.lt
theorem MapF.keepX (h:MapF w b n f) (hf:Fr X w w') (hn:¬X b):MapF w' b n f:=by
 obtain⟨D,⟨es,clock,hb,h1,h2,h3⟩,hI,hv⟩:=h
 have hlt:b<w.heap.size:=(Array.getElem?_eq_some_iff.1 hb).1
 exact⟨D,⟨es,clock,(hf.block b hlt hn).trans hb,h1,h2,h3⟩,hI,hv⟩
theorem MapF.keep (h:MapF w b n f) (hf:Fr No w w'):MapF w' b n f:=h.keepX hf (fun h=>h)
theorem MapF.congr (h:MapF w b n f) (he:∀k s,f k s=g k s):MapF w b n g:=by
 obtain⟨D,h1,h2,h3⟩:=h
 exact⟨D,h1,h2,fun k s hk hs=>by rw[<-he];exact h3 k s hk hs⟩
theorem MapF.mono {m:Nat} (h:MapF w b n f) (hm:n≤m):MapF w b m f:=by
 obtain⟨D,h1,h2,h3⟩:=h
 exact⟨D,h1.mono hm,h2,h3⟩
theorem MapF.made (w:World):MapF (w.alloc (.map #[] 0)) w.heap.size 0 (fun _ _=>none):=
 ⟨.map [],World.ownsMap_made _ _ _ _,⟨[],rfl⟩,fun _ _ _ _=>⟨rfl,rfl⟩⟩
theorem zb1 (w:World):(zeroValue 3).run Tryz.prog w=.ok (.int .i64 0) w:=by kernel_rfl
theorem MapF.look_ok (h:MapF w b n f) {k:Int} {s:Str} (wk:(Lit.int .i64 k).wf=true) (hs:s.size≤maxLen):
  (Instr.lookup 103 (.map (some b)) (.agg #[.int .i64 k,.string s]) true).run Tryz.prog w=.ok (.tuple #[.int .i64 ((f k s).getD 0),.bool (f k s).isSome]) w:=by
 obtain⟨D,h1,_,h3⟩:=h
 obtain⟨v,ps,hrun,hv⟩:=h1.look_ok zbX Tryz.underlying103 (zb1 w) (plainElem_int Tryz.underlying3 (by decide)) (zbZ wk hs)
 obtain⟨e1,e2⟩:=h3 k s wk hs
 obtain⟨c,rfl,hc,_⟩:=plainElem_int_inv Tryz.underlying3 hv
 rw[e2] at hc
 simp only[Prod.mk.injEq,DataW.lit.injEq,Lit.int.injEq,true_and] at hc
 rw[hrun,e1,hc.1]
theorem MapF.look (h:MapF w b n f) {k:Int} {s:Str} (wk:(Lit.int .i64 k).wf=true) (hs:s.size≤maxLen):
  (Instr.lookup 103 (.map (some b)) (.agg #[.int .i64 k,.string s]) false).run Tryz.prog w=.ok (.int .i64 ((f k s).getD 0)) w:=by
 obtain⟨D,h1,_,h3⟩:=h
 obtain⟨c,hrun,hat,_⟩:=h1.lookup_int zbX Tryz.underlying103 Tryz.underlying3 (zb1 w) (zbZ wk hs)
 rw[(h3 k s wk hs).2] at hat
 simp only[DataW.lit.injEq,Lit.int.injEq,true_and] at hat
 rw[hrun,hat]
theorem MapF.put (h:MapF w b n f) (hn:n<maxLen) {k v:Int} {s:Str} (wk:(Lit.int .i64 k).wf=true) (hs:s.size≤maxLen) (wv:(Lit.int .i64 v).wf=true):
  ∃w',(Instr.mapUpdate 103 (.map (some b)) (.agg #[.int .i64 k,.string s]) (.int .i64 v)).run Tryz.prog w=.ok () w'∧MapF w' b (n+1) (upd f k s v)∧w.grownBy w' (some b):=by
 obtain⟨D,h1,hI,h3⟩:=h
 obtain⟨w',hrun,h4,h5⟩:=h1.update zbX Tryz.underlying103 hn (zbZ wk hs) (plainElem_int Tryz.underlying3 wv)
 have hkl:=zbX.key (zbZ wk hs)
 refine⟨w',hrun,⟨_,h4,?_,fun k' s' wk' hs'=>?_⟩,h5⟩
 ·obtain⟨es,rfl⟩:=hI
  exact⟨_,rfl⟩
 ·unfold upd
  by_cases he:k'=k∧s'=s
  ·obtain⟨rfl,rfl⟩:=he
   rw[if_pos ⟨rfl,rfl⟩]
   exact⟨has_put_same hI hkl _,atKey_put_same hI hkl _ _⟩
  ·rw[if_neg he]
   have hne:zbY k' s'≠zbY k s:=fun h=>he (zb0 wk' wk hs' hs h)
   rw[has_put_other hne,atKey_put_other hne]
   exact h3 k' s' wk' hs'
end
theorem zb2 {w:World} {ops:Array Oper} {rest:List Oper} {o:Oper} {a:Act} {Q:Exit->Act->World->Prop} {b n:Nat} {f:Int->Str->Option Int}
  (hg:o.guard=none) (m x v:Operand) (hop:o.op=Op.mapUpdate 103 m x v) (hm:a.eval m=.map (some b)) (h:MapF w b n f) (hn:n<maxLen) {k c:Int} {s:Str}
  (hx:a.eval x=.agg #[.int .i64 k,.string s]) (hv:a.eval v=.int .i64 c) (wk:(Lit.int .i64 k).wf=true) (hs:s.size≤maxLen) (wv:(Lit.int .i64 c).wf=true)
  (hK:∀w',MapF w' b (n+1) (upd f k s c)->w.grownBy w' (some b)->wpList Tryz.prog ops Q rest (a.put o.dst undef) w'):
  wpList Tryz.prog ops Q (o :: rest) a w:=by
 refine wpList_plain hg fun K' hK'=>?_
 obtain⟨w',hrun,r1,r2⟩:=h.put hn wk hs wv
 unfold Oper.wp
 simp[execOp,hop,hm,hx,hv,hrun,Result.andThen]
 exact hK' _ _ (hK w' r1 r2)
theorem zb3 {k:Int} (h0:0≤k) (h1:k≤9223372036854775807):(Lit.int .i64 k).wf=true:=by
 simp[Lit.wf,IntKind.min,IntKind.max,IntKind.signed,IntKind.bits];omega
end Go.Proofs.YtbfmeklfpackjaaGreatDoor
