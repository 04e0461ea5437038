/- Regions that draw their order and make new memory: each operation's yield is told by a law that outlives what comes behind it; one law an operation serves every order. -/
import Derived.Test.YtpghfhjhjlmljaaGreatPG1
import Derived.StillTailTactics
import Derived.KernelRfl
import Derived.Deep.RegionHeld3
namespace Go.Proofs.YtpghfhjhjlmljaaGreat
open Go.RowKit
def zaa (P:Program) (R:Value->World->Prop):Result Next->Prop
 | .ok (.value u) w'=>R u w'
 | .ok .skip w'=>R undef w'
 | .ok (.enter f args) w'=>Calls P f args w' (fun e w''=>∃v,e=.returned v∧R v w'')
 | _=>False
def zab (P:Program) (o:Oper) (a:Act) (W:World) (R:Value->World->Prop):Prop:=zaa P R ((execOp a.eval o).run P W)
theorem zac {P:Program} {o:Oper} {a:Act} {W:World} {R:Value->World->Prop} {K:Act->World->Prop} {Q:Exit->Act->World->Prop} (h:zab P o a W R) (hK:∀v W',R v W'->K (a.put o.dst v) W'):o.wp P a W K Q:=by
 unfold zab at h
 unfold Oper.wp
 generalize(execOp a.eval o).run P W=r at *
 cases r with
 | ok n w'=>
  cases n<;>simp only[zaa] at h<;>simp only[Oper.upon]
  case value u=>exact hK _ _ h
  case skip=>exact hK _ _ h
  case enter f args=>exact h.mono fun e w'' ⟨v,he,hR⟩=>by subst he;exact hK _ _ hR
 | halt x w'=>simp only[zaa] at h
def zad:List Oper->(Nat->Value)->(Nat->Bool)->Nat->Act->Act
 | [],_,_,_,a=>a
 | o :: rest,vs,on,k,a=>zad rest vs on (k+1) (if on k then a.put o.dst (vs k) else a)
def zae:List Oper->Bool
 | []=>true
 | o :: rest=>(match o.dst with|some d=>rest.all (fun p=>p.dst != some d)|none=>true)&&zae rest
theorem zaf {o:Oper} {rest:List Oper} {d:Nat} (h:zae (o :: rest)=true) (hd:o.dst=some d):∀p∈rest,p.dst≠some d:=fun p hp=>by
 simp only[zae,hd,lz5] at h
 have:=List.all_eq_true.1 h.1 p hp
 simpa using this
theorem zah {o:Oper} {rest:List Oper} (h:zae (o :: rest)=true):zae rest=true:=by
 simp only[zae,lz5] at h;exact h.2
theorem zai:∀(l:List Oper) (vs:Nat->Value) (on:Nat->Bool) (k:Nat) (a:Act) (d:Nat) (v:Value),(∀o∈l,o.dst≠some d)->zad l vs on k (a.put (some d) v)=(zad l vs on k a).put (some d) v
 | [],_,_,_,_,_,_,_=>rfl
 | o :: rest,vs,on,k,a,d,v,h=>by
  have ih:=fun a=>zai rest vs on (k+1) a d v (fun p hp=>h p (by simp[hp]))
  unfold zad
  cases hk:on k
  ·simpa using ih a
  ·simp only[if_true]
   rw[Act.put_comm a v (vs k) (fun d' hd'=>by cases hd';exact h o (by simp))]
   exact ih _
theorem zaj:∀(l:List Oper) (vs vs':Nat->Value) (on on':Nat->Bool) (k:Nat) (a:Act),(∀j,k≤j->j<k+l.length->vs j=vs' j∧on j=on' j)->zad l vs on k a=zad l vs' on' k a
 | [],_,_,_,_,_,_,_=>rfl
 | o :: rest,vs,vs',on,on',k,a,h=>by
  unfold zad
  obtain⟨h1,h2⟩:=h k (by omega) (by simp)
  rw[h1,h2]
  exact zaj rest vs vs' on on' (k+1) _ (fun j hj hj'=>h j (by omega) (by simp;omega))
def updF {α:Type} (f:Nat->α) (i:Nat) (x:α):Nat->α:=fun j=>if j=i then x else f j
theorem zak:∀(l:List Oper) (vs:Nat->Value) (on:Nat->Bool) (k:Nat) (a:Act) (i:Nat) (o:Oper) (v:Value),zae l=true->k≤i->l[i-k]? =some o->on i=false->
  zad l (updF vs i v) (updF on i true) k a=(zad l vs on k a).put o.dst v
 | [],_,_,_,_,_,_,_,_,_,h,_=>by simp at h
 | p :: rest,vs,on,k,a,i,o,v,hd,hk,h,hon=>by
  unfold zad
  by_cases hik:i=k
  ·subst hik
   rw[Nat.sub_self,lz3] at h
   cases h
   rw[hon,show updF on i true i=true by simp[updF],show updF vs i v i=v by simp[updF]]
   simp only[if_true,Bool.false_eq_true,if_false]
   rw[zaj rest _ vs _ on (i+1) _ (fun j hj _=>⟨by simp only[updF];rw[if_neg (by omega)],by simp only[updF];rw[if_neg (by omega)]⟩)]
   cases hdst:p.dst with
   | none=>rfl
   | some d=>exact zai rest vs on (i+1) a d v (zaf hd hdst)
  ·rw[show updF on i true k=on k by simp only[updF];rw[if_neg (by omega)],show updF vs i v k=vs k by simp only[updF];rw[if_neg (by omega)]]
   refine zak rest vs on (k+1) _ i o v (zah hd) (by omega) ?_ hon
   rw[show i-k=(i-(k+1))+1 by omega,lz4] at h
   exact h
theorem zal:∀(l:List Oper) (vs:Nat->Value) (on:Nat->Bool) (k:Nat) (a:Act) (t:Nat),(∀p∈l,p.dst≠some t)->(zad l vs on k a).eval (.tmp t)=a.eval (.tmp t)
 | [],_,_,_,_,_,_=>rfl
 | o :: rest,vs,on,k,a,t,h=>by
  unfold zad
  rw[zal rest vs on (k+1) _ t (fun p hp=>h p (by simp[hp]))]
  cases on k
  ·rfl
  ·simp only[if_true]
   exact Act.eval_put (fun d hd he=>h o (by simp) (by cases he;exact hd))
theorem zam (a:Act) (d:Option Nat) (v:Value):(a.put d v).tmps.size=a.tmps.size:=by
 cases d<;>simp[Act.put]
theorem eval_put_same {a:Act} {d:Nat} {v:Value} (h:d<a.tmps.size):(a.put (some d) v).eval (.tmp d)=v:=by
 simp[Act.put,Act.eval,h]
theorem zan:∀(l:List Oper) (vs:Nat->Value) (on:Nat->Bool) (k:Nat) (a:Act) (i:Nat) (o:Oper) (d:Nat),zae l=true->k≤i->l[i-k]? =some o->on i=true->o.dst=some d->d<a.tmps.size->
  (zad l vs on k a).eval (.tmp d)=vs i
 | [],_,_,_,_,_,_,_,_,_,h,_,_,_=>by simp at h
 | p :: rest,vs,on,k,a,i,o,d,hd,hk,h,hon,ho,hs=>by
  unfold zad
  by_cases hik:i=k
  ·subst hik
   rw[Nat.sub_self,lz3] at h
   cases h
   rw[zal rest vs on (i+1) _ d (zaf hd ho),hon,if_pos rfl,ho,eval_put_same hs]
  ·rw[show i-k=(i-(k+1))+1 by omega,lz4] at h
   refine zan rest vs on (k+1) _ i o d (zah hd) (by omega) h hon ho ?_
   cases on k
   ·simpa using hs
   ·simpa[zam] using hs
theorem zao {p p':Nat->Bool} {i:Nat} (h1:p i=true) (h2:p' i=false) (h3:∀j,j≠i->p j=p' j):∀n,i<n->(List.range n).countP p=(List.range n).countP p'+1
 | 0,h=>absurd h (by omega)
 | n+1,h=>by
  rw[List.range_succ,List.countP_append,List.countP_append]
  by_cases hin:i=n
  ·subst hin
   have:(List.range i).countP p=(List.range i).countP p':=List.countP_congr fun j hj=>by rw[h3 j (by have:=List.mem_range.1 hj;omega)]
   rw[this]
   simp[h1,h2]
  ·have:=zao h1 h2 h3 n (by omega)
   rw[this]
   have e:p n=p' n:=h3 n (by omega)
   simp only[List.countP_singleton,e]
   omega
theorem zaq {p:Nat->Bool} {n:Nat} (h:(List.range n).countP p≠0):∃i,i<n∧p i=true:=by
 have:0<(List.range n).countP p:=by omega
 rw[List.countP_pos_iff] at this
 obtain⟨i,hi,hp⟩:=this
 exact⟨i,List.mem_range.1 hi,hp⟩
theorem least {p:Nat->Bool}:∀(i:Nat),p i=true->∃k,k≤i∧p k=true∧∀j,j<k->p j=false:=by
 intro i
 induction i using Nat.strongRecOn with
 | _ i ih=>
  intro hi
  by_cases h:∃j,j<i∧p j=true
  ·obtain⟨j,hj,hp⟩:=h
   obtain⟨k,hk,h1,h2⟩:=ih j hj hp
   exact⟨k,by omega,h1,h2⟩
  ·exact⟨i,Nat.le_refl _,hi,fun j hj=>by
    cases hp:p j
    ·rfl
    ·exact absurd ⟨j,hj,hp⟩ h⟩
section
variable {P:Program} {l:List Oper} {Q:Exit->Act->World->Prop} {a:Act} {w:World} {n:Nat} {Φ:Nat->Value->World->Prop} {E:Nat->Bool}
def zar (ops:Array Oper) (n:Nat):Bool:=(List.range n).all fun k=>match ops[k]? with|some o=>o.guard.isNone&&o.after.all (fun e=>!Region.binds .any e || decide (e.on<k))|none=>false
def zas (ops:Array Oper) (n:Nat):Array Bool:=Array.ofFn (n:=ops.size) (fun i=>decide (i.val<n))
def zat (E:Nat->Bool) (ops:Array Oper) (n:Nat):Bool:=
 (List.range n).all fun i=>E i || (List.range (n+1)).any fun j=>decide (i<j)&&(decide (j=n) || !E j)&&Region.waitsFor .any ops j i
def zau (E:Nat->Bool) (ops:Array Oper) (n:Nat):Bool:=
 (List.range n).all fun i=>!E i || match ops[i]? with
  | some o=>o.after.all (fun e=>!Region.binds .any e || !E e.on)&&(List.range ops.size).all (fun j=>decide (j=i) || o.after.any (fun e=>Region.binds .any e&&e.on == j) || match ops[j]? with|some oj=>oj.after.any (fun e=>Region.binds .any e&&e.on == i) || o.apart ops oj|none=>false)
  | none=>false
def monB (E:Nat->Bool) (l:List Oper) (n:Nat):Bool:=
 zae (l.take n)&&decide (n<l.length)&&zat E l.toArray n&&Region.chainB .any l.toArray n&&zar l.toArray n&&Region.seqB .any l.toArray (l.length-n) n (zas l.toArray n)&&Region.noSelect l.toArray&&zau E l.toArray n
theorem zav {ops:Array Oper} {listed:Array Bool} (hs:zat E ops n=true) (hc:Region.chainB .any ops n=true) (hn:n<ops.size) (inv:HeadInv .any ops n listed):
  ∀(d i:Nat),n-i=d->i<n->E i=false->listed.getD i true=false->∀t,n≤t->t∉Region.ready .any ops listed:=by
 intro d
 induction d using Nat.strongRecOn with
 | _ d ih=>
  intro i hd hi hE hun t ht hr
  obtain⟨_,ot,hot,hall⟩:=mem_ready.1 hr
  have htlt:t<ops.size:=(Array.getElem?_eq_some_iff.1 hot).1
  by_cases htn:t=n
  ·subst htn
   have h1:=List.all_eq_true.1 hs i (List.mem_range.2 hi)
   rw[hE,Bool.false_or] at h1
   obtain⟨j,hj,hj2⟩:=List.any_eq_true.1 h1
   simp only[lz5,Bool.or_eq_true,decide_eq_true_eq,Bool.not_eq_true'] at hj2
   obtain⟨⟨hij,hjE⟩,hw⟩:=hj2
   obtain⟨oj,hoj,e,he,hb,hon⟩:=Region.waitsFor_spec hw
   have hjle:j≤t:=by have:=List.mem_range.1 hj;omega
   by_cases hjt:j=t
   ·subst hjt
    have:oj=ot:=Option.some.inj (hoj.symm.trans hot)
    subst this
    have h2:=hall e he hb
    rw[hon,getD_both hun] at h2
    cases h2
   ·cases hl:listed.getD j false with
    | true=>
     have h2:=inv.closed j oj hoj hl e he hb
     rw[hon,getD_both hun] at h2
     cases h2
    | false=>
     have hjs:j<listed.size:=by rw[inv.size];omega
     exact ih (t-j) (by omega) j rfl (by omega) (hjE.resolve_left hjt) (getD_in hjs hl) t (Nat.le_refl _) hr
  ·have h1:=List.all_eq_true.1 hc t (List.mem_range.2 htlt)
   simp only[Bool.or_eq_true,decide_eq_true_eq] at h1
   rcases h1 with h1|h1
   ·omega
   ·obtain⟨o',ho',e,he,hb,hon⟩:=Region.waitsFor_spec h1
    have:o'=ot:=Option.some.inj (ho'.symm.trans hot)
    subst this
    have h2:=hall e he hb
    rw[hon,getD_both (inv.tail (t-1) (by omega) (by omega))] at h2
    cases h2
def bk:Value->Nat
 | .pointer (some a)=>a.block
 | .slice (some a) _ _=>a.block
 | _=>0
def zaw (P:Program) (o:Oper) (a:Act) (R:Value->Prop):Prop:=∃v,(∀W,(execOp a.eval o).run P W=.ok (.value v) W)∧R v
theorem zax (A:Nat->Bool) (hA:∀k v W,A k=true->Φ k v W->bk v<W.heap.size) (hm:monB E l n=true) (hsz:∀o∈l.take n,∀d,o.dst=some d->d<a.tmps.size) (hΦ:∀k v W W',Φ k v W->Fr No W W'->Φ k v W')
  (hQ:∀c a w,¬Q (.panic c) a w)
  (hop:∀k o,(l.take n)[k]? =some o->∀a' W,Fr No w W->(∀t,(∀p∈l.take n,p.dst≠some t)->a'.eval (.tmp t)=a.eval (.tmp t))->(∀e∈o.after,Region.binds .any e=true->∀p d,(l.take n)[e.on]? =some p->p.dst=some d->Φ e.on (a'.eval (.tmp d)) W)->
   (E k=true->zaw P o a' (fun v=>Φ k v W∧A k=false))∧(E k=false->zab P o a' W (fun v W'=>Fr No W W'∧Φ k v W'∧(A k=true->W.heap.size≤bk v))))
  (hend:∀vs W,Fr No w W->(∀k,k<n->Φ k (vs k) W)->(∀j k,j<n->k<n->j≠k->A j=true->A k=true->bk (vs j)≠bk (vs k))->wpList P l.toArray Q (l.drop n) (zad (l.take n) vs (fun _=>true) 0 a) W):
  ∀(f:Nat) (listed:Array Bool) (W:World),f=(List.range n).countP (fun i=>!listed.getD i true)->HeadInv .any l.toArray n listed->∀vs,Fr No w W->(∀k,k<n->listed.getD k false=true->Φ k (vs k) W)->(∀j k,j<n->k<n->j≠k->listed.getD j false=true->listed.getD k false=true->A j=true->A k=true->bk (vs j)≠bk (vs k))->
   wpAny P .any l.toArray Q (f+(l.length-n)) listed (zad (l.take n) vs (fun i=>listed.getD i false) 0 a) W:=by
 simp only[monB,lz5,decide_eq_true_eq] at hm
 obtain⟨⟨⟨⟨⟨⟨⟨hdist,hn⟩,hs⟩,hc⟩,hb⟩,hseq⟩,hsel⟩,hea⟩:=hm
 have htl:(l.take n).length=n:=by simp;omega
 intro f
 induction f with
 | zero=>
  intro listed W hf inv vs hw hv hne
  have hall:∀i,i<n->listed.getD i false=true:=fun i hi=>by
   cases h:listed.getD i false
   ·have h1:i<listed.size:=by rw[inv.size];simp;omega
    have h2:=getD_in h1 h
    have:0<(List.range n).countP (fun i=>!listed.getD i true):=List.countP_pos_iff.2 ⟨i,List.mem_range.2 hi,by simp[h2]⟩
    omega
   ·rfl
  have hlist:listed=zas l.toArray n:=by
   apply Array.ext
   ·simp[zas,inv.size]
   ·intro i h1 h2
    simp only[zas,Array.getElem_ofFn]
    by_cases hi:i<n
    ·have:=hall i hi
     rw[decide_eq_true hi]
     simpa[h1] using this
    ·have:=inv.tail i (by omega) (by rw[<-inv.size];exact h1)
     rw[decide_eq_false hi]
     simpa[h1] using this
  rw[Nat.zero_add]
  have hds:(l.drop n).length=l.length-n:=by simp
  rw[<-hds]
  refine wpAny_of_seq (md:=.any) (l.drop n) n listed _ W (fun j=>by simp[List.getElem?_drop]) (by rw[hds,hlist];exact hseq) ?_
  rw[zaj (l.take n) vs vs (fun i=>listed.getD i false) (fun _=>true) 0 a (fun j _ hj=>⟨rfl,hall j (by omega)⟩)]
  exact hend vs W hw (fun k hk=>hv k hk (hall k hk)) (fun j k hj hk hjk=>hne j k hj hk hjk (hall j hj) (hall k hk))
 | succ f ih=>
  intro listed W hf inv vs hw hv hne
  obtain⟨i0,hi0,hu0⟩:=zaq (p:=fun i=>!listed.getD i true) (n:=n) (by omega)
  have hu0':listed.getD i0 true=false:=by simpa using hu0
  rw[show f+1+(l.length-n)=(f+(l.length-n))+1 by omega]
  -- what may come up, and what it yields
  have hstep:∀i,i∈Region.ready .any l.toArray listed->i<n->∀o,l.toArray[i]? =some o->∀v W',Fr No W W'->Φ i v W'->(A i=true->W.heap.size≤bk v)->
    wpAny P .any l.toArray Q (f+(l.length-n)) (listed.setIfInBounds i true) ((zad (l.take n) vs (fun i=>listed.getD i false) 0 a).put o.dst v) W':=by
   intro i hi hin o ho v W' hf' hΦv hfresh
   obtain⟨hun,_⟩:=mem_ready.1 hi
   have hoff:listed.getD i false=false:=getD_both hun
   have hot:(l.take n)[i]? =some o:=by
    have:l[i]? =some o:=by simpa using ho
    rw[List.getElem?_take_of_lt hin];exact this
   have hsetL:(fun j=>(listed.setIfInBounds i true).getD j false)=updF (fun j=>listed.getD j false) i true:=by
    funext j
    unfold updF
    by_cases hj:j=i
    ·subst hj
     have:j<listed.size:=by rw[inv.size];simp;omega
     simp[this]
    ·rw[if_neg hj,getD_set_ne false (Ne.symm hj)]
   have:=ih (listed.setIfInBounds i true) W' (by
     have:=zao (p:=fun j=>!listed.getD j true) (p':=fun j=>!(listed.setIfInBounds i true).getD j true) (i:=i) (by simp[hun]) (by
      have:i<listed.size:=by rw[inv.size];simp;omega
      simp[this]) (fun j hj=>by
      show(!listed.getD j true)=!(listed.setIfInBounds i true).getD j true
      rw[getD_set_ne true (Ne.symm hj)]) n hin
     omega) (inv.set hi hin) (updF vs i v) (hw.trans0 hf') (fun k hk hl=>by
     by_cases hki:k=i
     ·subst hki;rw[show updF vs k v k=v by simp[updF]];exact hΦv
     ·rw[show updF vs i v k=vs k by simp only[updF];rw[if_neg hki]]
      rw[getD_set_ne false (Ne.symm hki)] at hl
      exact hΦ _ _ _ _ (hv k hk hl) hf') (fun j k hj hk hjk hlj hlk hAj hAk=>by
     by_cases hji:j=i
     ·subst hji
      rw[show updF vs j v j=v by simp[updF],show updF vs j v k=vs k by simp only[updF];rw[if_neg (Ne.symm hjk)]]
      rw[getD_set_ne false hjk] at hlk
      have h1:=hA k _ _ hAk (hv k hk hlk)
      have h2:=hfresh hAj
      omega
     ·rw[show updF vs i v j=vs j by simp only[updF];rw[if_neg hji]]
      rw[getD_set_ne false (Ne.symm hji)] at hlj
      by_cases hki:k=i
      ·subst hki
       rw[show updF vs k v k=v by simp[updF]]
       have h1:=hA j _ _ hAj (hv j hj hlj)
       have h2:=hfresh hAk
       omega
      ·rw[show updF vs i v k=vs k by simp only[updF];rw[if_neg hki]]
       rw[getD_set_ne false (Ne.symm hki)] at hlk
       exact hne j k hj hk hjk hlj hlk hAj hAk)
   rw[hsetL,zak (l.take n) vs _ 0 a i o v hdist (Nat.zero_le _) (by simpa using hot) hoff] at this
   exact this
  have hobl:∀i,i∈Region.ready .any l.toArray listed->i<n->∀o,l.toArray[i]? =some o->(E i=true->zaw P o (zad (l.take n) vs (fun i=>listed.getD i false) 0 a) (fun v=>Φ i v W∧A i=false))∧(E i=false->zab P o (zad (l.take n) vs (fun i=>listed.getD i false) 0 a) W (fun v W'=>Fr No W W'∧Φ i v W'∧(A i=true->W.heap.size≤bk v))):=by
   intro i hi hin o ho
   obtain⟨_,o',ho',hdeps⟩:=mem_ready.1 hi
   have:o'=o:=Option.some.inj (ho'.symm.trans ho)
   subst this
   have hot:(l.take n)[i]? =some o':=by
    have:l[i]? =some o':=by simpa using ho
    rw[List.getElem?_take_of_lt hin];exact this
   exact hop i o' hot _ W hw (fun t ht=>zal _ _ _ _ _ t ht) (fun e he hbd p d hp hd=>by
    have hlis:=hdeps e he hbd
    have hen:e.on<n:=by
     have:=(List.getElem?_eq_some_iff.1 hp).1
     omega
    rw[zan (l.take n) vs _ 0 a e.on p d hdist (Nat.zero_le _) (by simpa using hp) hlis hd (hsz p (List.mem_of_getElem? hp) d hd)]
    exact hv e.on hen hlis)
  by_cases hE:∃i,i<n∧E i=true∧i∈Region.ready .any l.toArray listed
  ·obtain⟨i,hin,hEi,hi⟩:=hE
   obtain⟨hun,o,ho,hdeps⟩:=mem_ready.1 hi
   obtain⟨v,hrun,hΦv,hAi⟩:=(hobl i hi hin o ho).1 hEi
   have hg:o.guard=none:=by
    have h1:=List.all_eq_true.1 hb i (List.mem_range.2 hin)
    rw[ho] at h1
    simp only[lz5] at h1
    exact Option.isNone_iff_eq_none.1 h1.1
   have hfree:=List.all_eq_true.1 hea i (List.mem_range.2 hin)
   rw[hEi,ho] at hfree
   simp only[Bool.not_true,Bool.false_or,lz5] at hfree
   refine wpAny_first (v:=v) ho (Region.noSelect_spec hsel) (fun c a' w' h=>absurd h (hQ _ _ _)) _ listed _ W (fun j oj hj hji hunj hno=>?_) hi (.inl ⟨by unfold Region.wanted;rw[hg],hrun⟩) (hstep i hi hin o ho v W (Fr.refl _ _) hΦv (fun h=>by rw[hAi] at h;cases h))
   have hjs:j<l.toArray.size:=(Array.getElem?_eq_some_iff.1 hj).1
   have h2:=List.all_eq_true.1 hfree.2 j (List.mem_range.2 hjs)
   rw[hj] at h2
   simp only[Bool.or_eq_true,decide_eq_true_eq] at h2
   rcases h2 with (h2|h2)|h2|h2
   ·exact absurd h2 hji
   ·obtain⟨e,he,hbe⟩:=Array.any_eq_true'.1 h2
    simp only[lz5,beq_iff_eq] at hbe
    have h3:=hdeps e he hbe.1
    rw[hbe.2,getD_both hunj] at h3
    cases h3
   ·obtain⟨e,he,hbe⟩:=Array.any_eq_true'.1 h2
    simp only[lz5,beq_iff_eq] at hbe
    exact absurd hbe.2 (hno e he hbe.1)
   ·exact h2
  ·refine⟨fun h0=>?_,fun i hi=>?_⟩
   ·exfalso
    obtain⟨k,hk,hk1,hk2⟩:=least (p:=fun i=>!listed.getD i true) i0 hu0
    have hkn:k<n:=by omega
    have h1:=List.all_eq_true.1 hb k (List.mem_range.2 hkn)
    have hkl:k<l.toArray.size:=by simp;omega
    have hok:l.toArray[k]? =some l.toArray[k]:=Array.getElem?_eq_getElem hkl
    rw[hok] at h1
    simp only[lz5] at h1
    have:k∈Region.ready .any l.toArray listed:=mem_ready.2 ⟨by simpa using hk1,_,hok,fun e he hbd=>by
     have h2:=Array.all_eq_true_iff_forall_mem.1 h1.2 e he
     have h3:e.on<k:=by simpa[hbd] using h2
     have h4:=hk2 e.on h3
     have h5:listed.getD e.on true=true:=by simpa using h4
     have h6:e.on<listed.size:=by rw[inv.size];simp;omega
     simpa[h6] using h5⟩
    rw[h0] at this
    cases this
   ·have hin:i<n:=by
     rcases Nat.lt_or_ge i n with h|h
     ·exact h
     ·exfalso
      cases hEi:E i0
      ·exact absurd hi (zav hs hc (by simpa using hn) inv _ i0 rfl hi0 hEi hu0' i h)
      ·-- the eager one's own are there, so it may come up
       apply hE
       refine⟨i0,hi0,hEi,?_⟩
       have hkl:i0<l.toArray.size:=by simp;omega
       have hok:l.toArray[i0]? =some l.toArray[i0]:=Array.getElem?_eq_getElem hkl
       have h1:=List.all_eq_true.1 hb i0 (List.mem_range.2 hi0)
       have h2:=List.all_eq_true.1 hea i0 (List.mem_range.2 hi0)
       rw[hok] at h1
       rw[hEi,hok] at h2
       simp only[lz5] at h1
       simp only[Bool.not_true,Bool.false_or,lz5] at h2
       refine mem_ready.2 ⟨hu0',_,hok,fun e he hbd=>?_⟩
       have h3:=Array.all_eq_true_iff_forall_mem.1 h1.2 e he
       have h4:e.on<i0:=by simpa[hbd] using h3
       have h5:=Array.all_eq_true_iff_forall_mem.1 h2.1 e he
       have h6:E e.on=false:=by simpa[hbd] using h5
       cases h7:listed.getD e.on false
       ·have h8:e.on<listed.size:=by rw[inv.size];simp;omega
        exact absurd hi (zav hs hc (by simpa using hn) inv _ e.on rfl (by omega) h6 (getD_in h8 h7) i h)
       ·rfl
    obtain⟨hun,o,ho,hdeps⟩:=mem_ready.1 hi
    have hEi:E i=false:=by
     cases h:E i
     ·rfl
     ·exact absurd ⟨i,hin,h,hi⟩ hE
    have hg:o.guard=none:=by
     have h1:=List.all_eq_true.1 hb i (List.mem_range.2 hin)
     rw[ho] at h1
     simp only[lz5] at h1
     exact Option.isNone_iff_eq_none.1 h1.1
    have hgive:=(hobl i hi hin o ho).2 hEi
    unfold wpOp
    simp only[ho]
    rw[if_pos (by unfold Region.wanted;rw[hg])]
    refine .inl (zac hgive ?_)
    rintro v W' ⟨hf',hΦv,hfresh⟩
    exact hstep i hi hin o ho v W' hf' hΦv hfresh
theorem zay {id:Nat} (n:Nat) (Φ:Nat->Value->World->Prop) (A E:Nat->Bool) (hA:∀k v W,A k=true->Φ k v W->bk v<W.heap.size) (hf:P.follows .mixedOrders=true) (hm:monB E l n=true) (hsz:∀o∈l.take n,∀d,o.dst=some d->d<a.tmps.size) (hΦ:∀k v W W',Φ k v W->Fr No W W'->Φ k v W')
  (hop:∀k o,(l.take n)[k]? =some o->∀a' W,Fr No w W->(∀t,(∀p∈l.take n,p.dst≠some t)->a'.eval (.tmp t)=a.eval (.tmp t))->(∀e∈o.after,Region.binds .any e=true->∀p d,(l.take n)[e.on]? =some p->p.dst=some d->Φ e.on (a'.eval (.tmp d)) W)->
   (E k=true->zaw P o a' (fun v=>Φ k v W∧A k=false))∧(E k=false->zab P o a' W (fun v W'=>Fr No W W'∧Φ k v W'∧(A k=true->W.heap.size≤bk v))))
  (T:Act->World->Prop)
  (hend:∀vs W,Fr No w W->(∀k,k<n->Φ k (vs k) W)->(∀j k,j<n->k<n->j≠k->A j=true->A k=true->bk (vs j)≠bk (vs k))->wpList P l.toArray (fun e a' W'=>e=.normal∧T a' W') (l.drop n) (zad (l.take n) vs (fun _=>true) 0 a) W)
  (hT:∀a' W,T a' W->Q .normal a' W):(Code.region id l.toArray true).wp P Q a w:=by
 have hm':=hm
 simp only[monB,lz5,decide_eq_true_eq] at hm'
 have hn:n<l.length:=hm'.1.1.1.1.1.1.2
 refine Code.wp_mono (Q:=fun e a' W'=>e=.normal∧T a' W') (fun e a' W ⟨he,hx⟩=>by subst he;exact hT a' W hx) ?_
 refine wp_region_any hf ?_
 have hcount:(List.range n).countP (fun i=>!(Array.replicate l.toArray.size false).getD i true)=n:=by
  rw[List.countP_eq_length.2 (fun i hi=>by
   have:=List.mem_range.1 hi
   have:i<l.length:=by omega
   simp[this])]
  simp
 have h:=zax (w:=w) A hA hm hsz hΦ (fun c a' w' h=>by cases h.1) hop hend n (Array.replicate l.toArray.size false) { w with drawn:=w.drawn+1 } hcount.symm
  ⟨by simp,fun j oj _ hl=>(by rw[getD_replicate_false] at hl;cases hl),fun t _ ht=>getD_in (by simpa using ht) (getD_replicate_false _ _)⟩ (fun _=>undef) (Fr.refl No w).drew (fun k _ hl=>by rw[getD_replicate_false] at hl;cases hl) (fun j k _ _ _ hl=>by rw[getD_replicate_false] at hl;cases hl)
 rw[zaj (l.take n) (fun _=>undef) (fun _=>undef) (fun i=>(Array.replicate l.toArray.size false).getD i false) (fun _=>false) 0 a (fun j _ _=>⟨rfl,getD_replicate_false _ _⟩)] at h
 have hnone:∀(l':List Oper) (k:Nat) (a:Act),zad l' (fun _=>undef) (fun _=>false) k a=a:=fun l'=>by
  induction l' with
  | nil=>intro k a;rfl
  | cons o rest ih=>intro k a;unfold zad;simpa using ih (k+1) a
 rw[hnone,show n+(l.length-n)=l.toArray.size by simp;omega] at h
 exact h
end
def MonP (φ:Value->World->Prop):Prop:=∀v W W',φ v W->Fr No W W'->φ v W'
def isV (u:Value):Value->World->Prop:=fun v _=>v=u
def atB (t:TypeId) (cs:Array Value) (base:Nat):Value->World->Prop:=fun v W=>∃b,v=.pointer (some ⟨b,0,none⟩)∧Bx W b t cs∧base≤b
theorem zaz (u:Value):MonP (isV u):=fun _ _ _ h _=>h
theorem zaA (t:TypeId) (cs:Array Value) (base:Nat):MonP (atB t cs base):=fun _ _ _ ⟨b,h1,h2,h3⟩ hf=>⟨b,h1,h2.keep hf,h3⟩
theorem zaB {t:TypeId} {cs:Array Value} {base:Nat} {v:Value} {W:World} (h:atB t cs base v W):bk v<W.heap.size:=by
 obtain⟨b,rfl,hb,_⟩:=h
 exact hb.lt
theorem zaC {P:Program} {l:List Oper} {Q:Exit->Act->World->Prop} {a:Act} {w:World} {id:Nat} (n:Nat) (L:List (Value->World->Prop)) (AL EL:List Bool) (hA:∀p∈L.zip AL,p.2=true->∀v W,p.1 v W->bk v<W.heap.size)
  (hf:P.follows .mixedOrders=true) (hm:(monB (fun k=>EL.getD k false) l n&&decide (L.length=n)&&decide (AL.length=n))=true) (hsz:∀o∈l.take n,∀d,o.dst=some d->d<a.tmps.size) (hL:∀φ∈L,MonP φ)
  (hop:∀k o,(l.take n)[k]? =some o->∀a' W,Fr No w W->(∀t,(∀p∈l.take n,p.dst≠some t)->a'.eval (.tmp t)=a.eval (.tmp t))->(∀e∈o.after,Region.binds .any e=true->∀p d,(l.take n)[e.on]? =some p->p.dst=some d->L.getD e.on (fun _ _=>True) (a'.eval (.tmp d)) W)->
   (EL.getD k false=true->zaw P o a' (fun v=>L.getD k (fun _ _=>True) v W∧AL.getD k false=false))∧(EL.getD k false=false->zab P o a' W (fun v W'=>Fr No W W'∧L.getD k (fun _ _=>True) v W'∧(AL.getD k false=true->W.heap.size≤bk v))))
  (hend:∀vs W,Fr No w W->(∀k,k<n->L.getD k (fun _ _=>True) (vs k) W)->(∀j k,j<n->k<n->j≠k->AL.getD j false=true->AL.getD k false=true->bk (vs j)≠bk (vs k))->wpList P l.toArray (fun e a' W'=>e=.normal∧Q .normal a' W') (l.drop n) (zad (l.take n) vs (fun _=>true) 0 a) W):(Code.region id l.toArray true).wp P Q a w:=by
 simp only[lz5,decide_eq_true_eq] at hm
 obtain⟨⟨hm,hl1⟩,hl2⟩:=hm
 refine zay n (fun k=>L.getD k (fun _ _=>True)) (fun k=>AL.getD k false) (fun k=>EL.getD k false) (fun k v W hk h=>?_) hf hm hsz (fun k v W W' h hf=>?_) hop (fun a' W'=>Q .normal a' W') hend (fun _ _ h=>h)
 ·have hk2:k<AL.length:=by
   rcases Nat.lt_or_ge k AL.length with h|h
   ·exact h
   ·simp[List.getD,List.getElem?_eq_none h] at hk
  have hk1:k<L.length:=by omega
  have e1:L.getD k (fun _ _=>True)=L[k]:=by simp[List.getD,lz8 hk1]
  have e2:AL.getD k false=AL[k]:=by simp[List.getD,lz8 hk2]
  rw[e1] at h
  rw[e2] at hk
  exact hA (L[k],AL[k]) (List.mem_iff_getElem.2 ⟨k,by simp;omega,by simp⟩) hk v W h
 ·rcases Nat.lt_or_ge k L.length with h1|h1
  ·have e1:L.getD k (fun _ _=>True)=L[k]:=by simp[List.getD,lz8 h1]
   rw[e1] at h ⊢
   exact hL _ (List.getElem_mem h1) v W W' h hf
  ·have e1:L.getD k (fun _ _=>True)=fun _ _=>True:=by simp[List.getD,List.getElem?_eq_none h1]
   rw[e1];trivial
section
variable {w:World} {g:Nat} {t:TypeId} {c0 c1 c2 c3 c4 c5 c6 c7:Value}
theorem Bx.r1 (h:Bx w g t #[c0]):∀W,Fr No w W->W.cell? ⟨g,0,none⟩=some c0∧(∀j,W.frozen? ⟨g,j,none⟩=false)∧g<W.heap.size:=fun _ hW=>
 ⟨(h.keep hW).cell 0,fun j=>(h.keep hW).frozen j,(h.keep hW).lt⟩
theorem Bx.r2 (h:Bx w g t #[c0,c1]):∀W,Fr No w W->W.cell? ⟨g,0,none⟩=some c0∧W.cell? ⟨g,1,none⟩=some c1∧(∀j,W.frozen? ⟨g,j,none⟩=false)∧g<W.heap.size:=fun _ hW=>
 ⟨(h.keep hW).cell 0,(h.keep hW).cell 1,fun j=>(h.keep hW).frozen j,(h.keep hW).lt⟩
theorem Bx.r3 (h:Bx w g t #[c0,c1,c2]):∀W,Fr No w W->W.cell? ⟨g,0,none⟩=some c0∧W.cell? ⟨g,1,none⟩=some c1∧W.cell? ⟨g,2,none⟩=some c2∧(∀j,W.frozen? ⟨g,j,none⟩=false)∧g<W.heap.size:=fun _ hW=>
 ⟨(h.keep hW).cell 0,(h.keep hW).cell 1,(h.keep hW).cell 2,fun j=>(h.keep hW).frozen j,(h.keep hW).lt⟩
theorem Bx.r4 (h:Bx w g t #[c0,c1,c2,c3]):∀W,Fr No w W->W.cell? ⟨g,0,none⟩=some c0∧W.cell? ⟨g,1,none⟩=some c1∧W.cell? ⟨g,2,none⟩=some c2∧W.cell? ⟨g,3,none⟩=some c3∧(∀j,W.frozen? ⟨g,j,none⟩=false)∧g<W.heap.size:=fun _ hW=>
 ⟨(h.keep hW).cell 0,(h.keep hW).cell 1,(h.keep hW).cell 2,(h.keep hW).cell 3,fun j=>(h.keep hW).frozen j,(h.keep hW).lt⟩
theorem Bx.r8 (h:Bx w g t #[c0,c1,c2,c3,c4,c5,c6,c7]):∀W,Fr No w W->W.cell? ⟨g,0,none⟩=some c0∧W.cell? ⟨g,1,none⟩=some c1∧W.cell? ⟨g,2,none⟩=some c2∧W.cell? ⟨g,3,none⟩=some c3∧W.cell? ⟨g,4,none⟩=some c4∧W.cell? ⟨g,5,none⟩=some c5∧W.cell? ⟨g,6,none⟩=some c6∧W.cell? ⟨g,7,none⟩=some c7∧(∀j,W.frozen? ⟨g,j,none⟩=false)∧g<W.heap.size:=fun _ hW=>
 ⟨(h.keep hW).cell 0,(h.keep hW).cell 1,(h.keep hW).cell 2,(h.keep hW).cell 3,(h.keep hW).cell 4,(h.keep hW).cell 5,(h.keep hW).cell 6,(h.keep hW).cell 7,fun j=>(h.keep hW).frozen j,(h.keep hW).lt⟩
end
theorem cr {w:World} {b o:Nat} {v:Value} (h:w.cell? ⟨b,o,none⟩=some v):∀W,Fr No w W->W.cell? ⟨b,o,none⟩=some v∧b<W.heap.size:=fun _ hW=>
 ⟨hW.keep0 h,lt_of_cell (hW.keep0 h)⟩
end Go.Proofs.YtpghfhjhjlmljaaGreat
