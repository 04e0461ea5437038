/- Regions that draw their order, one of whose operations writes: what those ahead of it yielded need not outlive it. -/
import Derived.Test.YtmeaibjmnjcdfaaGreatVG14
namespace Go.Proofs.YtmeaibjmnjcdfaaGreat
open Go.RowKit
def zny (ops:Array Oper) (j k:Nat):Bool:=match ops[j]? with
 | some o=>o.after.any (fun e=>Region.binds .any e&&decide (e.on=k))
 | none=>false
def preB (ops:Array Oper) (u:Nat) (pre:Nat->Bool) (n:Nat):Bool:=(List.range n).all fun k=>!pre k || (List.range (u+1)).any fun j=>decide (k<j)&&(decide (j=u) || (pre j&&decide (j<n)))&&zny ops j k
def pstB (ops:Array Oper) (u:Nat) (post:Nat->Bool) (n:Nat):Bool:=(List.range n).all fun k=>!post k || (List.range k).any fun j=>(decide (j=u) || post j)&&zny ops k j
section
variable {ops:Array Oper} {listed:Array Bool} {n u:Nat}
theorem znz (inv:HeadInv .any ops n listed) {j k:Nat} (h:zny ops j k=true) (hj:listed.getD j false=true):listed.getD k false=true:=by
 unfold zny at h
 cases ho:ops[j]? with
 | none=>rw[ho] at h;cases h
 | some o=>
  rw[ho] at h
  obtain⟨e,he,h2⟩:=Array.any_eq_true'.1 h
  simp only[lz5,decide_eq_true_eq] at h2
  have:=inv.closed j o ho hj e he h2.1
  rwa [h2.2] at this
theorem znA {pre:Nat->Bool} (inv:HeadInv .any ops n listed) (h:preB ops u pre n=true) (_hn:n≤ops.size) (hu:listed.getD u false=true):∀k,k<n->pre k=true->listed.getD k false=true:=by
 have key:∀d k,u-k=d->k<n->pre k=true->listed.getD k false=true:=by
  intro d
  induction d using Nat.strongRecOn with
  | _ d ih=>
   intro k hd hk hp
   have h1:=List.all_eq_true.1 h k (List.mem_range.2 hk)
   rw[hp] at h1
   simp only[Bool.not_true,Bool.false_or,List.any_eq_true,List.mem_range,lz5,Bool.or_eq_true,decide_eq_true_eq] at h1
   obtain⟨j,hj,⟨hkj,h2⟩,h3⟩:=h1
   refine znz inv h3 ?_
   rcases h2 with rfl | ⟨h2,h4⟩
   ·exact hu
   ·exact ih (u-j) (by omega) j rfl h4 h2
 exact fun k hk hp=>key _ k rfl hk hp
theorem znB {post:Nat->Bool} (inv:HeadInv .any ops n listed) (h:pstB ops u post n=true) (_hn:n≤ops.size):∀k,k<n->post k=true->listed.getD k false=true->listed.getD u false=true:=by
 intro k
 induction k using Nat.strongRecOn with
 | _ k ih=>
  intro hk hp hl
  have h1:=List.all_eq_true.1 h k (List.mem_range.2 hk)
  rw[hp] at h1
  simp only[Bool.not_true,Bool.false_or,List.any_eq_true,List.mem_range,lz5,Bool.or_eq_true,decide_eq_true_eq] at h1
  obtain⟨j,hj,h2,h3⟩:=h1
  have h4:=znz inv h3 hl
  rcases h2 with rfl|h2
  ·exact h4
  ·exact ih j hj (by omega) h2 h4
theorem znC {post:Nat->Bool} {i:Nat} {o:Oper} (hdeps:∀e∈o.after,Region.binds .any e=true->listed.getD e.on false=true) (ho:ops[i]? =some o) (h:pstB ops u post n=true) (hi:i<n) (hp:post i=true) (hl:∀k,k<n->post k=true->listed.getD k false=true->listed.getD u false=true) (_:∀e∈o.after,Region.binds .any e=true->e.on<n):listed.getD u false=true:=by
 have h1:=List.all_eq_true.1 h i (List.mem_range.2 hi)
 rw[hp] at h1
 simp only[Bool.not_true,Bool.false_or,List.any_eq_true,List.mem_range,lz5,Bool.or_eq_true,decide_eq_true_eq] at h1
 obtain⟨j,hj,h2,h3⟩:=h1
 unfold zny at h3
 rw[ho] at h3
 obtain⟨e,he,h4⟩:=Array.any_eq_true'.1 h3
 simp only[lz5,decide_eq_true_eq] at h4
 have h5:=hdeps e he h4.1
 rw[h4.2] at h5
 rcases h2 with rfl|h2
 ·exact h5
 ·exact hl j (by omega) h2 h5
theorem hb_lt (hb:zar ops n=true) {i:Nat} {o:Oper} (hi:i<n) (ho:ops[i]? =some o) (e:Edge) (he:e∈o.after) (hbd:Region.binds .any e=true):e.on<n:=by
 have h1:=List.all_eq_true.1 hb i (List.mem_range.2 hi)
 rw[ho] at h1
 simp only[lz5] at h1
 have h2:=Array.all_eq_true_iff_forall_mem.1 h1.2 e he
 have:e.on<i:=by simpa[hbd] using h2
 omega
end
section
variable {P:Program} {l:List Oper} {Q:Exit->Act->World->Prop} {a:Act} {w:World} {n:Nat} {Φ0 Φ1:Nat->Value->World->Prop} {E:Nat->Bool} {N:List PanicEntry->World->Prop}
theorem znD (A:Nat->Bool) (pre post:Nat->Bool) (u:Nat) (hpre:preB l.toArray u pre n=true) (hpost:pstB l.toArray u post n=true) (C1:World->Prop) (S:World->World->Prop) (hE1:E u=false) (hA1:A u=false) (hC1:∀W W',C1 W->Fr No W W'->C1 W') (hS:∀k v W W',k≠u->post k=false->Φ0 k v W->S W W'->Φ1 k v W') (hA:∀k v W,A k=true->(Φ0 k v W∨Φ1 k v W)->bk v<W.heap.size) (hm:monB E l n=true) (hsz:∀o∈l.take n,∀d,o.dst=some d->d<a.tmps.size) (hΦ0:∀k v W W',Φ0 k v W->Fr No W W'->Φ0 k v W') (hΦ1:∀k v W W',Φ1 k v W->Fr No W W'->Φ1 k v W')
  (hQ:∀c a a' w,a.defers=a'.defers->Q (.panic c) a w->Q (.panic c) a' w) (hN:∀c a' W,a'.defers=a.defers->N c W->Q (.panic c) a' W)
  (hop0:∀k o,k≠u->post k=false->(l.take n)[k]? =some o->∀a' W,Fr No w W->(∀t,(∀p∈l.take n,p.dst≠some t)->a'.eval (.tmp t)=a.eval (.tmp t))->(∀e∈o.after,Region.binds .any e=true->∀p d,(l.take n)[e.on]? =some p->p.dst=some d->Φ0 e.on (a'.eval (.tmp d)) W)->
   (E k=true->zaw P o a' (fun v=>Φ0 k v W∧A k=false))∧(E k=false->zab P o a' W (fun v W'=>Fr No W W'∧Φ0 k v W'∧(A k=true->W.heap.size≤bk v))))
  (hop1:∀k o,k≠u->pre k=false->(l.take n)[k]? =some o->∀a' W,C1 W->(∀t,(∀p∈l.take n,p.dst≠some t)->a'.eval (.tmp t)=a.eval (.tmp t))->(∀e∈o.after,Region.binds .any e=true->∀p d,(l.take n)[e.on]? =some p->p.dst=some d->Φ1 e.on (a'.eval (.tmp d)) W)->
   (E k=true->zaw P o a' (fun v=>Φ1 k v W∧A k=false))∧(E k=false->zab P o a' W (fun v W'=>Fr No W W'∧Φ1 k v W'∧(A k=true->W.heap.size≤bk v))))
  (hopu:∀o,(l.take n)[u]? =some o->∀a' W,Fr No w W->(∀t,(∀p∈l.take n,p.dst≠some t)->a'.eval (.tmp t)=a.eval (.tmp t))->(∀e∈o.after,Region.binds .any e=true->∀p d,(l.take n)[e.on]? =some p->p.dst=some d->Φ0 e.on (a'.eval (.tmp d)) W)->
   zlQ P o a' W N (fun v W'=>C1 W'∧S W W'∧Φ1 u v W'))
  (hend:∀vs W,((n≤u∧Fr No w W∧∀k,k<n->Φ0 k (vs k) W)∨(C1 W∧∀k,k<n->Φ1 k (vs k) W))->(∀j k,j<n->k<n->j≠k->A j=true->A k=true->bk (vs j)≠bk (vs k))->wpList P l.toArray Q (l.drop n) (zad (l.take n) vs (fun _=>true) 0 a) W):
  ∀(f:Nat) (listed:Array Bool) (W:World),f=(List.range n).countP (fun i=>!listed.getD i true)->HeadInv .any l.toArray n listed->∀vs,(listed.getD u false=false->Fr No w W)->(listed.getD u false=true->C1 W)->(∀k,k<n->listed.getD k false=true->(listed.getD u false=false->Φ0 k (vs k) W)∧(listed.getD u false=true->Φ1 k (vs k) W))->(∀j k,j<n->k<n->j≠k->listed.getD j false=true->listed.getD k false=true->A j=true->A k=true->bk (vs j)≠bk (vs k))->
   wpAny P .any l.toArray Q (f+(l.length-n)) listed (zad (l.take n) vs (fun i=>listed.getD i false) 0 a) W:=by
 simp only[monB,lz5,decide_eq_true_eq] at hm
 obtain⟨⟨⟨⟨⟨⟨⟨hdist,hn⟩,hs⟩,hc⟩,hb⟩,hseq⟩,hsel⟩,hea⟩:=hm
 have htl:(l.take n).length=n:=by simp;omega
 intro f
 induction f with
 | zero=>
  intro listed W hf inv vs hw hw1 hv hne
  have hall:∀i,i<n->listed.getD i false=true:=fun i hi=>by
   cases h:listed.getD i false
   ·have h1:i<listed.size:=by rw[inv.size];simp;omega
    have h2:=getD_in h1 h
    have:0<(List.range n).countP (fun i=>!listed.getD i true):=List.countP_pos_iff.2 ⟨i,List.mem_range.2 hi,by simp[h2]⟩
    omega
   ·rfl
  have hlist:listed=zas l.toArray n:=by
   apply Array.ext
   ·simp[zas,inv.size]
   ·intro i h1 h2
    simp only[zas,Array.getElem_ofFn]
    by_cases hi:i<n
    ·have:=hall i hi
     rw[decide_eq_true hi]
     simpa[h1] using this
    ·have:=inv.tail i (by omega) (by rw[<-inv.size];exact h1)
     rw[decide_eq_false hi]
     simpa[h1] using this
  rw[Nat.zero_add]
  have hds:(l.drop n).length=l.length-n:=by simp
  rw[<-hds]
  refine wpAny_of_seq (md:=.any) (l.drop n) n listed _ W (fun j=>by simp[List.getElem?_drop]) (by rw[hds,hlist];exact hseq) ?_
  rw[zaj (l.take n) vs vs (fun i=>listed.getD i false) (fun _=>true) 0 a (fun j _ hj=>⟨rfl,hall j (by omega)⟩)]
  refine hend vs W ?_ (fun j k hj hk hjk=>hne j k hj hk hjk (hall j hj) (hall k hk))
  cases hlu:listed.getD u false
  ·exact .inl ⟨Nat.le_of_not_lt (fun h=>by rw[hall u h] at hlu;cases hlu),hw hlu,fun k hk=>(hv k hk (hall k hk)).1 hlu⟩
  ·exact .inr ⟨hw1 hlu,fun k hk=>(hv k hk (hall k hk)).2 hlu⟩
 | succ f ih=>
  intro listed W hf inv vs hw hw1 hv hne
  obtain⟨i0,hi0,hu0⟩:=zaq (p:=fun i=>!listed.getD i true) (n:=n) (by omega)
  have hu0':listed.getD i0 true=false:=by simpa using hu0
  rw[show f+1+(l.length-n)=(f+(l.length-n))+1 by omega]
  -- what may come up, and what it yields
  have hstep:∀i,i∈Region.ready .any l.toArray listed->i<n->∀o,l.toArray[i]? =some o->∀v W',((i≠u∧Fr No W W')∨(i=u∧C1 W'∧S W W'))->((listed.getD u false=false->i≠u->Φ0 i v W')∧((listed.getD u false=true∨i=u)->Φ1 i v W'))->(A i=true->W.heap.size≤bk v)->
    wpAny P .any l.toArray Q (f+(l.length-n)) (listed.setIfInBounds i true) ((zad (l.take n) vs (fun i=>listed.getD i false) 0 a).put o.dst v) W':=by
   intro i hi hin o ho v W' hf' hΦv hfresh
   obtain⟨hun,_⟩:=mem_ready.1 hi
   have hoff:listed.getD i false=false:=getD_both hun
   have hot:(l.take n)[i]? =some o:=by
    have:l[i]? =some o:=by simpa using ho
    rw[List.getElem?_take_of_lt hin];exact this
   have hor:∀k,k<n->listed.getD k false=true->Φ0 k (vs k) W∨Φ1 k (vs k) W:=fun k hk hl=>by
    cases hlu:listed.getD u false
    ·exact .inl ((hv k hk hl).1 hlu)
    ·exact .inr ((hv k hk hl).2 hlu)
   have hsetL:(fun j=>(listed.setIfInBounds i true).getD j false)=updF (fun j=>listed.getD j false) i true:=by
    funext j
    unfold updF
    by_cases hj:j=i
    ·subst hj
     have:j<listed.size:=by rw[inv.size];simp;omega
     simp[this]
    ·rw[if_neg hj,getD_set_ne false (Ne.symm hj)]
   have:=ih (listed.setIfInBounds i true) W' (by
     have:=zao (p:=fun j=>!listed.getD j true) (p':=fun j=>!(listed.setIfInBounds i true).getD j true) (i:=i) (by simp[hun]) (by
      have:i<listed.size:=by rw[inv.size];simp;omega
      simp[this]) (fun j hj=>by
      show(!listed.getD j true)=!(listed.setIfInBounds i true).getD j true
      rw[getD_set_ne true (Ne.symm hj)]) n hin
     omega) (inv.set hi hin) (updF vs i v) (fun hl=>by
     rcases hf' with ⟨h1,h2⟩ | ⟨h1,h2,h3⟩
     ·rw[getD_set_ne false h1] at hl
      exact(hw hl).trans0 h2
     ·subst h1
      have h4:i<listed.size:=by rw[inv.size];simp;omega
      simp[h4] at hl) (fun hl=>by
     rcases hf' with ⟨h1,h2⟩ | ⟨h1,h2,h3⟩
     ·rw[getD_set_ne false h1] at hl
      exact hC1 _ _ (hw1 hl) h2
     ·exact h2) (fun k hk hl=>by
     by_cases hki:k=i
     ·subst hki
      rw[show updF vs k v k=v by simp[updF]]
      refine⟨fun h0=>?_,fun h1=>hΦv.2 ?_⟩
      ·by_cases hku:k=u
       ·exfalso;rw[<-hku,hl] at h0;cases h0
       ·rw[getD_set_ne false hku] at h0
        exact hΦv.1 h0 hku
      ·by_cases hku:k=u
       ·exact .inr hku
       ·rw[getD_set_ne false hku] at h1
        exact .inl h1
     ·rw[show updF vs i v k=vs k by simp only[updF];rw[if_neg hki]]
      rw[getD_set_ne false (Ne.symm hki)] at hl
      have hvk:=hv k hk hl
      rcases hf' with ⟨h1,h2⟩ | ⟨h1,h2,h3⟩
      ·rw[getD_set_ne false h1]
       exact⟨fun h=>hΦ0 _ _ _ _ (hvk.1 h) h2,fun h=>hΦ1 _ _ _ _ (hvk.2 h) h2⟩
      ·subst h1
       refine⟨fun h0=>?_,fun _=>?_⟩
       ·have h4:i<listed.size:=by rw[inv.size];simp;omega
        simp[h4] at h0
       ·have hpk:post k=false:=by
         cases hp:post k
         ·rfl
         ·rw[znB inv hpost (by have:=hn;simpa using Nat.le_of_lt this) k hk hp hl] at hoff;cases hoff
        exact hS _ _ _ _ hki hpk (hvk.1 hoff) h3) (fun j k hj hk hjk hlj hlk hAj hAk=>by
     by_cases hji:j=i
     ·subst hji
      rw[show updF vs j v j=v by simp[updF],show updF vs j v k=vs k by simp only[updF];rw[if_neg (Ne.symm hjk)]]
      rw[getD_set_ne false hjk] at hlk
      have h1:=hA k _ _ hAk (hor k hk hlk)
      have h2:=hfresh hAj
      omega
     ·rw[show updF vs i v j=vs j by simp only[updF];rw[if_neg hji]]
      rw[getD_set_ne false (Ne.symm hji)] at hlj
      by_cases hki:k=i
      ·subst hki
       rw[show updF vs k v k=v by simp[updF]]
       have h1:=hA j _ _ hAj (hor j hj hlj)
       have h2:=hfresh hAk
       omega
      ·rw[show updF vs i v k=vs k by simp only[updF];rw[if_neg hki]]
       rw[getD_set_ne false (Ne.symm hki)] at hlk
       exact hne j k hj hk hjk hlj hlk hAj hAk)
   rw[hsetL,zak (l.take n) vs _ 0 a i o v hdist (Nat.zero_le _) (by simpa using hot) hoff] at this
   exact this
  have hobl:∀i,i∈Region.ready .any l.toArray listed->i<n->i≠u->∀o,l.toArray[i]? =some o->∃F:Nat->Value->World->Prop,(∀v W',F i v W'->((listed.getD u false=false->i≠u->Φ0 i v W')∧((listed.getD u false=true∨i=u)->Φ1 i v W')))∧(E i=true->zaw P o (zad (l.take n) vs (fun i=>listed.getD i false) 0 a) (fun v=>F i v W∧A i=false))∧(E i=false->zab P o (zad (l.take n) vs (fun i=>listed.getD i false) 0 a) W (fun v W'=>Fr No W W'∧F i v W'∧(A i=true->W.heap.size≤bk v))):=by
   intro i hi hin hiu o ho
   obtain⟨hun,o',ho',hdeps⟩:=mem_ready.1 hi
   have:o'=o:=Option.some.inj (ho'.symm.trans ho)
   subst this
   have hot:(l.take n)[i]? =some o':=by
    have:l[i]? =some o':=by simpa using ho
    rw[List.getElem?_take_of_lt hin];exact this
   have hval:∀e∈o'.after,Region.binds .any e=true->∀p d,(l.take n)[e.on]? =some p->p.dst=some d->e.on<n∧listed.getD e.on false=true∧(zad (l.take n) vs (fun i=>listed.getD i false) 0 a).eval (.tmp d)=vs e.on:=fun e he hbd p d hp hd=>by
    have hlis:=hdeps e he hbd
    have hen:e.on<n:=by
     have:=(List.getElem?_eq_some_iff.1 hp).1
     omega
    exact⟨hen,hlis,zan (l.take n) vs _ 0 a e.on p d hdist (Nat.zero_le _) (by simpa using hp) hlis hd (hsz p (List.mem_of_getElem? hp) d hd)⟩
   cases hlu:listed.getD u false
   ·have hpi:post i=false:=by
     cases hp:post i
     ·rfl
     ·rw[znC hdeps ho hpost hin hp (fun k hk hpk hl=>znB inv hpost (by have:=hn;simpa using Nat.le_of_lt this) k hk hpk hl) (fun e he hbd=>hb_lt hb hin ho e he hbd)] at hlu;cases hlu
    refine⟨Φ0,fun v W' h=>⟨fun _ _=>h,fun h'=>(h'.elim (fun h=>by cases h) (fun h=>absurd h hiu))⟩,hop0 i o' hiu hpi hot _ W (hw hlu) (fun t ht=>zal _ _ _ _ _ t ht) (fun e he hbd p d hp hd=>?_)⟩
    obtain⟨hen,hlis,hve⟩:=hval e he hbd p d hp hd
    rw[hve]
    exact(hv e.on hen hlis).1 hlu
   ·have hpi:pre i=false:=by
     cases hp:pre i
     ·rfl
     ·have:=znA inv hpre (by have:=hn;simpa using Nat.le_of_lt this) hlu i hin hp
      rw[getD_both hun] at this;cases this
    refine⟨Φ1,fun v W' h=>⟨fun h'=>(by cases h'),fun _=>h⟩,hop1 i o' hiu hpi hot _ W (hw1 hlu) (fun t ht=>zal _ _ _ _ _ t ht) (fun e he hbd p d hp hd=>?_)⟩
    obtain⟨hen,hlis,hve⟩:=hval e he hbd p d hp hd
    rw[hve]
    exact(hv e.on hen hlis).2 hlu
  have hoblu:u∈Region.ready .any l.toArray listed->u<n->∀o,l.toArray[u]? =some o->zlQ P o (zad (l.take n) vs (fun i=>listed.getD i false) 0 a) W N (fun v W'=>C1 W'∧S W W'∧Φ1 u v W'):=by
   intro hi hin o ho
   obtain⟨hun,o',ho',hdeps⟩:=mem_ready.1 hi
   have:o'=o:=Option.some.inj (ho'.symm.trans ho)
   subst this
   have hot:(l.take n)[u]? =some o':=by
    have:l[u]? =some o':=by simpa using ho
    rw[List.getElem?_take_of_lt hin];exact this
   exact hopu o' hot _ W (hw (getD_both hun)) (fun t ht=>zal _ _ _ _ _ t ht) (fun e he hbd p d hp hd=>by
    have hlis:=hdeps e he hbd
    have hen:e.on<n:=by
     have:=(List.getElem?_eq_some_iff.1 hp).1
     omega
    rw[zan (l.take n) vs _ 0 a e.on p d hdist (Nat.zero_le _) (by simpa using hp) hlis hd (hsz p (List.mem_of_getElem? hp) d hd)]
    exact(hv e.on hen hlis).1 (getD_both hun))
  by_cases hE:∃i,i<n∧E i=true∧i∈Region.ready .any l.toArray listed
  ·obtain⟨i,hin,hEi,hi⟩:=hE
   obtain⟨hun,o,ho,hdeps⟩:=mem_ready.1 hi
   have hiu:i≠u:=fun h=>by subst h;rw[hE1] at hEi;cases hEi
   obtain⟨F,hF,hg1,_⟩:=hobl i hi hin hiu o ho
   obtain⟨v,hrun,hΦv,hAi⟩:=hg1 hEi
   have hg:o.guard=none:=by
    have h1:=List.all_eq_true.1 hb i (List.mem_range.2 hin)
    rw[ho] at h1
    simp only[lz5] at h1
    exact Option.isNone_iff_eq_none.1 h1.1
   have hfree:=List.all_eq_true.1 hea i (List.mem_range.2 hin)
   rw[hEi,ho] at hfree
   simp only[Bool.not_true,Bool.false_or,lz5] at hfree
   refine wpAny_first (v:=v) ho (Region.noSelect_spec hsel) (fun c a' w' h=>hQ _ _ _ _ (put_defers _ _ _) h) _ listed _ W (fun j oj hj hji hunj hno=>?_) hi (.inl ⟨by unfold Region.wanted;rw[hg],hrun⟩) (hstep i hi hin o ho v W (.inl ⟨hiu,Fr.refl _ _⟩) (hF v W hΦv) (fun h=>by rw[hAi] at h;cases h))
   have hjs:j<l.toArray.size:=(Array.getElem?_eq_some_iff.1 hj).1
   have h2:=List.all_eq_true.1 hfree.2 j (List.mem_range.2 hjs)
   rw[hj] at h2
   simp only[Bool.or_eq_true,decide_eq_true_eq] at h2
   rcases h2 with (h2|h2)|h2|h2
   ·exact absurd h2 hji
   ·obtain⟨e,he,hbe⟩:=Array.any_eq_true'.1 h2
    simp only[lz5,beq_iff_eq] at hbe
    have h3:=hdeps e he hbe.1
    rw[hbe.2,getD_both hunj] at h3
    cases h3
   ·obtain⟨e,he,hbe⟩:=Array.any_eq_true'.1 h2
    simp only[lz5,beq_iff_eq] at hbe
    exact absurd hbe.2 (hno e he hbe.1)
   ·exact h2
  ·refine⟨fun h0=>?_,fun i hi=>?_⟩
   ·exfalso
    obtain⟨k,hk,hk1,hk2⟩:=least (p:=fun i=>!listed.getD i true) i0 hu0
    have hkn:k<n:=by omega
    have h1:=List.all_eq_true.1 hb k (List.mem_range.2 hkn)
    have hkl:k<l.toArray.size:=by simp;omega
    have hok:l.toArray[k]? =some l.toArray[k]:=Array.getElem?_eq_getElem hkl
    rw[hok] at h1
    simp only[lz5] at h1
    have:k∈Region.ready .any l.toArray listed:=mem_ready.2 ⟨by simpa using hk1,_,hok,fun e he hbd=>by
     have h2:=Array.all_eq_true_iff_forall_mem.1 h1.2 e he
     have h3:e.on<k:=by simpa[hbd] using h2
     have h4:=hk2 e.on h3
     have h5:listed.getD e.on true=true:=by simpa using h4
     have h6:e.on<listed.size:=by rw[inv.size];simp;omega
     simpa[h6] using h5⟩
    rw[h0] at this
    cases this
   ·have hin:i<n:=by
     rcases Nat.lt_or_ge i n with h|h
     ·exact h
     ·exfalso
      cases hEi:E i0
      ·exact absurd hi (zav hs hc (by simpa using hn) inv _ i0 rfl hi0 hEi hu0' i h)
      ·-- the eager one's own are there, so it may come up
       apply hE
       refine⟨i0,hi0,hEi,?_⟩
       have hkl:i0<l.toArray.size:=by simp;omega
       have hok:l.toArray[i0]? =some l.toArray[i0]:=Array.getElem?_eq_getElem hkl
       have h1:=List.all_eq_true.1 hb i0 (List.mem_range.2 hi0)
       have h2:=List.all_eq_true.1 hea i0 (List.mem_range.2 hi0)
       rw[hok] at h1
       rw[hEi,hok] at h2
       simp only[lz5] at h1
       simp only[Bool.not_true,Bool.false_or,lz5] at h2
       refine mem_ready.2 ⟨hu0',_,hok,fun e he hbd=>?_⟩
       have h3:=Array.all_eq_true_iff_forall_mem.1 h1.2 e he
       have h4:e.on<i0:=by simpa[hbd] using h3
       have h5:=Array.all_eq_true_iff_forall_mem.1 h2.1 e he
       have h6:E e.on=false:=by simpa[hbd] using h5
       cases h7:listed.getD e.on false
       ·have h8:e.on<listed.size:=by rw[inv.size];simp;omega
        exact absurd hi (zav hs hc (by simpa using hn) inv _ e.on rfl (by omega) h6 (getD_in h8 h7) i h)
       ·rfl
    obtain⟨hun,o,ho,hdeps⟩:=mem_ready.1 hi
    have hEi:E i=false:=by
     cases h:E i
     ·rfl
     ·exact absurd ⟨i,hin,h,hi⟩ hE
    have hg:o.guard=none:=by
     have h1:=List.all_eq_true.1 hb i (List.mem_range.2 hin)
     rw[ho] at h1
     simp only[lz5] at h1
     exact Option.isNone_iff_eq_none.1 h1.1
    unfold wpOp
    simp only[ho]
    rw[if_pos (by unfold Region.wanted;rw[hg])]
    by_cases hiu:i=u
    ·subst hiu
     have hgive:=hoblu hi hin o ho
     refine .inl (zlR hgive (fun c W' h=>hN c _ W' (zlS _ _ _ _ _) h) ?_)
     rintro v W' ⟨hc',hs',hΦv⟩
     exact hstep i hi hin o ho v W' (.inr ⟨rfl,hc',hs'⟩) ⟨fun _ h=>absurd rfl h,fun _=>hΦv⟩ (fun h=>by rw[hA1] at h;cases h)
    ·obtain⟨F,hF,_,hg2⟩:=hobl i hi hin hiu o ho
     refine .inl (zac (hg2 hEi) ?_)
     rintro v W' ⟨hf',hΦv,hfresh⟩
     exact hstep i hi hin o ho v W' (.inl ⟨hiu,hf'⟩) (hF v W' hΦv) hfresh
theorem zpO {id:Nat} (n:Nat) (Φ0 Φ1:Nat->Value->World->Prop) (A E pre post:Nat->Bool) (u:Nat) (hpre:preB l.toArray u pre n=true) (hpost:pstB l.toArray u post n=true) (N:List PanicEntry->World->Prop) (C1:World->Prop) (S:World->World->Prop) (hE1:E u=false) (hA1:A u=false) (hC1:∀W W',C1 W->Fr No W W'->C1 W') (hS:∀k v W W',k≠u->post k=false->Φ0 k v W->S W W'->Φ1 k v W') (hA:∀k v W,A k=true->(Φ0 k v W∨Φ1 k v W)->bk v<W.heap.size) (hf:P.follows .mixedOrders=true) (hm:monB E l n=true) (hsz:∀o∈l.take n,∀d,o.dst=some d->d<a.tmps.size) (hΦ0:∀k v W W',Φ0 k v W->Fr No W W'->Φ0 k v W') (hΦ1:∀k v W W',Φ1 k v W->Fr No W W'->Φ1 k v W')
  (hop0:∀k o,k≠u->post k=false->(l.take n)[k]? =some o->∀a' W,Fr No w W->(∀t,(∀p∈l.take n,p.dst≠some t)->a'.eval (.tmp t)=a.eval (.tmp t))->(∀e∈o.after,Region.binds .any e=true->∀p d,(l.take n)[e.on]? =some p->p.dst=some d->Φ0 e.on (a'.eval (.tmp d)) W)->
   (E k=true->zaw P o a' (fun v=>Φ0 k v W∧A k=false))∧(E k=false->zab P o a' W (fun v W'=>Fr No W W'∧Φ0 k v W'∧(A k=true->W.heap.size≤bk v))))
  (hop1:∀k o,k≠u->pre k=false->(l.take n)[k]? =some o->∀a' W,C1 W->(∀t,(∀p∈l.take n,p.dst≠some t)->a'.eval (.tmp t)=a.eval (.tmp t))->(∀e∈o.after,Region.binds .any e=true->∀p d,(l.take n)[e.on]? =some p->p.dst=some d->Φ1 e.on (a'.eval (.tmp d)) W)->
   (E k=true->zaw P o a' (fun v=>Φ1 k v W∧A k=false))∧(E k=false->zab P o a' W (fun v W'=>Fr No W W'∧Φ1 k v W'∧(A k=true->W.heap.size≤bk v))))
  (hopu:∀o,(l.take n)[u]? =some o->∀a' W,Fr No w W->(∀t,(∀p∈l.take n,p.dst≠some t)->a'.eval (.tmp t)=a.eval (.tmp t))->(∀e∈o.after,Region.binds .any e=true->∀p d,(l.take n)[e.on]? =some p->p.dst=some d->Φ0 e.on (a'.eval (.tmp d)) W)->
   zlQ P o a' W N (fun v W'=>C1 W'∧S W W'∧Φ1 u v W'))
  (T:Act->World->Prop)
  (hend:∀vs W,((n≤u∧Fr No w W∧∀k,k<n->Φ0 k (vs k) W)∨(C1 W∧∀k,k<n->Φ1 k (vs k) W))->(∀j k,j<n->k<n->j≠k->A j=true->A k=true->bk (vs j)≠bk (vs k))->wpList P l.toArray (fun e a' W'=>(e=.normal∧T a' W')∨∃c,e=.panic c∧a'.defers=a.defers∧N c W') (l.drop n) (zad (l.take n) vs (fun _=>true) 0 a) W)
  (hT:∀a' W,T a' W->Q .normal a' W) (hN:∀c a' W,a'.defers=a.defers->N c W->Q (.panic c) a' W):(Code.region id l.toArray true).wp P Q a w:=by
 have hm':=hm
 simp only[monB,lz5,decide_eq_true_eq] at hm'
 have hn:n<l.length:=hm'.1.1.1.1.1.1.2
 refine Code.wp_mono (Q:=fun e a' W'=>(e=.normal∧T a' W')∨∃c,e=.panic c∧a'.defers=a.defers∧N c W') (fun e a' W hh=>by
  rcases hh with ⟨he,hx⟩ | ⟨c,he,hd,hx⟩
  ·subst he;exact hT a' W hx
  ·subst he;exact hN c a' W hd hx) ?_
 refine wp_region_any hf ?_
 have hcount:(List.range n).countP (fun i=>!(Array.replicate l.toArray.size false).getD i true)=n:=by
  rw[List.countP_eq_length.2 (fun i hi=>by
   have:=List.mem_range.1 hi
   have:i<l.length:=by omega
   simp[this])]
  simp
 have h:=znD (w:=w) A pre post u hpre hpost C1 S hE1 hA1 hC1 hS hA hm hsz hΦ0 hΦ1 (fun c a' a'' w' hd h=>by
  rcases h with ⟨h,_⟩ | ⟨c',h,hd',h'⟩
  ·cases h
  ·cases h;exact .inr ⟨_,rfl,hd▸hd',h'⟩) (fun c a' W hd h=>.inr ⟨c,rfl,hd,h⟩) hop0 hop1 hopu hend n (Array.replicate l.toArray.size false) { w with drawn:=w.drawn+1 } hcount.symm
  ⟨by simp,fun j oj _ hl=>(by rw[getD_replicate_false] at hl;cases hl),fun t _ ht=>getD_in (by simpa using ht) (getD_replicate_false _ _)⟩ (fun _=>undef) (fun _=>(Fr.refl No w).drew) (fun hl=>by rw[getD_replicate_false] at hl;cases hl) (fun k _ hl=>by rw[getD_replicate_false] at hl;cases hl) (fun j k _ _ _ hl=>by rw[getD_replicate_false] at hl;cases hl)
 rw[zaj (l.take n) (fun _=>undef) (fun _=>undef) (fun i=>(Array.replicate l.toArray.size false).getD i false) (fun _=>false) 0 a (fun j _ _=>⟨rfl,getD_replicate_false _ _⟩)] at h
 have hnone:∀(l':List Oper) (k:Nat) (a:Act),zad l' (fun _=>undef) (fun _=>false) k a=a:=fun l'=>by
  induction l' with
  | nil=>intro k a;rfl
  | cons o rest ih=>intro k a;unfold zad;simpa using ih (k+1) a
 rw[hnone,show n+(l.length-n)=l.toArray.size by simp;omega] at h
 exact h
theorem znE {id:Nat} (n:Nat) (Φ0 Φ1:Nat->Value->World->Prop) (A E pre post:Nat->Bool) (u:Nat) (hu:u<n) (hpre:preB l.toArray u pre n=true) (hpost:pstB l.toArray u post n=true) (N:List PanicEntry->World->Prop) (C1:World->Prop) (S:World->World->Prop) (hE1:E u=false) (hA1:A u=false) (hC1:∀W W',C1 W->Fr No W W'->C1 W') (hS:∀k v W W',k≠u->post k=false->Φ0 k v W->S W W'->Φ1 k v W') (hA:∀k v W,A k=true->(Φ0 k v W∨Φ1 k v W)->bk v<W.heap.size) (hf:P.follows .mixedOrders=true) (hm:monB E l n=true) (hsz:∀o∈l.take n,∀d,o.dst=some d->d<a.tmps.size) (hΦ0:∀k v W W',Φ0 k v W->Fr No W W'->Φ0 k v W') (hΦ1:∀k v W W',Φ1 k v W->Fr No W W'->Φ1 k v W')
  (hop0:∀k o,k≠u->post k=false->(l.take n)[k]? =some o->∀a' W,Fr No w W->(∀t,(∀p∈l.take n,p.dst≠some t)->a'.eval (.tmp t)=a.eval (.tmp t))->(∀e∈o.after,Region.binds .any e=true->∀p d,(l.take n)[e.on]? =some p->p.dst=some d->Φ0 e.on (a'.eval (.tmp d)) W)->
   (E k=true->zaw P o a' (fun v=>Φ0 k v W∧A k=false))∧(E k=false->zab P o a' W (fun v W'=>Fr No W W'∧Φ0 k v W'∧(A k=true->W.heap.size≤bk v))))
  (hop1:∀k o,k≠u->pre k=false->(l.take n)[k]? =some o->∀a' W,C1 W->(∀t,(∀p∈l.take n,p.dst≠some t)->a'.eval (.tmp t)=a.eval (.tmp t))->(∀e∈o.after,Region.binds .any e=true->∀p d,(l.take n)[e.on]? =some p->p.dst=some d->Φ1 e.on (a'.eval (.tmp d)) W)->
   (E k=true->zaw P o a' (fun v=>Φ1 k v W∧A k=false))∧(E k=false->zab P o a' W (fun v W'=>Fr No W W'∧Φ1 k v W'∧(A k=true->W.heap.size≤bk v))))
  (hopu:∀o,(l.take n)[u]? =some o->∀a' W,Fr No w W->(∀t,(∀p∈l.take n,p.dst≠some t)->a'.eval (.tmp t)=a.eval (.tmp t))->(∀e∈o.after,Region.binds .any e=true->∀p d,(l.take n)[e.on]? =some p->p.dst=some d->Φ0 e.on (a'.eval (.tmp d)) W)->
   zlQ P o a' W N (fun v W'=>C1 W'∧S W W'∧Φ1 u v W'))
  (T:Act->World->Prop)
  (hend:∀vs W,C1 W->(∀k,k<n->Φ1 k (vs k) W)->(∀j k,j<n->k<n->j≠k->A j=true->A k=true->bk (vs j)≠bk (vs k))->wpList P l.toArray (fun e a' W'=>(e=.normal∧T a' W')∨∃c,e=.panic c∧a'.defers=a.defers∧N c W') (l.drop n) (zad (l.take n) vs (fun _=>true) 0 a) W)
  (hT:∀a' W,T a' W->Q .normal a' W) (hN:∀c a' W,a'.defers=a.defers->N c W->Q (.panic c) a' W):(Code.region id l.toArray true).wp P Q a w:=
 zpO n Φ0 Φ1 A E pre post u hpre hpost N C1 S hE1 hA1 hC1 hS hA hf hm hsz hΦ0 hΦ1 hop0 hop1 hopu T (fun vs W h hne=>h.elim (fun h=>absurd h.1 (Nat.not_le_of_lt hu)) (fun h=>hend vs W h.1 h.2 hne)) hT hN
end
end Go.Proofs.YtmeaibjmnjcdfaaGreat
