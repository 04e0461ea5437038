/- Regions that draw their order, one of whose operations is a call that writes: the others come up ahead of it or behind it. -/
import Derived.Test.YthembcdcdnffeaaGreatDG2
namespace Go.Proofs.YthembcdcdnffeaaGreat
open Go.RowKit
def zlP (P:Program) (N:List PanicEntry->World->Prop) (R:Value->World->Prop):Result Next->Prop
 | .ok (.value u) w'=>R u w'
 | .ok .skip w'=>R undef w'
 | .ok (.enter f args) w'=>Calls P f args w' (fun e w''=>(∃v,e=.returned v∧R v w'')∨∃c,e=.panicked c∧N c w'')
 | _=>False
def zlQ (P:Program) (o:Oper) (a:Act) (W:World) (N:List PanicEntry->World->Prop) (R:Value->World->Prop):Prop:=zlP P N R ((execOp a.eval o).run P W)
theorem zlR {P:Program} {o:Oper} {a:Act} {W:World} {N:List PanicEntry->World->Prop} {R:Value->World->Prop} {K:Act->World->Prop} {Q:Exit->Act->World->Prop} (h:zlQ P o a W N R) (hN:∀c W',N c W'->Q (.panic c) a W') (hK:∀v W',R v W'->K (a.put o.dst v) W'):o.wp P a W K Q:=by
 unfold zlQ at h
 unfold Oper.wp
 generalize(execOp a.eval o).run P W=r at *
 cases r with
 | ok n w'=>
  cases n<;>simp only[zlP] at h<;>simp only[Oper.upon]
  case value u=>exact hK _ _ h
  case skip=>exact hK _ _ h
  case enter f args=>
   refine h.mono fun e w'' hh=>?_
   rcases hh with ⟨v,he,hR⟩ | ⟨c,he,hn⟩
   ·subst he;exact hK _ _ hR
   ·subst he;exact hN _ _ hn
 | halt x w'=>simp only[zlP] at h
theorem put_defers (a:Act) (d:Option Nat) (v:Value):(a.put d v).defers=a.defers:=by cases d<;>rfl
theorem zlS:∀(l:List Oper) (vs:Nat->Value) (on:Nat->Bool) (k:Nat) (a:Act),(zad l vs on k a).defers=a.defers
 | [],_,_,_,_=>rfl
 | o :: rest,vs,on,k,a=>by
  unfold zad
  rw[zlS rest]
  split
  ·exact put_defers _ _ _
  ·rfl
section
variable {P:Program} {l:List Oper} {Q:Exit->Act->World->Prop} {a:Act} {w:World} {n:Nat} {Φ:Nat->Value->World->Prop} {E:Nat->Bool} {N:List PanicEntry->World->Prop}
theorem zlT (A:Nat->Bool) (u:Nat) (C1:World->Prop) (S:World->World->Prop) (hE1:E u=false) (hA1:A u=false) (hC1:∀W W',C1 W->Fr No W W'->C1 W') (hS:∀k v W W',k≠u->Φ k v W->S W W'->Φ k v W') (hA:∀k v W,A k=true->Φ k v W->bk v<W.heap.size) (hm:monB E l n=true) (hsz:∀o∈l.take n,∀d,o.dst=some d->d<a.tmps.size) (hΦ:∀k v W W',Φ k v W->Fr No W W'->Φ k v W')
  (hQ:∀c a a' w,a.defers=a'.defers->Q (.panic c) a w->Q (.panic c) a' w) (hN:∀c a' W,a'.defers=a.defers->N c W->Q (.panic c) a' W)
  (hop:∀k o,k≠u->(l.take n)[k]? =some o->∀a' W,(Fr No w W∨C1 W)->(∀t,(∀p∈l.take n,p.dst≠some t)->a'.eval (.tmp t)=a.eval (.tmp t))->(∀e∈o.after,Region.binds .any e=true->∀p d,(l.take n)[e.on]? =some p->p.dst=some d->Φ e.on (a'.eval (.tmp d)) W)->
   (E k=true->zaw P o a' (fun v=>Φ k v W∧A k=false))∧(E k=false->zab P o a' W (fun v W'=>Fr No W W'∧Φ k v W'∧(A k=true->W.heap.size≤bk v))))
  (hopu:∀o,(l.take n)[u]? =some o->∀a' W,Fr No w W->(∀t,(∀p∈l.take n,p.dst≠some t)->a'.eval (.tmp t)=a.eval (.tmp t))->(∀e∈o.after,Region.binds .any e=true->∀p d,(l.take n)[e.on]? =some p->p.dst=some d->Φ e.on (a'.eval (.tmp d)) W)->
   zlQ P o a' W N (fun v W'=>C1 W'∧S W W'∧Φ u v W'))
  (hend:∀vs W,((n≤u∧Fr No w W)∨C1 W)->(∀k,k<n->Φ k (vs k) W)->(∀j k,j<n->k<n->j≠k->A j=true->A k=true->bk (vs j)≠bk (vs k))->wpList P l.toArray Q (l.drop n) (zad (l.take n) vs (fun _=>true) 0 a) W):
  ∀(f:Nat) (listed:Array Bool) (W:World),f=(List.range n).countP (fun i=>!listed.getD i true)->HeadInv .any l.toArray n listed->∀vs,(listed.getD u false=false->Fr No w W)->(listed.getD u false=true->C1 W)->(∀k,k<n->listed.getD k false=true->Φ k (vs k) W)->(∀j k,j<n->k<n->j≠k->listed.getD j false=true->listed.getD k false=true->A j=true->A k=true->bk (vs j)≠bk (vs k))->
   wpAny P .any l.toArray Q (f+(l.length-n)) listed (zad (l.take n) vs (fun i=>listed.getD i false) 0 a) W:=by
 simp only[monB,lz5,decide_eq_true_eq] at hm
 obtain⟨⟨⟨⟨⟨⟨⟨hdist,hn⟩,hs⟩,hc⟩,hb⟩,hseq⟩,hsel⟩,hea⟩:=hm
 have htl:(l.take n).length=n:=by simp;omega
 intro f
 induction f with
 | zero=>
  intro listed W hf inv vs hw hw1 hv hne
  have hall:∀i,i<n->listed.getD i false=true:=fun i hi=>by
   cases h:listed.getD i false
   ·have h1:i<listed.size:=by rw[inv.size];simp;omega
    have h2:=getD_in h1 h
    have:0<(List.range n).countP (fun i=>!listed.getD i true):=List.countP_pos_iff.2 ⟨i,List.mem_range.2 hi,by simp[h2]⟩
    omega
   ·rfl
  have hlist:listed=zas l.toArray n:=by
   apply Array.ext
   ·simp[zas,inv.size]
   ·intro i h1 h2
    simp only[zas,Array.getElem_ofFn]
    by_cases hi:i<n
    ·have:=hall i hi
     rw[decide_eq_true hi]
     simpa[h1] using this
    ·have:=inv.tail i (by omega) (by rw[<-inv.size];exact h1)
     rw[decide_eq_false hi]
     simpa[h1] using this
  rw[Nat.zero_add]
  have hds:(l.drop n).length=l.length-n:=by simp
  rw[<-hds]
  refine wpAny_of_seq (md:=.any) (l.drop n) n listed _ W (fun j=>by simp[List.getElem?_drop]) (by rw[hds,hlist];exact hseq) ?_
  rw[zaj (l.take n) vs vs (fun i=>listed.getD i false) (fun _=>true) 0 a (fun j _ hj=>⟨rfl,hall j (by omega)⟩)]
  exact hend vs W (by
   cases hu:listed.getD u false
   ·refine .inl ⟨?_,hw hu⟩
    rcases Nat.lt_or_ge u n with h|h
    ·rw[hall u h] at hu;cases hu
    ·exact h
   ·exact .inr (hw1 hu)) (fun k hk=>hv k hk (hall k hk)) (fun j k hj hk hjk=>hne j k hj hk hjk (hall j hj) (hall k hk))
 | succ f ih=>
  intro listed W hf inv vs hw hw1 hv hne
  obtain⟨i0,hi0,hu0⟩:=zaq (p:=fun i=>!listed.getD i true) (n:=n) (by omega)
  have hu0':listed.getD i0 true=false:=by simpa using hu0
  rw[show f+1+(l.length-n)=(f+(l.length-n))+1 by omega]
  -- what may come up, and what it yields
  have hstep:∀i,i∈Region.ready .any l.toArray listed->i<n->∀o,l.toArray[i]? =some o->∀v W',((i≠u∧Fr No W W')∨(i=u∧C1 W'∧S W W'))->Φ i v W'->(A i=true->W.heap.size≤bk v)->
    wpAny P .any l.toArray Q (f+(l.length-n)) (listed.setIfInBounds i true) ((zad (l.take n) vs (fun i=>listed.getD i false) 0 a).put o.dst v) W':=by
   intro i hi hin o ho v W' hf' hΦv hfresh
   obtain⟨hun,_⟩:=mem_ready.1 hi
   have hoff:listed.getD i false=false:=getD_both hun
   have hot:(l.take n)[i]? =some o:=by
    have:l[i]? =some o:=by simpa using ho
    rw[List.getElem?_take_of_lt hin];exact this
   have hsetL:(fun j=>(listed.setIfInBounds i true).getD j false)=updF (fun j=>listed.getD j false) i true:=by
    funext j
    unfold updF
    by_cases hj:j=i
    ·subst hj
     have:j<listed.size:=by rw[inv.size];simp;omega
     simp[this]
    ·rw[if_neg hj,getD_set_ne false (Ne.symm hj)]
   have:=ih (listed.setIfInBounds i true) W' (by
     have:=zao (p:=fun j=>!listed.getD j true) (p':=fun j=>!(listed.setIfInBounds i true).getD j true) (i:=i) (by simp[hun]) (by
      have:i<listed.size:=by rw[inv.size];simp;omega
      simp[this]) (fun j hj=>by
      show(!listed.getD j true)=!(listed.setIfInBounds i true).getD j true
      rw[getD_set_ne true (Ne.symm hj)]) n hin
     omega) (inv.set hi hin) (updF vs i v) (fun hl=>by
     rcases hf' with ⟨h1,h2⟩ | ⟨h1,h2,h3⟩
     ·rw[getD_set_ne false h1] at hl
      exact(hw hl).trans0 h2
     ·subst h1
      have h4:i<listed.size:=by rw[inv.size];simp;omega
      simp[h4] at hl) (fun hl=>by
     rcases hf' with ⟨h1,h2⟩ | ⟨h1,h2,h3⟩
     ·rw[getD_set_ne false h1] at hl
      exact hC1 _ _ (hw1 hl) h2
     ·exact h2) (fun k hk hl=>by
     by_cases hki:k=i
     ·subst hki;rw[show updF vs k v k=v by simp[updF]];exact hΦv
     ·rw[show updF vs i v k=vs k by simp only[updF];rw[if_neg hki]]
      rw[getD_set_ne false (Ne.symm hki)] at hl
      rcases hf' with ⟨h1,h2⟩ | ⟨h1,h2,h3⟩
      ·exact hΦ _ _ _ _ (hv k hk hl) h2
      ·subst h1;exact hS _ _ _ _ hki (hv k hk hl) h3) (fun j k hj hk hjk hlj hlk hAj hAk=>by
     by_cases hji:j=i
     ·subst hji
      rw[show updF vs j v j=v by simp[updF],show updF vs j v k=vs k by simp only[updF];rw[if_neg (Ne.symm hjk)]]
      rw[getD_set_ne false hjk] at hlk
      have h1:=hA k _ _ hAk (hv k hk hlk)
      have h2:=hfresh hAj
      omega
     ·rw[show updF vs i v j=vs j by simp only[updF];rw[if_neg hji]]
      rw[getD_set_ne false (Ne.symm hji)] at hlj
      by_cases hki:k=i
      ·subst hki
       rw[show updF vs k v k=v by simp[updF]]
       have h1:=hA j _ _ hAj (hv j hj hlj)
       have h2:=hfresh hAk
       omega
      ·rw[show updF vs i v k=vs k by simp only[updF];rw[if_neg hki]]
       rw[getD_set_ne false (Ne.symm hki)] at hlk
       exact hne j k hj hk hjk hlj hlk hAj hAk)
   rw[hsetL,zak (l.take n) vs _ 0 a i o v hdist (Nat.zero_le _) (by simpa using hot) hoff] at this
   exact this
  have hG:Fr No w W∨C1 W:=by
   cases hu:listed.getD u false
   ·exact .inl (hw hu)
   ·exact .inr (hw1 hu)
  have hobl:∀i,i∈Region.ready .any l.toArray listed->i<n->i≠u->∀o,l.toArray[i]? =some o->(E i=true->zaw P o (zad (l.take n) vs (fun i=>listed.getD i false) 0 a) (fun v=>Φ i v W∧A i=false))∧(E i=false->zab P o (zad (l.take n) vs (fun i=>listed.getD i false) 0 a) W (fun v W'=>Fr No W W'∧Φ i v W'∧(A i=true->W.heap.size≤bk v))):=by
   intro i hi hin hiu o ho
   obtain⟨_,o',ho',hdeps⟩:=mem_ready.1 hi
   have:o'=o:=Option.some.inj (ho'.symm.trans ho)
   subst this
   have hot:(l.take n)[i]? =some o':=by
    have:l[i]? =some o':=by simpa using ho
    rw[List.getElem?_take_of_lt hin];exact this
   exact hop i o' hiu hot _ W hG (fun t ht=>zal _ _ _ _ _ t ht) (fun e he hbd p d hp hd=>by
    have hlis:=hdeps e he hbd
    have hen:e.on<n:=by
     have:=(List.getElem?_eq_some_iff.1 hp).1
     omega
    rw[zan (l.take n) vs _ 0 a e.on p d hdist (Nat.zero_le _) (by simpa using hp) hlis hd (hsz p (List.mem_of_getElem? hp) d hd)]
    exact hv e.on hen hlis)
  have hoblu:u∈Region.ready .any l.toArray listed->u<n->∀o,l.toArray[u]? =some o->zlQ P o (zad (l.take n) vs (fun i=>listed.getD i false) 0 a) W N (fun v W'=>C1 W'∧S W W'∧Φ u v W'):=by
   intro hi hin o ho
   obtain⟨hun,o',ho',hdeps⟩:=mem_ready.1 hi
   have:o'=o:=Option.some.inj (ho'.symm.trans ho)
   subst this
   have hot:(l.take n)[u]? =some o':=by
    have:l[u]? =some o':=by simpa using ho
    rw[List.getElem?_take_of_lt hin];exact this
   exact hopu o' hot _ W (hw (getD_both hun)) (fun t ht=>zal _ _ _ _ _ t ht) (fun e he hbd p d hp hd=>by
    have hlis:=hdeps e he hbd
    have hen:e.on<n:=by
     have:=(List.getElem?_eq_some_iff.1 hp).1
     omega
    rw[zan (l.take n) vs _ 0 a e.on p d hdist (Nat.zero_le _) (by simpa using hp) hlis hd (hsz p (List.mem_of_getElem? hp) d hd)]
    exact hv e.on hen hlis)
  by_cases hE:∃i,i<n∧E i=true∧i∈Region.ready .any l.toArray listed
  ·obtain⟨i,hin,hEi,hi⟩:=hE
   obtain⟨hun,o,ho,hdeps⟩:=mem_ready.1 hi
   have hiu:i≠u:=fun h=>by subst h;rw[hE1] at hEi;cases hEi
   obtain⟨v,hrun,hΦv,hAi⟩:=(hobl i hi hin hiu o ho).1 hEi
   have hg:o.guard=none:=by
    have h1:=List.all_eq_true.1 hb i (List.mem_range.2 hin)
    rw[ho] at h1
    simp only[lz5] at h1
    exact Option.isNone_iff_eq_none.1 h1.1
   have hfree:=List.all_eq_true.1 hea i (List.mem_range.2 hin)
   rw[hEi,ho] at hfree
   simp only[Bool.not_true,Bool.false_or,lz5] at hfree
   refine wpAny_first (v:=v) ho (Region.noSelect_spec hsel) (fun c a' w' h=>hQ _ _ _ _ (put_defers _ _ _) h) _ listed _ W (fun j oj hj hji hunj hno=>?_) hi (.inl ⟨by unfold Region.wanted;rw[hg],hrun⟩) (hstep i hi hin o ho v W (.inl ⟨hiu,Fr.refl _ _⟩) hΦv (fun h=>by rw[hAi] at h;cases h))
   have hjs:j<l.toArray.size:=(Array.getElem?_eq_some_iff.1 hj).1
   have h2:=List.all_eq_true.1 hfree.2 j (List.mem_range.2 hjs)
   rw[hj] at h2
   simp only[Bool.or_eq_true,decide_eq_true_eq] at h2
   rcases h2 with (h2|h2)|h2|h2
   ·exact absurd h2 hji
   ·obtain⟨e,he,hbe⟩:=Array.any_eq_true'.1 h2
    simp only[lz5,beq_iff_eq] at hbe
    have h3:=hdeps e he hbe.1
    rw[hbe.2,getD_both hunj] at h3
    cases h3
   ·obtain⟨e,he,hbe⟩:=Array.any_eq_true'.1 h2
    simp only[lz5,beq_iff_eq] at hbe
    exact absurd hbe.2 (hno e he hbe.1)
   ·exact h2
  ·refine⟨fun h0=>?_,fun i hi=>?_⟩
   ·exfalso
    obtain⟨k,hk,hk1,hk2⟩:=least (p:=fun i=>!listed.getD i true) i0 hu0
    have hkn:k<n:=by omega
    have h1:=List.all_eq_true.1 hb k (List.mem_range.2 hkn)
    have hkl:k<l.toArray.size:=by simp;omega
    have hok:l.toArray[k]? =some l.toArray[k]:=Array.getElem?_eq_getElem hkl
    rw[hok] at h1
    simp only[lz5] at h1
    have:k∈Region.ready .any l.toArray listed:=mem_ready.2 ⟨by simpa using hk1,_,hok,fun e he hbd=>by
     have h2:=Array.all_eq_true_iff_forall_mem.1 h1.2 e he
     have h3:e.on<k:=by simpa[hbd] using h2
     have h4:=hk2 e.on h3
     have h5:listed.getD e.on true=true:=by simpa using h4
     have h6:e.on<listed.size:=by rw[inv.size];simp;omega
     simpa[h6] using h5⟩
    rw[h0] at this
    cases this
   ·have hin:i<n:=by
     rcases Nat.lt_or_ge i n with h|h
     ·exact h
     ·exfalso
      cases hEi:E i0
      ·exact absurd hi (zav hs hc (by simpa using hn) inv _ i0 rfl hi0 hEi hu0' i h)
      ·-- the eager one's own are there, so it may come up
       apply hE
       refine⟨i0,hi0,hEi,?_⟩
       have hkl:i0<l.toArray.size:=by simp;omega
       have hok:l.toArray[i0]? =some l.toArray[i0]:=Array.getElem?_eq_getElem hkl
       have h1:=List.all_eq_true.1 hb i0 (List.mem_range.2 hi0)
       have h2:=List.all_eq_true.1 hea i0 (List.mem_range.2 hi0)
       rw[hok] at h1
       rw[hEi,hok] at h2
       simp only[lz5] at h1
       simp only[Bool.not_true,Bool.false_or,lz5] at h2
       refine mem_ready.2 ⟨hu0',_,hok,fun e he hbd=>?_⟩
       have h3:=Array.all_eq_true_iff_forall_mem.1 h1.2 e he
       have h4:e.on<i0:=by simpa[hbd] using h3
       have h5:=Array.all_eq_true_iff_forall_mem.1 h2.1 e he
       have h6:E e.on=false:=by simpa[hbd] using h5
       cases h7:listed.getD e.on false
       ·have h8:e.on<listed.size:=by rw[inv.size];simp;omega
        exact absurd hi (zav hs hc (by simpa using hn) inv _ e.on rfl (by omega) h6 (getD_in h8 h7) i h)
       ·rfl
    obtain⟨hun,o,ho,hdeps⟩:=mem_ready.1 hi
    have hEi:E i=false:=by
     cases h:E i
     ·rfl
     ·exact absurd ⟨i,hin,h,hi⟩ hE
    have hg:o.guard=none:=by
     have h1:=List.all_eq_true.1 hb i (List.mem_range.2 hin)
     rw[ho] at h1
     simp only[lz5] at h1
     exact Option.isNone_iff_eq_none.1 h1.1
    unfold wpOp
    simp only[ho]
    rw[if_pos (by unfold Region.wanted;rw[hg])]
    by_cases hiu:i=u
    ·subst hiu
     have hgive:=hoblu hi hin o ho
     refine .inl (zlR hgive (fun c W' h=>hN c _ W' (zlS _ _ _ _ _) h) ?_)
     rintro v W' ⟨hc',hs',hΦv⟩
     exact hstep i hi hin o ho v W' (.inr ⟨rfl,hc',hs'⟩) hΦv (fun h=>by rw[hA1] at h;cases h)
    ·have hgive:=(hobl i hi hin hiu o ho).2 hEi
     refine .inl (zac hgive ?_)
     rintro v W' ⟨hf',hΦv,hfresh⟩
     exact hstep i hi hin o ho v W' (.inl ⟨hiu,hf'⟩) hΦv hfresh
theorem zlU {id:Nat} (n:Nat) (Φ:Nat->Value->World->Prop) (A E:Nat->Bool) (u:Nat) (N:List PanicEntry->World->Prop) (C1:World->Prop) (S:World->World->Prop) (hE1:E u=false) (hA1:A u=false) (hC1:∀W W',C1 W->Fr No W W'->C1 W') (hS:∀k v W W',k≠u->Φ k v W->S W W'->Φ k v W') (hA:∀k v W,A k=true->Φ k v W->bk v<W.heap.size) (hf:P.follows .mixedOrders=true) (hm:monB E l n=true) (hsz:∀o∈l.take n,∀d,o.dst=some d->d<a.tmps.size) (hΦ:∀k v W W',Φ k v W->Fr No W W'->Φ k v W')
  (hop:∀k o,k≠u->(l.take n)[k]? =some o->∀a' W,(Fr No w W∨C1 W)->(∀t,(∀p∈l.take n,p.dst≠some t)->a'.eval (.tmp t)=a.eval (.tmp t))->(∀e∈o.after,Region.binds .any e=true->∀p d,(l.take n)[e.on]? =some p->p.dst=some d->Φ e.on (a'.eval (.tmp d)) W)->
   (E k=true->zaw P o a' (fun v=>Φ k v W∧A k=false))∧(E k=false->zab P o a' W (fun v W'=>Fr No W W'∧Φ k v W'∧(A k=true->W.heap.size≤bk v))))
  (hopu:∀o,(l.take n)[u]? =some o->∀a' W,Fr No w W->(∀t,(∀p∈l.take n,p.dst≠some t)->a'.eval (.tmp t)=a.eval (.tmp t))->(∀e∈o.after,Region.binds .any e=true->∀p d,(l.take n)[e.on]? =some p->p.dst=some d->Φ e.on (a'.eval (.tmp d)) W)->
   zlQ P o a' W N (fun v W'=>C1 W'∧S W W'∧Φ u v W'))
  (T:Act->World->Prop)
  (hend:∀vs W,((n≤u∧Fr No w W)∨C1 W)->(∀k,k<n->Φ k (vs k) W)->(∀j k,j<n->k<n->j≠k->A j=true->A k=true->bk (vs j)≠bk (vs k))->wpList P l.toArray (fun e a' W'=>(e=.normal∧T a' W')∨∃c,e=.panic c∧a'.defers=a.defers∧N c W') (l.drop n) (zad (l.take n) vs (fun _=>true) 0 a) W)
  (hT:∀a' W,T a' W->Q .normal a' W) (hN:∀c a' W,a'.defers=a.defers->N c W->Q (.panic c) a' W):(Code.region id l.toArray true).wp P Q a w:=by
 have hm':=hm
 simp only[monB,lz5,decide_eq_true_eq] at hm'
 have hn:n<l.length:=hm'.1.1.1.1.1.1.2
 refine Code.wp_mono (Q:=fun e a' W'=>(e=.normal∧T a' W')∨∃c,e=.panic c∧a'.defers=a.defers∧N c W') (fun e a' W hh=>by
  rcases hh with ⟨he,hx⟩ | ⟨c,he,hd,hx⟩
  ·subst he;exact hT a' W hx
  ·subst he;exact hN c a' W hd hx) ?_
 refine wp_region_any hf ?_
 have hcount:(List.range n).countP (fun i=>!(Array.replicate l.toArray.size false).getD i true)=n:=by
  rw[List.countP_eq_length.2 (fun i hi=>by
   have:=List.mem_range.1 hi
   have:i<l.length:=by omega
   simp[this])]
  simp
 have h:=zlT (w:=w) A u C1 S hE1 hA1 hC1 hS hA hm hsz hΦ (fun c a' a'' w' hd h=>by
  rcases h with ⟨h,_⟩ | ⟨c',h,hd',h'⟩
  ·cases h
  ·cases h;exact .inr ⟨_,rfl,hd▸hd',h'⟩) (fun c a' W hd h=>.inr ⟨c,rfl,hd,h⟩) hop hopu hend n (Array.replicate l.toArray.size false) { w with drawn:=w.drawn+1 } hcount.symm
  ⟨by simp,fun j oj _ hl=>(by rw[getD_replicate_false] at hl;cases hl),fun t _ ht=>getD_in (by simpa using ht) (getD_replicate_false _ _)⟩ (fun _=>undef) (fun _=>(Fr.refl No w).drew) (fun hl=>by rw[getD_replicate_false] at hl;cases hl) (fun k _ hl=>by rw[getD_replicate_false] at hl;cases hl) (fun j k _ _ _ hl=>by rw[getD_replicate_false] at hl;cases hl)
 rw[zaj (l.take n) (fun _=>undef) (fun _=>undef) (fun i=>(Array.replicate l.toArray.size false).getD i false) (fun _=>false) 0 a (fun j _ _=>⟨rfl,getD_replicate_false _ _⟩)] at h
 have hnone:∀(l':List Oper) (k:Nat) (a:Act),zad l' (fun _=>undef) (fun _=>false) k a=a:=fun l'=>by
  induction l' with
  | nil=>intro k a;rfl
  | cons o rest ih=>intro k a;unfold zad;simpa using ih (k+1) a
 rw[hnone,show n+(l.length-n)=l.toArray.size by simp;omega] at h
 exact h
end
theorem zlV {P:Program} {l:List Oper} {Q:Exit->Act->World->Prop} {a:Act} {w:World} {id:Nat} (n:Nat) (L:List (Value->World->Prop)) (AL EL:List Bool) (u:Nat) (N:List PanicEntry->World->Prop) (C1:World->Prop) (S:World->World->Prop) (hA:∀p∈L.zip AL,p.2=true->∀v W,p.1 v W->bk v<W.heap.size)
  (hf:P.follows .mixedOrders=true) (hm:(monB (fun k=>EL.getD k false) l n&&decide (L.length=n)&&decide (AL.length=n)&&!EL.getD u false&&!AL.getD u false)=true) (hsz:∀o∈l.take n,∀d,o.dst=some d->d<a.tmps.size) (hL:∀φ∈L,MonP φ)
  (hC1:∀W W',C1 W->Fr No W W'->C1 W') (hS:∀k (hk:k<L.length),k≠u->∀v W W',L[k] v W->S W W'->L[k] v W')
  (hop:∀k o,k≠u->(l.take n)[k]? =some o->∀a' W,(Fr No w W∨C1 W)->(∀t,(∀p∈l.take n,p.dst≠some t)->a'.eval (.tmp t)=a.eval (.tmp t))->(∀e∈o.after,Region.binds .any e=true->∀p d,(l.take n)[e.on]? =some p->p.dst=some d->L.getD e.on (fun _ _=>True) (a'.eval (.tmp d)) W)->
   (EL.getD k false=true->zaw P o a' (fun v=>L.getD k (fun _ _=>True) v W∧AL.getD k false=false))∧(EL.getD k false=false->zab P o a' W (fun v W'=>Fr No W W'∧L.getD k (fun _ _=>True) v W'∧(AL.getD k false=true->W.heap.size≤bk v))))
  (hopu:∀o,(l.take n)[u]? =some o->∀a' W,Fr No w W->(∀t,(∀p∈l.take n,p.dst≠some t)->a'.eval (.tmp t)=a.eval (.tmp t))->(∀e∈o.after,Region.binds .any e=true->∀p d,(l.take n)[e.on]? =some p->p.dst=some d->L.getD e.on (fun _ _=>True) (a'.eval (.tmp d)) W)->
   zlQ P o a' W N (fun v W'=>C1 W'∧S W W'∧L.getD u (fun _ _=>True) v W'))
  (hN:∀c a' W,a'.defers=a.defers->N c W->Q (.panic c) a' W)
  (hend:∀vs W,((n≤u∧Fr No w W)∨C1 W)->(∀k,k<n->L.getD k (fun _ _=>True) (vs k) W)->(∀j k,j<n->k<n->j≠k->AL.getD j false=true->AL.getD k false=true->bk (vs j)≠bk (vs k))->wpList P l.toArray (fun e a' W'=>(e=.normal∧Q .normal a' W')∨∃c,e=.panic c∧a'.defers=a.defers∧N c W') (l.drop n) (zad (l.take n) vs (fun _=>true) 0 a) W):(Code.region id l.toArray true).wp P Q a w:=by
 simp only[lz5,decide_eq_true_eq,Bool.not_eq_true'] at hm
 obtain⟨⟨⟨⟨hm,hl1⟩,hl2⟩,hE1⟩,hA1⟩:=hm
 refine zlU n (fun k=>L.getD k (fun _ _=>True)) (fun k=>AL.getD k false) (fun k=>EL.getD k false) u N C1 S hE1 hA1 hC1 (fun k v W W' hku h hs=>?_) (fun k v W hk h=>?_) hf hm hsz (fun k v W W' h hf=>?_) hop hopu (fun a' W'=>Q .normal a' W') hend (fun _ _ h=>h) hN
 ·rcases Nat.lt_or_ge k L.length with h1|h1
  ·have e1:L.getD k (fun _ _=>True)=L[k]:=by simp[List.getD,lz8 h1]
   rw[e1] at h ⊢
   exact hS k h1 hku v W W' h hs
  ·have e1:L.getD k (fun _ _=>True)=fun _ _=>True:=by simp[List.getD,List.getElem?_eq_none h1]
   rw[e1];trivial
 ·have hk2:k<AL.length:=by
   rcases Nat.lt_or_ge k AL.length with h|h
   ·exact h
   ·simp[List.getD,List.getElem?_eq_none h] at hk
  have hk1:k<L.length:=by omega
  have e1:L.getD k (fun _ _=>True)=L[k]:=by simp[List.getD,lz8 hk1]
  have e2:AL.getD k false=AL[k]:=by simp[List.getD,lz8 hk2]
  rw[e1] at h
  rw[e2] at hk
  exact hA (L[k],AL[k]) (List.mem_iff_getElem.2 ⟨k,by simp;omega,by simp⟩) hk v W h
 ·rcases Nat.lt_or_ge k L.length with h1|h1
  ·have e1:L.getD k (fun _ _=>True)=L[k]:=by simp[List.getD,lz8 h1]
   rw[e1] at h ⊢
   exact hL _ (List.getElem_mem h1) v W W' h hf
  ·have e1:L.getD k (fun _ _=>True)=fun _ _=>True:=by simp[List.getD,List.getElem?_eq_none h1]
   rw[e1];trivial
theorem zlW {P:Program} {l:List Oper} {Q:Exit->Act->World->Prop} {a:Act} {w:World} {id:Nat} (n:Nat) (L:List (Value->World->Prop)) (AL EL:List Bool) (N:List PanicEntry->World->Prop) (hA:∀p∈L.zip AL,p.2=true->∀v W,p.1 v W->bk v<W.heap.size)
  (hf:P.follows .mixedOrders=true) (hm:(monB (fun k=>EL.getD k false) l n&&decide (L.length=n)&&decide (AL.length=n)&&!EL.getD n false&&!AL.getD n false)=true) (hsz:∀o∈l.take n,∀d,o.dst=some d->d<a.tmps.size) (hL:∀φ∈L,MonP φ)
  (hop:∀k o,(l.take n)[k]? =some o->∀a' W,Fr No w W->(∀t,(∀p∈l.take n,p.dst≠some t)->a'.eval (.tmp t)=a.eval (.tmp t))->(∀e∈o.after,Region.binds .any e=true->∀p d,(l.take n)[e.on]? =some p->p.dst=some d->L.getD e.on (fun _ _=>True) (a'.eval (.tmp d)) W)->
   (EL.getD k false=true->zaw P o a' (fun v=>L.getD k (fun _ _=>True) v W∧AL.getD k false=false))∧(EL.getD k false=false->zab P o a' W (fun v W'=>Fr No W W'∧L.getD k (fun _ _=>True) v W'∧(AL.getD k false=true->W.heap.size≤bk v))))
  (hN:∀c a' W,a'.defers=a.defers->N c W->Q (.panic c) a' W)
  (hend:∀vs W,Fr No w W->(∀k,k<n->L.getD k (fun _ _=>True) (vs k) W)->(∀j k,j<n->k<n->j≠k->AL.getD j false=true->AL.getD k false=true->bk (vs j)≠bk (vs k))->wpList P l.toArray (fun e a' W'=>(e=.normal∧Q .normal a' W')∨∃c,e=.panic c∧a'.defers=a.defers∧N c W') (l.drop n) (zad (l.take n) vs (fun _=>true) 0 a) W):(Code.region id l.toArray true).wp P Q a w:=
 zlV n L AL EL n N (fun _=>False) (fun _ _=>False) hA hf hm hsz hL (fun _ _ h=>h.elim) (fun _ _ _ _ _ _ _ h=>h.elim)
  (fun k o _ ho a' W hW=>hop k o ho a' W (hW.resolve_right (fun h=>h))) (fun o ho=>by
   have:=(List.getElem?_eq_some_iff.1 ho).1
   simp at this;omega) hN (fun vs W hW=>hend vs W ((hW.resolve_right (fun h=>h)).2))
end Go.Proofs.YthembcdcdnffeaaGreat
