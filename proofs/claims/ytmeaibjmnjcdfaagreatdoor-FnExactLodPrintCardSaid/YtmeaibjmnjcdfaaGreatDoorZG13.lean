/- A region that draws its order, told whole: each operation by its law; several of them may write, one behind the other; some may stand behind a guard. -/
import Derived.Test.YtmeaibjmnjcdfaaGreatDoorZG12
namespace Go.Proofs.YtmeaibjmnjcdfaaGreatDoor
open Go.RowKit
def yb:Value->Option Bool
 | .bool b=>some b
 | _=>none
def znm (ops:Array Oper):Bool:=(List.range ops.size).all fun k=>match ops[k]? with
 | some o=>o.after.all (fun e=>!Region.binds .any e || decide (e.on<k)) &&
   (match o.guard with|none=>true|some (g,_)=>o.after.any (fun e=>Region.binds .any e&&e.on == g)&&((ops[g]?).bind (·.dst)).isSome)
 | none=>false
theorem znn:∀(l:List Oper) (vs:Nat->Value) (on:Nat->Bool) (k:Nat) (a:Act),(zad l vs on k a).tmps.size=a.tmps.size
 | [],_,_,_,_=>rfl
 | o :: rest,vs,on,k,a=>by
  unfold zad
  rw[znn rest]
  cases on k
  ·rfl
  ·exact zam _ _ _
theorem zno {ops:Array Oper} {a:Act} {g d:Nat} {p:Oper} (hp:ops[g]? =some p) (hd:p.dst=some d) (hs:d<a.tmps.size):yielded ops a.tmps g=yb (a.eval (.tmp d)):=by
 unfold yielded
 rw[hp,Option.bind_some,hd,Option.bind_some,Array.getElem?_eq_getElem hs]
 have:a.eval (.tmp d)=a.tmps[d]:=by simp[Act.eval,hs]
 rw[this]
 cases a.tmps[d]<;>rfl
theorem znp (p q:Nat->Bool):∀n,(List.range n).countP (fun i=>p i&&q i)≤(List.range n).countP p:=fun n=>
 List.countP_mono_left fun i _ h=>by simp only[lz5] at h;exact h.1
section
variable {P:Program} {l:List Oper} {Q:Exit->Act->World->Prop} {a:Act} {w:World} {Φ:Nat->Value->World->Prop}
theorem znq (U G:Nat->Bool) (C:Nat->World->Prop) (S:World->World->Prop) (tot:Nat) (htot:(List.range l.length).countP U=tot)
  (hdist:zae l=true) (hdep:znm l.toArray=true) (hsz:∀o∈l,∀d,o.dst=some d->d<a.tmps.size)
  (hΦ:∀k v W W',Φ k v W->Fr No W W'->Φ k v W') (hS:∀k v W W',Φ k v W->S W W'->Φ k v W') (hC:∀j W W',C j W->Fr No W W'->C j W')
  (hG0:∀k o,l[k]? =some o->o.guard=none->G k=true) (hG:∀k o g b,l[k]? =some o->o.guard=some (g,b)->∀v W,Φ g v W->(yb v == some b)=G k)
  (hUG:∀k,U k=true->G k=true) (hun:∀k W,G k=false->Φ k undef W)
  (hop:∀k o,l[k]? =some o->U k=false->G k=true->∀a' W j,j≤tot->C j W->(∀t,(∀p∈l,p.dst≠some t)->a'.eval (.tmp t)=a.eval (.tmp t))->(∀e∈o.after,Region.binds .any e=true->∀p d,l[e.on]? =some p->p.dst=some d->Φ e.on (a'.eval (.tmp d)) W)->
   zab P o a' W (fun v W'=>Fr No W W'∧Φ k v W'))
  (hopu:∀k o,l[k]? =some o->U k=true->∀a' W j,j<tot->C j W->(∀t,(∀p∈l,p.dst≠some t)->a'.eval (.tmp t)=a.eval (.tmp t))->(∀e∈o.after,Region.binds .any e=true->∀p d,l[e.on]? =some p->p.dst=some d->Φ e.on (a'.eval (.tmp d)) W)->
   zab P o a' W (fun v W'=>C (j+1) W'∧S W W'∧Φ k v W'))
  (hend:∀vs W,C tot W->(∀k,k<l.length->Φ k (vs k) W)->Q .normal (zad l vs (fun _=>true) 0 a) W):
  ∀(f:Nat) (listed:Array Bool) (W:World),f=(List.range l.length).countP (fun i=>!listed.getD i true)->listed.size=l.length->∀vs,C ((List.range l.length).countP (fun i=>U i&&listed.getD i false)) W->(∀k,k<l.length->listed.getD k false=true->Φ k (vs k) W)->
   wpAny P .any l.toArray Q f listed (zad l vs (fun i=>listed.getD i false) 0 a) W:=by
 intro f
 induction f with
 | zero=>
  intro listed W hf hls vs hw hv
  have hall:∀i,i<l.length->listed.getD i false=true:=fun i hi=>by
   cases h:listed.getD i false
   ·have h2:=getD_in (by omega) h
    have:0<(List.range l.length).countP (fun i=>!listed.getD i true):=List.countP_pos_iff.2 ⟨i,List.mem_range.2 hi,by simp[h2]⟩
    omega
   ·rfl
  refine⟨?_,?_⟩
  ·cases hr:Region.ready .any l.toArray listed with
   | nil=>rfl
   | cons i r=>
    exfalso
    have hi:i∈Region.ready .any l.toArray listed:=by rw[hr];simp
    obtain⟨hun',o,ho,_⟩:=mem_ready.1 hi
    have hil:i<l.length:=by simpa using(Array.getElem?_eq_some_iff.1 ho).1
    have:=hall i hil
    rw[getD_both hun'] at this
    cases this
  ·rw[zaj l vs vs (fun i=>listed.getD i false) (fun _=>true) 0 a (fun j _ hj=>⟨rfl,hall j (by omega)⟩)]
   refine hend vs W ?_ (fun k hk=>hv k hk (hall k hk))
   have:(List.range l.length).countP (fun i=>U i&&listed.getD i false)=tot:=by
    rw[<-htot]
    exact List.countP_congr fun i hi=>by rw[hall i (List.mem_range.1 hi)];simp
   rwa [this] at hw
 | succ f ih=>
  intro listed W hf hls vs hw hv
  have hstep:∀i,i∈Region.ready .any l.toArray listed->∀o,l.toArray[i]? =some o->∀v W',C ((List.range l.length).countP (fun i=>U i&&listed.getD i false)+(if U i then 1 else 0)) W'->(∀k v,Φ k v W->Φ k v W')->Φ i v W'->
    wpAny P .any l.toArray Q f (listed.setIfInBounds i true) ((zad l vs (fun i=>listed.getD i false) 0 a).put o.dst v) W':=by
   intro i hi o ho v W' hC' hkeep hΦv
   obtain⟨hun',_⟩:=mem_ready.1 hi
   have hoff:listed.getD i false=false:=getD_both hun'
   have hot:l[i]? =some o:=by simpa using ho
   have hil:i<l.length:=(List.getElem?_eq_some_iff.1 hot).1
   have his:i<listed.size:=by omega
   have hsetL:(fun j=>(listed.setIfInBounds i true).getD j false)=updF (fun j=>listed.getD j false) i true:=by
    funext j
    unfold updF
    by_cases hj:j=i
    ·subst hj;simp[his]
    ·rw[if_neg hj,getD_set_ne false (Ne.symm hj)]
   have hcnt:(List.range l.length).countP (fun j=>U j&&(listed.setIfInBounds i true).getD j false)=(List.range l.length).countP (fun j=>U j&&listed.getD j false)+(if U i then 1 else 0):=by
    cases hU:U i
    ·simp only[Bool.false_eq_true,if_false,Nat.add_zero]
     refine List.countP_congr fun j _=>?_
     by_cases hj:j=i
     ·subst hj;rw[hU];simp
     ·rw[getD_set_ne false (Ne.symm hj)]
    ·rw[if_pos rfl]
     exact zao (p:=fun j=>U j&&(listed.setIfInBounds i true).getD j false) (p':=fun j=>U j&&listed.getD j false) (i:=i) (by simp[hU,his]) (by simp[hoff]) (fun j hj=>by
      show(U j&&(listed.setIfInBounds i true).getD j false)=(U j&&listed.getD j false)
      rw[getD_set_ne false (Ne.symm hj)]) l.length hil
   have:=ih (listed.setIfInBounds i true) W' (by
     have:=zao (p:=fun j=>!listed.getD j true) (p':=fun j=>!(listed.setIfInBounds i true).getD j true) (i:=i) (by simp[hun']) (by simp[his]) (fun j hj=>by
      show(!listed.getD j true)=!(listed.setIfInBounds i true).getD j true
      rw[getD_set_ne true (Ne.symm hj)]) l.length hil
     omega) (by simp[hls]) (updF vs i v) (by rw[hcnt];exact hC') (fun k hk hl=>by
     by_cases hki:k=i
     ·subst hki;rw[show updF vs k v k=v by simp[updF]];exact hΦv
     ·rw[show updF vs i v k=vs k by simp only[updF];rw[if_neg hki]]
      rw[getD_set_ne false (Ne.symm hki)] at hl
      exact hkeep _ _ (hv k hk hl))
   rw[hsetL,zak l vs _ 0 a i o v hdist (Nat.zero_le _) (by simpa using hot) hoff] at this
   exact this
  refine⟨fun h0=>?_,fun i hi=>?_⟩
  ·exfalso
   obtain⟨i0,hi0,hu0⟩:=zaq (p:=fun i=>!listed.getD i true) (n:=l.length) (by omega)
   obtain⟨k,hk,hk1,hk2⟩:=least (p:=fun i=>!listed.getD i true) i0 hu0
   have hkn:k<l.length:=by omega
   have h1:=List.all_eq_true.1 hdep k (List.mem_range.2 (by simpa using hkn))
   have hok:l.toArray[k]? =some l[k]:=by simp[hkn]
   rw[hok] at h1
   simp only[lz5] at h1
   have:k∈Region.ready .any l.toArray listed:=mem_ready.2 ⟨by simpa using hk1,_,hok,fun e he hbd=>by
    have h2:=Array.all_eq_true_iff_forall_mem.1 h1.1 e he
    have h3:e.on<k:=by simpa[hbd] using h2
    have h4:=hk2 e.on h3
    have h5:listed.getD e.on true=true:=by simpa using h4
    have h6:e.on<listed.size:=by omega
    simpa[h6] using h5⟩
   rw[h0] at this
   cases this
  ·obtain⟨hun',o,ho,hdeps⟩:=mem_ready.1 hi
   have hot:l[i]? =some o:=by simpa using ho
   have hil:i<l.length:=(List.getElem?_eq_some_iff.1 hot).1
   have hoff:listed.getD i false=false:=getD_both hun'
   have hdd:∀e∈o.after,Region.binds .any e=true->∀p d,l[e.on]? =some p->p.dst=some d->Φ e.on ((zad l vs (fun i=>listed.getD i false) 0 a).eval (.tmp d)) W:=fun e he hbd p d hp hd=>by
    have hlis:=hdeps e he hbd
    have hen:e.on<l.length:=(List.getElem?_eq_some_iff.1 hp).1
    rw[zan l vs _ 0 a e.on p d hdist (Nat.zero_le _) (by simpa using hp) hlis hd (hsz p (List.mem_of_getElem? hp) d hd)]
    exact hv e.on hen hlis
   have hwant:Region.wanted o (yielded l.toArray (zad l vs (fun i=>listed.getD i false) 0 a).tmps)=G i:=by
    unfold Region.wanted
    cases hg:o.guard with
    | none=>exact(hG0 i o hot hg).symm
    | some gb=>
     obtain⟨g,b⟩:=gb
     have h1:=List.all_eq_true.1 hdep i (List.mem_range.2 (by simpa using hil))
     rw[ho] at h1
     simp only[lz5,hg] at h1
     obtain⟨e,he,hbe⟩:=Array.any_eq_true'.1 h1.2.1
     simp only[lz5,beq_iff_eq] at hbe
     obtain⟨hb1,rfl⟩:=hbe
     obtain⟨d,hd0⟩:=Option.isSome_iff_exists.1 h1.2.2
     rw[Option.bind_eq_some_iff] at hd0
     obtain⟨p,hp,hd⟩:=hd0
     have hp':l[e.on]? =some p:=by simpa using hp
     show(yielded _ _ e.on == some b)=G i
     rw[zno hp hd (by rw[znn];exact hsz p (List.mem_of_getElem? hp') d hd)]
     exact hG i o e.on b hot hg _ W (hdd e he hb1 p d hp' hd)
   have hoffs:∀t,(∀p∈l,p.dst≠some t)->(zad l vs (fun i=>listed.getD i false) 0 a).eval (.tmp t)=a.eval (.tmp t):=fun t ht=>zal _ _ _ _ _ t ht
   unfold wpOp
   simp only[ho]
   rw[hwant]
   cases hGi:G i
   ·simp only[Bool.false_eq_true,if_false]
    have hU:U i=false:=by
     cases h:U i
     ·rfl
     ·have:=hUG i h;rw[hGi] at this;cases this
    exact hstep i hi o ho undef W (by rw[hU];exact hw) (fun _ _ h=>h) (hun i W hGi)
   ·rw[if_pos rfl]
    cases hU:U i
    ·refine .inl (zac (hop i o hot hU hGi _ W _ ?_ hw hoffs hdd) ?_)
     ·rw[<-htot];exact znp _ _ _
     ·rintro v W' ⟨hf',hΦv⟩
      exact hstep i hi o ho v W' (by rw[hU];exact hC _ _ _ hw hf') (fun k v h=>hΦ _ _ _ _ h hf') hΦv
    ·refine .inl (zac (hopu i o hot hU _ W _ ?_ hw hoffs hdd) ?_)
     ·have his:i<listed.size:=by omega
      have h1:=zao (p:=fun j=>U j&&(listed.setIfInBounds i true).getD j false) (p':=fun j=>U j&&listed.getD j false) (i:=i) (by simp[hU,his]) (by simp[hoff]) (fun j hj=>by
       show(U j&&(listed.setIfInBounds i true).getD j false)=(U j&&listed.getD j false)
       rw[getD_set_ne false (Ne.symm hj)]) l.length hil
      have h2:=znp U (fun j=>(listed.setIfInBounds i true).getD j false) l.length
      omega
     ·rintro v W' ⟨hC',hs',hΦv⟩
      exact hstep i hi o ho v W' (by rw[hU];exact hC') (fun k v h=>hS _ _ _ _ h hs') hΦv
end
theorem znr {P:Program} {l:List Oper} {Q:Exit->Act->World->Prop} {a:Act} {w:World} {id:Nat} (L:List (Value->World->Prop)) (UL GL:List Bool) (tot:Nat) (C:Nat->World->Prop) (S:World->World->Prop)
  (hf:P.follows .mixedOrders=true) (hm:(zae l&&znm l.toArray&&decide (L.length=l.length)&&decide ((List.range l.length).countP (fun k=>UL.getD k false)=tot))=true)
  (hsz:∀o∈l,∀d,o.dst=some d->d<a.tmps.size) (hL:∀φ∈L,MonP φ) (hS:∀φ∈L,∀v W W',φ v W->S W W'->φ v W') (hC:∀j W W',C j W->Fr No W W'->C j W')
  (hgd:∀k o,l[k]? =some o->(o.guard=none->GL.getD k true=true)∧∀g b,o.guard=some (g,b)->∀v W,L.getD g (fun _ _=>True) v W->(yb v == some b)=GL.getD k true)
  (hug:∀k,k<UL.length->UL.getD k false=true->GL.getD k true=true) (hun:∀k,k<GL.length->GL.getD k true=false->∀W,L.getD k (fun _ _=>True) undef W)
  (h0:C 0 w.drew)
  (hop:∀k o,l[k]? =some o->UL.getD k false=false->GL.getD k true=true->∀a' W j,j≤tot->C j W->(∀t,(∀p∈l,p.dst≠some t)->a'.eval (.tmp t)=a.eval (.tmp t))->(∀e∈o.after,Region.binds .any e=true->∀p d,l[e.on]? =some p->p.dst=some d->L.getD e.on (fun _ _=>True) (a'.eval (.tmp d)) W)->
   zab P o a' W (fun v W'=>Fr No W W'∧L.getD k (fun _ _=>True) v W'))
  (hopu:∀k o,l[k]? =some o->UL.getD k false=true->∀a' W j,j<tot->C j W->(∀t,(∀p∈l,p.dst≠some t)->a'.eval (.tmp t)=a.eval (.tmp t))->(∀e∈o.after,Region.binds .any e=true->∀p d,l[e.on]? =some p->p.dst=some d->L.getD e.on (fun _ _=>True) (a'.eval (.tmp d)) W)->
   zab P o a' W (fun v W'=>C (j+1) W'∧S W W'∧L.getD k (fun _ _=>True) v W'))
  (hend:∀vs W,C tot W->(∀k,k<l.length->L.getD k (fun _ _=>True) (vs k) W)->Q .normal (zad l vs (fun _=>true) 0 a) W):(Code.region id l.toArray true).wp P Q a w:=by
 simp only[lz5,decide_eq_true_eq] at hm
 obtain⟨⟨⟨hd,hdep⟩,hlen⟩,htot⟩:=hm
 refine wp_region_any hf ?_
 have hget:∀k,(∀φ∈L,∀v W,φ v W->φ v W)->(k<L.length∧L.getD k (fun _ _=>True)∈L)∨L.getD k (fun _ _=>True)=fun _ _=>True:=fun k _=>by
  rcases Nat.lt_or_ge k L.length with h1|h1
  ·exact .inl ⟨h1,by
    have e1:L.getD k (fun _ _=>True)=L[k]:=by simp[List.getD,lz8 h1]
    rw[e1];exact List.getElem_mem h1⟩
  ·exact .inr (by simp[List.getD,List.getElem?_eq_none h1])
 have h:=znq (P:=P) (l:=l) (Q:=Q) (a:=a) (Φ:=fun k=>L.getD k (fun _ _=>True)) (fun k=>UL.getD k false) (fun k=>GL.getD k true) C S tot htot hd hdep hsz
  (fun k v W W' h hf=>by
   rcases hget k (fun _ _ _ _ h=>h) with ⟨_,h1⟩|h1
   ·exact hL _ h1 v W W' h hf
   ·rw[h1];trivial)
  (fun k v W W' h hf=>by
   rcases hget k (fun _ _ _ _ h=>h) with ⟨_,h1⟩|h1
   ·exact hS _ h1 v W W' h hf
   ·rw[h1];trivial)
  hC (fun k o ho hg=>(hgd k o ho).1 hg) (fun k o g b ho hg=>(hgd k o ho).2 g b hg)
  (fun k hk=>by
   rcases Nat.lt_or_ge k UL.length with h1|h1
   ·exact hug k h1 hk
   ·simp[List.getD,List.getElem?_eq_none h1] at hk)
  (fun k W hk=>by
   rcases Nat.lt_or_ge k GL.length with h1|h1
   ·exact hun k h1 hk W
   ·simp[List.getD,List.getElem?_eq_none h1] at hk)
  hop hopu hend l.length (Array.replicate l.toArray.size false) { w with drawn:=w.drawn+1 }
  (by
   rw[List.countP_eq_length.2 (fun i hi=>by
    have:=List.mem_range.1 hi
    simp[this])]
   simp) (by simp) (fun _=>undef) (by
   have:(List.range l.length).countP (fun i=>UL.getD i false&&(Array.replicate l.toArray.size false).getD i false)=0:=List.countP_eq_zero.2 fun i _=>by rw[getD_replicate_false];simp
   rw[this];exact h0) (fun k _ hl=>by rw[getD_replicate_false] at hl;cases hl)
 rw[zaj l (fun _=>undef) (fun _=>undef) (fun i=>(Array.replicate l.toArray.size false).getD i false) (fun _=>false) 0 a (fun j _ _=>⟨rfl,getD_replicate_false _ _⟩)] at h
 have hnone:∀(l':List Oper) (k:Nat) (a:Act),zad l' (fun _=>undef) (fun _=>false) k a=a:=fun l'=>by
  induction l' with
  | nil=>intro k a;rfl
  | cons o rest ih=>intro k a;unfold zad;simpa using ih (k+1) a
 rw[hnone,show l.length=l.toArray.size by simp] at h
 simpa using h
end Go.Proofs.YtmeaibjmnjcdfaaGreatDoor
