/- A region that draws its order, told whole: each operation by its law; several of them may write, one behind the other; some may stand behind a guard. -/
import Derived.Test.YthembcdcdnffeaaGreatEG44
import Derived.Defers
import Derived.Recover
set_option maxHeartbeats 4000000
set_option maxRecDepth 100000
namespace Go.Proofs.YthembcdcdnffeaaGreat
open Go.RowKit
def yb:Value->Option Bool
 | .bool b=>some b
 | _=>none
def znm (ops:Array Oper):Bool:=(List.range ops.size).all fun k=>match ops[k]? with
 | some o=>o.after.all (fun e=>!Region.binds .any e || decide (e.on<k)) &&
   (match o.guard with|none=>true|some (g,_)=>o.after.any (fun e=>Region.binds .any e&&e.on == g)&&((ops[g]?).bind (·.dst)).isSome)
 | none=>false
theorem znn:∀(l:List Oper) (vs:Nat->Value) (on:Nat->Bool) (k:Nat) (a:Act),(zad l vs on k a).tmps.size=a.tmps.size
 | [],_,_,_,_=>rfl
 | o :: rest,vs,on,k,a=>by
  unfold zad
  rw[znn rest]
  cases on k
  ·rfl
  ·exact zam _ _ _
theorem zno {ops:Array Oper} {a:Act} {g d:Nat} {p:Oper} (hp:ops[g]? =some p) (hd:p.dst=some d) (hs:d<a.tmps.size):yielded ops a.tmps g=yb (a.eval (.tmp d)):=by
 unfold yielded
 rw[hp,Option.bind_some,hd,Option.bind_some,Array.getElem?_eq_getElem hs]
 have:a.eval (.tmp d)=a.tmps[d]:=by simp[Act.eval,hs]
 rw[this]
 cases a.tmps[d]<;>rfl
theorem znp (p q:Nat->Bool):∀n,(List.range n).countP (fun i=>p i&&q i)≤(List.range n).countP p:=fun n=>
 List.countP_mono_left fun i _ h=>by simp only[lz5] at h;exact h.1
section
variable {P:Program} {l:List Oper} {Q:Exit->Act->World->Prop} {a:Act} {w:World} {Φ:Nat->Value->World->Prop}
theorem znq (U G:Nat->Bool) (C:Nat->World->Prop) (S:World->World->Prop) (tot:Nat) (htot:(List.range l.length).countP U=tot)
  (hdist:zae l=true) (hdep:znm l.toArray=true) (hsz:∀o∈l,∀d,o.dst=some d->d<a.tmps.size)
  (hΦ:∀k v W W',Φ k v W->Fr No W W'->Φ k v W') (hS:∀k v W W',Φ k v W->S W W'->Φ k v W') (hC:∀j W W',C j W->Fr No W W'->C j W')
  (hG0:∀k o,l[k]? =some o->o.guard=none->G k=true) (hG:∀k o g b,l[k]? =some o->o.guard=some (g,b)->∀v W,Φ g v W->(yb v == some b)=G k)
  (hUG:∀k,U k=true->G k=true) (hun:∀k W,G k=false->Φ k undef W)
  (hop:∀k o,l[k]? =some o->U k=false->G k=true->∀a' W j,j≤tot->C j W->(∀t,(∀p∈l,p.dst≠some t)->a'.eval (.tmp t)=a.eval (.tmp t))->(∀e∈o.after,Region.binds .any e=true->∀p d,l[e.on]? =some p->p.dst=some d->Φ e.on (a'.eval (.tmp d)) W)->
   zab P o a' W (fun v W'=>Fr No W W'∧Φ k v W'))
  (hopu:∀k o,l[k]? =some o->U k=true->∀a' W j,j<tot->C j W->(∀t,(∀p∈l,p.dst≠some t)->a'.eval (.tmp t)=a.eval (.tmp t))->(∀e∈o.after,Region.binds .any e=true->∀p d,l[e.on]? =some p->p.dst=some d->Φ e.on (a'.eval (.tmp d)) W)->
   zab P o a' W (fun v W'=>C (j+1) W'∧S W W'∧Φ k v W'))
  (hend:∀vs W,C tot W->(∀k,k<l.length->Φ k (vs k) W)->Q .normal (zad l vs (fun _=>true) 0 a) W):
  ∀(f:Nat) (listed:Array Bool) (W:World),f=(List.range l.length).countP (fun i=>!listed.getD i true)->listed.size=l.length->∀vs,C ((List.range l.length).countP (fun i=>U i&&listed.getD i false)) W->(∀k,k<l.length->listed.getD k false=true->Φ k (vs k) W)->
   wpAny P .any l.toArray Q f listed (zad l vs (fun i=>listed.getD i false) 0 a) W:=by
 intro f
 induction f with
 | zero=>
  intro listed W hf hls vs hw hv
  have hall:∀i,i<l.length->listed.getD i false=true:=fun i hi=>by
   cases h:listed.getD i false
   ·have h2:=getD_in (by omega) h
    have:0<(List.range l.length).countP (fun i=>!listed.getD i true):=List.countP_pos_iff.2 ⟨i,List.mem_range.2 hi,by simp[h2]⟩
    omega
   ·rfl
  refine⟨?_,?_⟩
  ·cases hr:Region.ready .any l.toArray listed with
   | nil=>rfl
   | cons i r=>
    exfalso
    have hi:i∈Region.ready .any l.toArray listed:=by rw[hr];simp
    obtain⟨hun',o,ho,_⟩:=mem_ready.1 hi
    have hil:i<l.length:=by simpa using(Array.getElem?_eq_some_iff.1 ho).1
    have:=hall i hil
    rw[getD_both hun'] at this
    cases this
  ·rw[zaj l vs vs (fun i=>listed.getD i false) (fun _=>true) 0 a (fun j _ hj=>⟨rfl,hall j (by omega)⟩)]
   refine hend vs W ?_ (fun k hk=>hv k hk (hall k hk))
   have:(List.range l.length).countP (fun i=>U i&&listed.getD i false)=tot:=by
    rw[<-htot]
    exact List.countP_congr fun i hi=>by rw[hall i (List.mem_range.1 hi)];simp
   rwa [this] at hw
 | succ f ih=>
  intro listed W hf hls vs hw hv
  have hstep:∀i,i∈Region.ready .any l.toArray listed->∀o,l.toArray[i]? =some o->∀v W',C ((List.range l.length).countP (fun i=>U i&&listed.getD i false)+(if U i then 1 else 0)) W'->(∀k v,Φ k v W->Φ k v W')->Φ i v W'->
    wpAny P .any l.toArray Q f (listed.setIfInBounds i true) ((zad l vs (fun i=>listed.getD i false) 0 a).put o.dst v) W':=by
   intro i hi o ho v W' hC' hkeep hΦv
   obtain⟨hun',_⟩:=mem_ready.1 hi
   have hoff:listed.getD i false=false:=getD_both hun'
   have hot:l[i]? =some o:=by simpa using ho
   have hil:i<l.length:=(List.getElem?_eq_some_iff.1 hot).1
   have his:i<listed.size:=by omega
   have hsetL:(fun j=>(listed.setIfInBounds i true).getD j false)=updF (fun j=>listed.getD j false) i true:=by
    funext j
    unfold updF
    by_cases hj:j=i
    ·subst hj;simp[his]
    ·rw[if_neg hj,getD_set_ne false (Ne.symm hj)]
   have hcnt:(List.range l.length).countP (fun j=>U j&&(listed.setIfInBounds i true).getD j false)=(List.range l.length).countP (fun j=>U j&&listed.getD j false)+(if U i then 1 else 0):=by
    cases hU:U i
    ·simp only[Bool.false_eq_true,if_false,Nat.add_zero]
     refine List.countP_congr fun j _=>?_
     by_cases hj:j=i
     ·subst hj;rw[hU];simp
     ·rw[getD_set_ne false (Ne.symm hj)]
    ·rw[if_pos rfl]
     exact zao (p:=fun j=>U j&&(listed.setIfInBounds i true).getD j false) (p':=fun j=>U j&&listed.getD j false) (i:=i) (by simp[hU,his]) (by simp[hoff]) (fun j hj=>by
      show(U j&&(listed.setIfInBounds i true).getD j false)=(U j&&listed.getD j false)
      rw[getD_set_ne false (Ne.symm hj)]) l.length hil
   have:=ih (listed.setIfInBounds i true) W' (by
     have:=zao (p:=fun j=>!listed.getD j true) (p':=fun j=>!(listed.setIfInBounds i true).getD j true) (i:=i) (by simp[hun']) (by simp[his]) (fun j hj=>by
      show(!listed.getD j true)=!(listed.setIfInBounds i true).getD j true
      rw[getD_set_ne true (Ne.symm hj)]) l.length hil
     omega) (by simp[hls]) (updF vs i v) (by rw[hcnt];exact hC') (fun k hk hl=>by
     by_cases hki:k=i
     ·subst hki;rw[show updF vs k v k=v by simp[updF]];exact hΦv
     ·rw[show updF vs i v k=vs k by simp only[updF];rw[if_neg hki]]
      rw[getD_set_ne false (Ne.symm hki)] at hl
      exact hkeep _ _ (hv k hk hl))
   rw[hsetL,zak l vs _ 0 a i o v hdist (Nat.zero_le _) (by simpa using hot) hoff] at this
   exact this
  refine⟨fun h0=>?_,fun i hi=>?_⟩
  ·exfalso
   obtain⟨i0,hi0,hu0⟩:=zaq (p:=fun i=>!listed.getD i true) (n:=l.length) (by omega)
   obtain⟨k,hk,hk1,hk2⟩:=least (p:=fun i=>!listed.getD i true) i0 hu0
   have hkn:k<l.length:=by omega
   have h1:=List.all_eq_true.1 hdep k (List.mem_range.2 (by simpa using hkn))
   have hok:l.toArray[k]? =some l[k]:=by simp[hkn]
   rw[hok] at h1
   simp only[lz5] at h1
   have:k∈Region.ready .any l.toArray listed:=mem_ready.2 ⟨by simpa using hk1,_,hok,fun e he hbd=>by
    have h2:=Array.all_eq_true_iff_forall_mem.1 h1.1 e he
    have h3:e.on<k:=by simpa[hbd] using h2
    have h4:=hk2 e.on h3
    have h5:listed.getD e.on true=true:=by simpa using h4
    have h6:e.on<listed.size:=by omega
    simpa[h6] using h5⟩
   rw[h0] at this
   cases this
  ·obtain⟨hun',o,ho,hdeps⟩:=mem_ready.1 hi
   have hot:l[i]? =some o:=by simpa using ho
   have hil:i<l.length:=(List.getElem?_eq_some_iff.1 hot).1
   have hoff:listed.getD i false=false:=getD_both hun'
   have hdd:∀e∈o.after,Region.binds .any e=true->∀p d,l[e.on]? =some p->p.dst=some d->Φ e.on ((zad l vs (fun i=>listed.getD i false) 0 a).eval (.tmp d)) W:=fun e he hbd p d hp hd=>by
    have hlis:=hdeps e he hbd
    have hen:e.on<l.length:=(List.getElem?_eq_some_iff.1 hp).1
    rw[zan l vs _ 0 a e.on p d hdist (Nat.zero_le _) (by simpa using hp) hlis hd (hsz p (List.mem_of_getElem? hp) d hd)]
    exact hv e.on hen hlis
   have hwant:Region.wanted o (yielded l.toArray (zad l vs (fun i=>listed.getD i false) 0 a).tmps)=G i:=by
    unfold Region.wanted
    cases hg:o.guard with
    | none=>exact(hG0 i o hot hg).symm
    | some gb=>
     obtain⟨g,b⟩:=gb
     have h1:=List.all_eq_true.1 hdep i (List.mem_range.2 (by simpa using hil))
     rw[ho] at h1
     simp only[lz5,hg] at h1
     obtain⟨e,he,hbe⟩:=Array.any_eq_true'.1 h1.2.1
     simp only[lz5,beq_iff_eq] at hbe
     obtain⟨hb1,rfl⟩:=hbe
     obtain⟨d,hd0⟩:=Option.isSome_iff_exists.1 h1.2.2
     rw[Option.bind_eq_some_iff] at hd0
     obtain⟨p,hp,hd⟩:=hd0
     have hp':l[e.on]? =some p:=by simpa using hp
     show(yielded _ _ e.on == some b)=G i
     rw[zno hp hd (by rw[znn];exact hsz p (List.mem_of_getElem? hp') d hd)]
     exact hG i o e.on b hot hg _ W (hdd e he hb1 p d hp' hd)
   have hoffs:∀t,(∀p∈l,p.dst≠some t)->(zad l vs (fun i=>listed.getD i false) 0 a).eval (.tmp t)=a.eval (.tmp t):=fun t ht=>zal _ _ _ _ _ t ht
   unfold wpOp
   simp only[ho]
   rw[hwant]
   cases hGi:G i
   ·simp only[Bool.false_eq_true,if_false]
    have hU:U i=false:=by
     cases h:U i
     ·rfl
     ·have:=hUG i h;rw[hGi] at this;cases this
    exact hstep i hi o ho undef W (by rw[hU];exact hw) (fun _ _ h=>h) (hun i W hGi)
   ·rw[if_pos rfl]
    cases hU:U i
    ·refine .inl (zac (hop i o hot hU hGi _ W _ ?_ hw hoffs hdd) ?_)
     ·rw[<-htot];exact znp _ _ _
     ·rintro v W' ⟨hf',hΦv⟩
      exact hstep i hi o ho v W' (by rw[hU];exact hC _ _ _ hw hf') (fun k v h=>hΦ _ _ _ _ h hf') hΦv
    ·refine .inl (zac (hopu i o hot hU _ W _ ?_ hw hoffs hdd) ?_)
     ·have his:i<listed.size:=by omega
      have h1:=zao (p:=fun j=>U j&&(listed.setIfInBounds i true).getD j false) (p':=fun j=>U j&&listed.getD j false) (i:=i) (by simp[hU,his]) (by simp[hoff]) (fun j hj=>by
       show(U j&&(listed.setIfInBounds i true).getD j false)=(U j&&listed.getD j false)
       rw[getD_set_ne false (Ne.symm hj)]) l.length hil
      have h2:=znp U (fun j=>(listed.setIfInBounds i true).getD j false) l.length
      omega
     ·rintro v W' ⟨hC',hs',hΦv⟩
      exact hstep i hi o ho v W' (by rw[hU];exact hC') (fun k v h=>hS _ _ _ _ h hs') hΦv
end
theorem znr {P:Program} {l:List Oper} {Q:Exit->Act->World->Prop} {a:Act} {w:World} {id:Nat} (L:List (Value->World->Prop)) (UL GL:List Bool) (tot:Nat) (C:Nat->World->Prop) (S:World->World->Prop)
  (hf:P.follows .mixedOrders=true) (hm:(zae l&&znm l.toArray&&decide (L.length=l.length)&&decide ((List.range l.length).countP (fun k=>UL.getD k false)=tot))=true)
  (hsz:∀o∈l,∀d,o.dst=some d->d<a.tmps.size) (hL:∀φ∈L,MonP φ) (hS:∀φ∈L,∀v W W',φ v W->S W W'->φ v W') (hC:∀j W W',C j W->Fr No W W'->C j W')
  (hgd:∀k o,l[k]? =some o->(o.guard=none->GL.getD k true=true)∧∀g b,o.guard=some (g,b)->∀v W,L.getD g (fun _ _=>True) v W->(yb v == some b)=GL.getD k true)
  (hug:∀k,k<UL.length->UL.getD k false=true->GL.getD k true=true) (hun:∀k,k<GL.length->GL.getD k true=false->∀W,L.getD k (fun _ _=>True) undef W)
  (h0:C 0 w.drew)
  (hop:∀k o,l[k]? =some o->UL.getD k false=false->GL.getD k true=true->∀a' W j,j≤tot->C j W->(∀t,(∀p∈l,p.dst≠some t)->a'.eval (.tmp t)=a.eval (.tmp t))->(∀e∈o.after,Region.binds .any e=true->∀p d,l[e.on]? =some p->p.dst=some d->L.getD e.on (fun _ _=>True) (a'.eval (.tmp d)) W)->
   zab P o a' W (fun v W'=>Fr No W W'∧L.getD k (fun _ _=>True) v W'))
  (hopu:∀k o,l[k]? =some o->UL.getD k false=true->∀a' W j,j<tot->C j W->(∀t,(∀p∈l,p.dst≠some t)->a'.eval (.tmp t)=a.eval (.tmp t))->(∀e∈o.after,Region.binds .any e=true->∀p d,l[e.on]? =some p->p.dst=some d->L.getD e.on (fun _ _=>True) (a'.eval (.tmp d)) W)->
   zab P o a' W (fun v W'=>C (j+1) W'∧S W W'∧L.getD k (fun _ _=>True) v W'))
  (hend:∀vs W,C tot W->(∀k,k<l.length->L.getD k (fun _ _=>True) (vs k) W)->Q .normal (zad l vs (fun _=>true) 0 a) W):(Code.region id l.toArray true).wp P Q a w:=by
 simp only[lz5,decide_eq_true_eq] at hm
 obtain⟨⟨⟨hd,hdep⟩,hlen⟩,htot⟩:=hm
 refine wp_region_any hf ?_
 have hget:∀k,(∀φ∈L,∀v W,φ v W->φ v W)->(k<L.length∧L.getD k (fun _ _=>True)∈L)∨L.getD k (fun _ _=>True)=fun _ _=>True:=fun k _=>by
  rcases Nat.lt_or_ge k L.length with h1|h1
  ·exact .inl ⟨h1,by
    have e1:L.getD k (fun _ _=>True)=L[k]:=by simp[List.getD,lz8 h1]
    rw[e1];exact List.getElem_mem h1⟩
  ·exact .inr (by simp[List.getD,List.getElem?_eq_none h1])
 have h:=znq (P:=P) (l:=l) (Q:=Q) (a:=a) (Φ:=fun k=>L.getD k (fun _ _=>True)) (fun k=>UL.getD k false) (fun k=>GL.getD k true) C S tot htot hd hdep hsz
  (fun k v W W' h hf=>by
   rcases hget k (fun _ _ _ _ h=>h) with ⟨_,h1⟩|h1
   ·exact hL _ h1 v W W' h hf
   ·rw[h1];trivial)
  (fun k v W W' h hf=>by
   rcases hget k (fun _ _ _ _ h=>h) with ⟨_,h1⟩|h1
   ·exact hS _ h1 v W W' h hf
   ·rw[h1];trivial)
  hC (fun k o ho hg=>(hgd k o ho).1 hg) (fun k o g b ho hg=>(hgd k o ho).2 g b hg)
  (fun k hk=>by
   rcases Nat.lt_or_ge k UL.length with h1|h1
   ·exact hug k h1 hk
   ·simp[List.getD,List.getElem?_eq_none h1] at hk)
  (fun k W hk=>by
   rcases Nat.lt_or_ge k GL.length with h1|h1
   ·exact hun k h1 hk W
   ·simp[List.getD,List.getElem?_eq_none h1] at hk)
  hop hopu hend l.length (Array.replicate l.toArray.size false) { w with drawn:=w.drawn+1 }
  (by
   rw[List.countP_eq_length.2 (fun i hi=>by
    have:=List.mem_range.1 hi
    simp[this])]
   simp) (by simp) (fun _=>undef) (by
   have:(List.range l.length).countP (fun i=>UL.getD i false&&(Array.replicate l.toArray.size false).getD i false)=0:=List.countP_eq_zero.2 fun i _=>by rw[getD_replicate_false];simp
   rw[this];exact h0) (fun k _ hl=>by rw[getD_replicate_false] at hl;cases hl)
 rw[zaj l (fun _=>undef) (fun _=>undef) (fun i=>(Array.replicate l.toArray.size false).getD i false) (fun _=>false) 0 a (fun j _ _=>⟨rfl,getD_replicate_false _ _⟩)] at h
 have hnone:∀(l':List Oper) (k:Nat) (a:Act),zad l' (fun _=>undef) (fun _=>false) k a=a:=fun l'=>by
  induction l' with
  | nil=>intro k a;rfl
  | cons o rest ih=>intro k a;unfold zad;simpa using ih (k+1) a
 rw[hnone,show l.length=l.toArray.size by simp] at h
 simpa using h
structure AR where
 p:Value->World->Prop
 u:Bool
 g:Bool
 v:Option Value
 mono:MonP p
 val:∀x,v=some x->p=isV x
 no:g=false->u=false∧p=isV undef
def aV (x:Value):AR:=⟨isV x,false,true,some x,zaz x,fun _ h=>by cases h;rfl,nofun⟩
def aC (p:Value->World->Prop) (h:MonP p):AR:=⟨p,false,true,none,h,nofun,nofun⟩
def aX (x:Value):AR:=⟨isV x,true,true,some x,zaz x,fun _ h=>by cases h;rfl,nofun⟩
def aW (p:Value->World->Prop) (h:MonP p):AR:=⟨p,true,true,none,h,nofun,nofun⟩
def aN:AR:=⟨isV undef,false,false,some undef,zaz undef,fun _ h=>by cases h;rfl,fun _=>⟨rfl,rfl⟩⟩
def AR.post (C:Nat->World->Prop) (S:World->World->Prop) (j:Nat) (r:AR) (W:World) (v:Value) (W':World):Prop:=if r.u=true then C (j+1) W'∧S W W'∧r.p v W' else Fr No W W'∧r.p v W'
section
variable {C:Nat->World->Prop} {S:World->World->Prop} {j:Nat} {W W':World} {v x:Value} {p:Value->World->Prop} {h:MonP p}
@[simp] theorem zpz:(aV x).post C S j W v W'=(Fr No W W'∧isV x v W'):=rfl
@[simp] theorem zpA:(aC p h).post C S j W v W'=(Fr No W W'∧p v W'):=rfl
@[simp] theorem zpB:(aX x).post C S j W v W'=(C (j+1) W'∧S W W'∧isV x v W'):=rfl
@[simp] theorem zpC:(aW p h).post C S j W v W'=(C (j+1) W'∧S W W'∧p v W'):=rfl
end
def zpD:List Oper->List AR->(Nat->Value)->Nat->Act->Act
 | o :: l,r :: R,vs,k,a=>zpD l R vs (k+1) (a.put o.dst (r.v.getD (vs k)))
 | [],_,_,_,a=>a
 | _ :: _,[],_,_,a=>a
section
variable {o:Oper} {l:List Oper} {R:List AR} {vs:Nat->Value} {k:Nat} {a:Act}
theorem zpE (x:Value):zpD (o :: l) (aV x :: R) vs k a=zpD l R vs (k+1) (a.put o.dst x):=rfl
theorem zpF (x:Value):zpD (o :: l) (aX x :: R) vs k a=zpD l R vs (k+1) (a.put o.dst x):=rfl
theorem zpG:zpD (o :: l) (aN :: R) vs k a=zpD l R vs (k+1) (a.put o.dst undef):=rfl
theorem zpH (p:Value->World->Prop) (h:MonP p):zpD (o :: l) (aC p h :: R) vs k a=zpD l R vs (k+1) (a.put o.dst (vs k)):=rfl
theorem zpI (p:Value->World->Prop) (h:MonP p):zpD (o :: l) (aW p h :: R) vs k a=zpD l R vs (k+1) (a.put o.dst (vs k)):=rfl
theorem zpJ:zpD l [] vs k a=a:=by cases l<;>rfl
end
theorem zpK:∀(l:List Oper) (R:List AR) (vs:Nat->Value) (W:World) (k:Nat) (a:Act),l.length=R.length->(∀j,j<R.length->(R.map AR.p).getD j (fun _ _=>True) (vs (k+j)) W)->
  zad l vs (fun _=>true) k a=zpD l R vs k a
 | [],R,_,_,_,_,_,_=>by cases R<;>rfl
 | o :: l,[],_,_,_,_,hl,_=>by simp at hl
 | o :: l,r :: R,vs,W,k,a,hl,h=>by
  have ih:=zpK l R vs W (k+1) (a.put o.dst (vs k)) (by simpa using hl) (fun j hj=>by
   have:=h (j+1) (by simpa using hj)
   rw[show k+(j+1)=k+1+j by omega] at this
   simpa using this)
  have e:r.v.getD (vs k)=vs k:=by
   cases hv:r.v with
   | none=>rfl
   | some u=>
    have h0:=h 0 (by simp)
    simp only[List.map_cons,List.getD_cons_zero,Nat.add_zero,r.val u hv] at h0
    exact h0.symm
  show zad (o :: l) vs (fun _=>true) k a=zpD l R vs (k+1) (a.put o.dst (r.v.getD (vs k)))
  rw[e]
  exact ih
def HopA (K:Oper->AR->Prop):List Oper->List AR->Prop
 | o :: l,r :: R=>K o r∧HopA K l R
 | [],_=>True
 | _ :: _,[]=>True
theorem hopA {K:Oper->AR->Prop} {o:Oper} {r:AR} {l:List Oper} {R:List AR} (h:K o r) (t:HopA K l R):HopA K (o :: l) (r :: R):=⟨h,t⟩
theorem zpL {K:Oper->AR->Prop} {l:List Oper}:HopA K l []:=by cases l<;>trivial
theorem HopA.at {K:Oper->AR->Prop}:∀{l:List Oper} {R:List AR},HopA K l R->∀(k:Nat) (o:Oper) (r:AR),l[k]? =some o->R[k]? =some r->K o r
 | [],_,_,_,_,_,h,_=>by simp at h
 | _ :: _,[],_,_,_,_,_,h=>by simp at h
 | o :: l,r :: R,h,0,o',r',h1,h2=>by
  rw[lz3] at h1 h2
  have e1:=Option.some.inj h1
  have e2:=Option.some.inj h2
  subst e1
  subst e2
  exact h.1
 | o :: l,r :: R,h,k+1,o',r',h1,h2=>HopA.at (l:=l) (R:=R) h.2 k o' r' (by simpa using h1) (by simpa using h2)
theorem hSA {v:Value} {W W':World} {o:Oper} {l:List Oper} {r:AR} {R:List AR} (hr:r.v.isSome=true) (t:HopA (fun _ r=>r.v=none->r.p v W->r.p v W') l R):HopA (fun _ r=>r.v=none->r.p v W->r.p v W') (o :: l) (r :: R):=⟨fun h=>(by rw[h] at hr;cases hr),t⟩
def grdA (l:List Oper) (R:List AR):Bool:=(l.zip R).all fun x=>match x.1.guard with
 | none=>x.2.g
 | some (i,b)=>match (R[i]?).bind AR.v with|some y=>(yb y == some b) == x.2.g|none=>false
def zpM (P:Program) (l:List Oper) (R:List AR) (a:Act) (C:Nat->World->Prop) (S:World->World->Prop) (tot:Nat) (o:Oper) (r:AR):Prop:=
 r.g=true->∀(a':Act) (W:World) (j:Nat),(if r.u=true then j<tot else j≤tot)->C j W->(∀t,offB l t=true->a'.tmps.getD t undef=a.tmps.getD t undef)->(∀i t,depB l o i t=true->(R.map AR.p).getD i (fun _ _=>True) (a'.tmps.getD t undef) W)->
  zaa P (r.post C S j W) ((execOp a'.eval o).run P W)
theorem aNo {P:Program} {l:List Oper} {R:List AR} {a:Act} {C:Nat->World->Prop} {S:World->World->Prop} {tot:Nat} {o:Oper}:zpM P l R a C S tot o aN:=fun h=>by cases h
theorem zpN {P:Program} {l:List Oper} {Q:Exit->Act->World->Prop} {a:Act} {w:World} {id:Nat} (tot M:Nat) (R:List AR) (C:Nat->World->Prop) (S:World->World->Prop) (hf:P.follows .mixedOrders=true)
  (hm:(zae l&&znm l.toArray&&decide (R.length=l.length)&&decide ((List.range l.length).countP (fun k=>(R.map AR.u).getD k false)=tot)&&znV l M&&grdA l R)=true) (hM:M≤a.tmps.size)
  (hC:∀j W W',C j W->Fr No W W'->C j W') (h0:C 0 w.drew) (hS:∀v W W',S W W'->HopA (fun _ r=>r.v=none->r.p v W->r.p v W') l R)
  (hop:HopA (zpM P l R a C S tot) l R)
  (hend:∀vs W,C tot W->(∀k,k<l.length->(R.map AR.p).getD k (fun _ _=>True) (vs k) W)->Q .normal (zpD l R vs 0 a) W):(Code.region id l.toArray true).wp P Q a w:=by
 simp only[lz5,decide_eq_true_eq] at hm
 obtain⟨⟨⟨⟨⟨h1,h2⟩,hl⟩,ht⟩,hd⟩,hg⟩:=hm
 have row:∀{k:Nat} {o:Oper},l[k]? =some o->∃r,R[k]? =some r∧(R.map AR.p).getD k (fun _ _=>True)=r.p∧(R.map AR.u).getD k false=r.u∧(R.map AR.g).getD k true=r.g:=fun {k o} ho=>by
  have hk:k<R.length:=by rw[hl];exact(List.getElem?_eq_some_iff.1 ho).1
  exact⟨R[k],lz8 hk,by simp[List.getD,lz8 hk],by simp[List.getD,lz8 hk],by simp[List.getD,lz8 hk]⟩
 have grow:∀k,k<R.length->∃o r,l[k]? =some o∧R[k]? =some r∧(R.map AR.p).getD k (fun _ _=>True)=r.p∧(R.map AR.u).getD k false=r.u∧(R.map AR.g).getD k true=r.g:=fun k hk=>by
  obtain⟨r,h⟩:=row (lz8 (show k<l.length by omega))
  exact⟨_,r,lz8 (show k<l.length by omega),h⟩
 have hop':∀(k:Nat) (o:Oper) (r:AR),l[k]? =some o->R[k]? =some r->r.g=true->∀(a':Act) (W:World) (j:Nat),(if r.u=true then j<tot else j≤tot)->C j W->(∀t,(∀p∈l,p.dst≠some t)->a'.eval (.tmp t)=a.eval (.tmp t))->(∀e∈o.after,Region.binds .any e=true->∀p d,l[e.on]? =some p->p.dst=some d->(R.map AR.p).getD e.on (fun _ _=>True) (a'.eval (.tmp d)) W)->zab P o a' W (r.post C S j W):=fun k o r ho hr hrg a' W j hj hW hoff hdep=>by
  exact hop.at k o r ho hr hrg a' W j hj hW (fun t ht=>hoff t fun p hp=>by
   have:=List.all_eq_true.1 ht p hp
   simpa using this) (fun i t hd=>by
   obtain⟨e,he,h2,p,hp,h4,rfl⟩:=znU hd
   exact hdep e he h2 p t hp h4)
 refine znr (R.map AR.p) (R.map AR.u) (R.map AR.g) tot C S hf (by rw[h1,h2,List.length_map,hl,ht];simp) (znW hd hM) (fun φ h=>by obtain⟨r,_,rfl⟩:=List.mem_map.1 h;exact r.mono) (fun φ h v W W' hv hs=>?_) hC (fun k o ho=>?_) (fun k hk hu=>?_) (fun k hk hg' W=>?_) h0 (fun k o ho hu hg' a' W j hj hW hoff hdep=>?_) (fun k o ho hu a' W j hj hW hoff hdep=>?_) (fun vs W hW hv=>?_)
 ·obtain⟨r,hr,rfl⟩:=List.mem_map.1 h
  obtain⟨k,hk,rfl⟩:=List.getElem_of_mem hr
  obtain⟨o,r',ho,hr',_⟩:=grow k hk
  cases hrv:R[k].v with
  | some x=>rw[R[k].val x hrv] at hv ⊢;exact hv
  | none=>exact(hS v W W' hs).at k o R[k] ho (lz8 hk) hrv hv
 ·obtain⟨r,hr,_,_,e3⟩:=row ho
  have hz:=List.all_eq_true.1 hg (o,r) (by
   rw[List.mem_iff_getElem?]
   exact⟨k,by rw[List.getElem?_zip_eq_some];exact⟨ho,hr⟩⟩)
  rw[e3]
  dsimp only at hz
  refine⟨fun hn=>by rw[hn] at hz;exact hz,fun i b hgd v W hv=>?_⟩
  rw[hgd] at hz
  dsimp only at hz
  cases hri:R[i]? with
  | none=>rw[hri] at hz;cases hz
  | some ri=>
   rw[hri] at hz
   cases hvi:ri.v with
   | none=>simp[hvi] at hz
   | some y=>
    simp only[Option.bind_some,hvi] at hz
    have e1:(R.map AR.p).getD i (fun _ _=>True)=ri.p:=by simp[List.getD,hri]
    rw[e1,ri.val y hvi] at hv
    obtain rfl:v=y:=hv
    exact eq_of_beq hz
 ·obtain⟨o,r,_,_,_,e2,e3⟩:=grow k (by simpa using hk)
  rw[e2] at hu
  rw[e3]
  cases hrg:r.g with
  | true=>rfl
  | false=>rw[(r.no hrg).1] at hu;cases hu
 ·obtain⟨o,r,_,_,e1,_,e3⟩:=grow k (by simpa using hk)
  rw[e3] at hg'
  rw[e1,(r.no hg').2]
  rfl
 ·obtain⟨r,hr,e1,e2,e3⟩:=row ho
  rw[e2] at hu
  rw[e3] at hg'
  have:=hop' k o r ho hr hg' a' W j (by rw[hu];exact hj) hW hoff hdep
  unfold AR.post at this
  rw[hu] at this
  rw[e1]
  exact this
 ·obtain⟨r,hr,e1,e2,e3⟩:=row ho
  rw[e2] at hu
  have hrg:r.g=true:=by
   cases hrg:r.g with
   | true=>rfl
   | false=>rw[(r.no hrg).1] at hu;cases hu
  have:=hop' k o r ho hr hrg a' W j (by rw[hu];exact hj) hW hoff hdep
  unfold AR.post at this
  rw[hu] at this
  rw[e1]
  exact this
 ·have:=hend vs W hW hv
  rw[<-zpK l R vs W 0 a hl.symm (fun j hj=>by rw[Nat.zero_add];exact hv j (by omega))] at this
  exact this
abbrev zns:TypeId:=40
abbrev tI64:TypeId:=3
def LrC (b4 b5:Nat) (w:World) (W:World):Prop:=Fr (fun b=>b=b4∨b=b5) w W∧(∃u,Bx W b4 zns #[u])∧∃u,Bx W b5 tI64 #[u]
def LrS (b4 b5:Nat) (x:Int) (W W':World):Prop:=(Bx W b4 zns #[.slice none 0 0]->Bx W' b4 zns #[.slice none 0 0])∧(Bx W b5 tI64 #[.int .i64 x]->Bx W' b5 tI64 #[.int .i64 x])
def atK (b:Nat) (t:TypeId) (u:Value):Value->World->Prop:=fun v W=>v=undef∧Bx W b t #[u]
theorem znt (b:Nat) (t:TypeId) (u:Value):MonP (atK b t u):=fun _ _ _ ⟨h1,h2⟩ hf=>⟨h1,h2.keep hf⟩
theorem znu (p q:Addr) (w:World):
  CallsD Tryz.prog 61 #[.pointer (some p),.pointer (some q)] .returning w fun e u' w'=>e=.returned (.tuple #[])∧u'=.returning∧w'=w:=by
 refine callsD_of_wpS Tryz.func61 rfl fun c₀ cs hu=>?_
 apply wpS_seq
 apply wpS_region
 simp[wpOpsS,go_sem,recoverD,hu,Tryz.ntmps61,Exit.thenS]
 apply wpS_of_wp
 go_wp2
 exact⟨rfl,.returning,by cases c₀;simp_all,.tuple #[],by simp[results,Tryz.results61],rfl,rfl,rfl⟩
theorem znv {X:Nat->Prop} {w:World}:Fr X w w.drew:=(Fr.refl X w).drew
theorem lr4 {b4 b5:Nat} {w W:World} {x:Int} {u4 u5:Value} (hne:b4≠b5) (h:LrC b4 b5 w W) (g4:Bx W b4 zns #[u4]) (g5:Bx W b5 tI64 #[u5]):LrC b4 b5 w (W.setCell ⟨b4,0,none⟩ (.slice none 0 0))∧LrS b4 b5 x W (W.setCell ⟨b4,0,none⟩ (.slice none 0 0))∧atK b4 zns (.slice none 0 0) undef (W.setCell ⟨b4,0,none⟩ (.slice none 0 0)):=
 ⟨⟨h.1.setCellX (p:=⟨b4,0,none⟩) (.inl rfl) _,⟨_,g4.setc rfl⟩,⟨_,g5.far (p:=⟨b4,0,none⟩) (fun e=>hne e.symm) _⟩⟩,⟨fun _=>g4.setc rfl,fun h5=>h5.far (p:=⟨b4,0,none⟩) (fun e=>hne e.symm) _⟩,rfl,g4.setc rfl⟩
theorem lr5 {b4 b5:Nat} {w W:World} {x:Int} {u4 u5:Value} (hne:b4≠b5) (h:LrC b4 b5 w W) (g4:Bx W b4 zns #[u4]) (g5:Bx W b5 tI64 #[u5]):LrC b4 b5 w (W.setCell ⟨b5,0,none⟩ (.int .i64 x))∧LrS b4 b5 x W (W.setCell ⟨b5,0,none⟩ (.int .i64 x))∧atK b5 tI64 (.int .i64 x) undef (W.setCell ⟨b5,0,none⟩ (.int .i64 x)):=
 ⟨⟨h.1.setCellX (p:=⟨b5,0,none⟩) (.inr rfl) _,⟨_,g4.far (p:=⟨b5,0,none⟩) hne _⟩,⟨_,g5.setc rfl⟩⟩,⟨fun h4=>h4.far (p:=⟨b5,0,none⟩) hne _,fun _=>g5.setc rfl⟩,rfl,g5.setc rfl⟩
theorem znw (v:Value) (xT:TypeId) (W:World):(Instr.typeAssert (.iface 120 v) xT 120 true).run Tryz.prog W=.ok (.tuple #[v,.bool true]) W:=by kernel_rfl
theorem znx (b4 b5:Nat) (hne:b4≠b5) (x:Int) (u4 u5:Value) (w:World) (h4:Bx w b4 zns #[u4]) (h5:Bx w b5 tI64 #[u5]):
  CallsD Tryz.prog 61 #[.pointer (some ⟨b4,0,none⟩),.pointer (some ⟨b5,0,none⟩)] (.panicking [{ v:=.iface 120 (.agg #[.int .i64 x]),recovered:=false }]) w fun e u' w'=>
   e=.returned (.tuple #[])∧u'=.panicking [{ v:=.iface 120 (.agg #[.int .i64 x]),recovered:=true }]∧Bx w' b4 zns #[.slice none 0 0]∧Bx w' b5 tI64 #[.int .i64 x]∧Fr (fun b=>b=b4∨b=b5) w w':=by
 refine callsD_of_wpS Tryz.func61 rfl fun c₀ cs hu=>?_
 apply wpS_seq
 apply wpS_region
 simp[wpOpsS,go_sem,recoverD,hu,Tryz.ntmps61,Exit.thenS,Array.replicate_succ]
 apply wpS_of_wp
 have hta:=znw
 have hl4:=h4.lt
 have hl5:=h5.lt
 go_wp2_with fail
 refine zaE (fun W=>Bx W w.heap.size 120 #[.int .i64 x]∧Fr No w W) ⟨bxc,frc⟩ ?_
 rintro W1 ⟨hB,hf1⟩
 have hG:∀(m:Nat) W,LrC b4 b5 W1 W->LrC b4 b5 W1 W:=fun _ _ h=>h
 have hGs:∀W,LrC b4 b5 W1 W->W1.heap.size≤W.heap.size:=fun W h=>h.1.size
 have hwl:=hf1.size
 have KB:∀W,LrC b4 b5 W1 W->W.cell? ⟨w.heap.size,0,none⟩=some (.int .i64 x)∧W.frozen? ⟨w.heap.size,0,none⟩=false∧w.heap.size<W.heap.size:=fun W h=>by
  have hB2:=hB.keepX h.1 (by omega)
  exact⟨hB2.cell 0,hB2.frozen 0,hB2.lt⟩
 refine zpN 2 18 [aV (.pointer (some ⟨w.heap.size,0,none⟩)),aV (.int .i64 x),aW (atK b4 zns (.slice none 0 0)) (znt _ _ _),aW (atK b5 tI64 (.int .i64 x)) (znt _ _ _)] (fun _ W=>LrC b4 b5 W1 W) (LrS b4 b5 x) (by kernel_rfl) (by kernel_rfl) (by simp) (fun j W W' h hf=>⟨h.1.trans0 hf,h.2.1.elim (fun u h=>⟨u,h.keep hf⟩),h.2.2.elim (fun u h=>⟨u,h.keep hf⟩)⟩) (⟨znv,⟨_,(h4.keep hf1).keep znv⟩,⟨_,(h5.keep hf1).keep znv⟩⟩) ?_ ?_ ?_
 ·exact fun v W W' hs=>hSA rfl <| hSA rfl <| hopA (fun _ h=>by exact⟨h.1,hs.1 h.2⟩) <| hopA (fun _ h=>by exact⟨h.1,hs.2 h.2⟩) <| zpL
 ·refine hopA ?_ <| hopA ?_ <| hopA ?_ <| hopA ?_ <| zpL
  all_goals (intro _ a' W jc hjc hW0 hoff hdep;have hW:=hG jc _ hW0;have hbs:=hGs _ hW;have H3:=hoff 3 rfl;have H0:=hoff 0 rfl;have H1:=hoff 1 rfl)
  ·simp[execOp,Act.eval,H3,go_sem,zaa];exact fr1 rfl
  ·have D16:_=_:=hdep 0 16 rfl;clear hoff hdep;simp[execOp,Act.eval,go_sem,zaa, *];exact fr1 rfl
  ·obtain⟨⟨u4',g4⟩,u5',g5⟩:=hW.2;have c4:W.cell? ⟨b4,0,none⟩=some u4':=g4.cell 0;have f4:=g4.frozen 0
   clear hoff hdep;simp[execOp,Act.eval,go_sem,zaa, *]
   exact lr4 hne hW g4 g5
  ·have D17:_=_:=hdep 1 17 rfl
   obtain⟨⟨u4',g4⟩,u5',g5⟩:=hW.2;have c5:W.cell? ⟨b5,0,none⟩=some u5':=g5.cell 0;have f5:=g5.frozen 0
   clear hoff hdep;simp[execOp,Act.eval,go_sem,zaa, *]
   exact lr5 hne hW g4 g5
 intro vs WR hWR hv
 obtain⟨e2,hR2⟩:=hv 2 (by decide)
 obtain⟨e3,hR3⟩:=hv 3 (by decide)
 simp only[zpE,zpI,zpJ,Nat.zero_add,Nat.reduceAdd,e2,e3]
 simp only[Act.put,lz0,lz1,lz2]
 clear e2 e3 hv
 refine⟨rfl,.panicking [{ v:=.iface 120 (.agg #[.int .i64 x]),recovered:=true }],rfl,.tuple #[],by simp[results,Tryz.results61],rfl,rfl,hR2,hR3,?_⟩
 exact hf1.of0.same hWR.1
end Go.Proofs.YthembcdcdnffeaaGreat
