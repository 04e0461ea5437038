/- The verifier's own state in memory. -/
import Derived.Test.YtmeaibjmnjcdfaaGreatVHPvn2
import Derived.WalkLawsBesides
set_option maxHeartbeats 4000000
set_option maxRecDepth 100000
namespace Go.Proofs.YtmeaibjmnjcdfaaGreat
open Go.RowKit
theorem zgF.over2 {w w1 w':World} {l bl n m:Nat} {p:Plan} {g g1:Int->Str->Option Int} (h:zgF w l bl n p g) (h1:zgF w1 l bl m p g1) (hf:Fr (fun b=>b=bl∨w.heap.size≤b) w w1) (hf':Fr (fun b=>w.heap.size≤b) w1 w'):zgF w' l bl m p g1:=by
 obtain⟨h0,A,cap,bo,ba,k1,k2,k3,k4,k5,k6,k7,k8⟩:=h
 obtain⟨_,_,_,_,_,_,_,_,_,_,_,_,q8⟩:=h1
 have hb:=k8.lt
 have F:Fr (fun b=>b=bl∨w.heap.size≤b) w w':=hf.trans hf' (fun b _ h=>.inr h)
 have nb:∀b,b<w.heap.size->b≠bl->¬(b=bl∨w.heap.size≤b):=fun b h1 h2 h=>by rcases h with h|h<;>omega
 refine⟨h0,A,cap,bo,ba,k1.keepX F (nb l k1.lt k2),k2,k3,k4,?_,k6.keepX F (nb bo k6.lt k3),k7.keepX F (nb ba k7.lt k4),q8.keepX hf' (by omega)⟩
 have k5':=((k5.oldX (R':=KprC (fun b=>b=bl∨w.heap.size≤b) w) (by decide) (fun _ _ _ h=>h.oldX)).keep (R':=KprC (fun b=>b=bl∨w.heap.size≤b) w') F (fun _ h=>h) (fun _ _ _ h=>h.keep F (fun _ h=>h)))
 exact k5'.weaken (fun _ h=>.inl h) (fun _ _ _ h=>h.weaken (fun _ h=>.inl h))
theorem Lg.over2 {w w1 w':World} {l bl n m:Nat} {p:Plan} (h:Lg w l bl n p) (h1:Lg w1 l bl m p) (hf:Fr (fun b=>b=bl∨w.heap.size≤b) w w1) (hf':Fr (fun b=>w.heap.size≤b) w1 w'):Lg w' l bl m p:=by
 obtain⟨g,h,_⟩:=h
 obtain⟨g1,h1,h2⟩:=h1
 exact⟨g1,h.over2 h1 hf hf',h2⟩
structure LkP where
 w0:World
 l:Nat
 bl:Nat
 kb:Nat
 p:Plan
 k:Nat
 m:Mth
 va:Value
 vc:Value
 vm:Value
structure LkE (K:LkP):Prop where
 lg:∃n,Lg K.w0 K.l K.bl n K.p
 has:K.k<K.p.keepers.length
 args:Sl (fun b=>b=K.bl) K.w0 2 KndC K.va K.m.args
 code:Sl (fun b=>b=K.bl) K.w0 4 InsC K.vc K.m.code
 maps:Sl (fun b=>b=K.bl) K.w0 3 (MapC (fun b=>b=K.bl) K.w0) K.vm K.m.maps
 ok:mthB K.m=true
 ret:K.m.ret.name.size≤maxLen
 ops:zn3 K.m.code
def LkP.late (K:LkP) (b:Nat):Prop:=b=K.bl∨K.w0.heap.size≤b
def lkC (K:LkP) (j:Int) (vl vs:Value):Array Value:=#[.pointer (some ⟨K.l,0,none⟩),.int .i64 K.k,.string K.m.name,K.va,.int .i64 K.m.ret.kind,.string K.m.ret.name,.int .i64 K.m.locals,.int .i64 K.m.stack,K.vc,K.vm,.int .i64 j,vl,vs]
abbrev tTag:TypeId:=298
abbrev zeY:TypeId:=318
structure LkS (K:LkP) (n:Nat) (Z:Nat->Prop) (j:Int) (f:Frm) (vl vs:Value) (w:World):Prop where
 anchor:Fr K.late K.w0 w
 lg:Lg w K.l K.bl n K.p
 box:Bx w K.kb zeY (lkC K j vl vs)
 z:∀b,Z b->K.late b∧b<w.heap.size
 zbl:Z K.bl
 zkb:Z K.kb
 kb:K.w0.heap.size≤K.kb
 loc:zcX w tTag vl f.locals
 stk:zcX w tTag vs f.stack
 zl:∀q,zcP vl=some q->Z q∧K.w0.heap.size≤q
 zs:∀q,zcP vs=some q->Z q∧K.w0.heap.size≤q
 apart:∀q,zcP vl=some q->zcP vs=some q->False
 ll:(f.locals.length:Int)=K.m.locals
 sl:(f.stack.length:Int)≤K.m.stack
section
variable {K:LkP} {n:Nat} {Z:Nat->Prop} {j:Int} {f:Frm} {vl vs:Value} {w w':World}
theorem Fr.one (w:World) (b o:Nat) (u:Value):Fr (fun x=>x=b) w (w.setCell ⟨b,o,none⟩ u):=(Fr.refl (fun x=>x=b) w).setCellX (p:=⟨b,o,none⟩) (by rfl) u
theorem LkE.bl_lt (E:LkE K):K.bl<K.w0.heap.size:=let ⟨_,h⟩:=E.lg;h.lt
theorem Fr.late (h:Fr K.late K.w0 w) {X:Nat->Prop} (hf:Fr X w w') (hX:∀b,X b->K.late b):Fr K.late K.w0 w':=h.trans hf (fun b _ hx=>hX b hx)
theorem Sl.late {α:Type} {sz:Nat} {R R':List Value->α->Prop} {v:Value} {xs:List α} (h:Sl (fun b=>b=K.bl) K.w0 sz R v xs) (hsz:0<sz) (hf:Fr K.late K.w0 w) (hR:∀cs x,x∈xs->R cs x->R' cs x):Sl K.late w sz R' v xs:=by
 have h1:=h.oldX (R':=R') hsz hR
 exact(h1.weaken (Y:=K.late) (fun _ h=>h) (fun _ _ _ h=>h)).keep hf (fun _ h=>h) (fun _ _ _ h=>h)
theorem LkS.lt (h:LkS K n Z j f vl vs w) {b:Nat} (hb:Z b):b<w.heap.size:=(h.z b hb).2
theorem LkS.far (h:LkS K n Z j f vl vs w) (E:LkE K) {X:Nat->Prop} (hf:Fr X w w') (hX:∀b,X b->K.w0.heap.size≤b∧¬Z b):LkS K n Z j f vl vs w' where
 anchor:=h.anchor.late hf (fun b hb=>.inr (hX b hb).1)
 lg:=let ⟨_,h0⟩:=E.lg;h0.over2 h.lg h.anchor (hf.mono (fun b _ hb=>(hX b hb).1))
 box:=h.box.keepX hf (fun hx=>(hX _ hx).2 h.zkb)
 z:=fun b hb=>⟨(h.z b hb).1,Nat.lt_of_lt_of_le (h.z b hb).2 hf.size⟩
 zbl:=h.zbl
 zkb:=h.zkb
 kb:=h.kb
 loc:=h.loc.keep hf (fun q hq hx=>(hX _ hx).2 (h.zl q hq).1)
 stk:=h.stk.keep hf (fun q hq hx=>(hX _ hx).2 (h.zs q hq).1)
 zl:=h.zl
 zs:=h.zs
 apart:=h.apart
 ll:=h.ll
 sl:=h.sl
theorem LkS.keep (h:LkS K n Z j f vl vs w) (E:LkE K) (hf:Fr No w w'):LkS K n Z j f vl vs w':=h.far E hf zN
theorem LkS.mono (h:LkS K n Z j f vl vs w) {m:Nat} (hm:n≤m):LkS K m Z j f vl vs w:={ h with lg:=h.lg.mono hm }
end
def LkOk (K:LkP) (n:Nat) (Z:Nat->Prop) (j:Int) (f:Frm) (w w':World):Prop:=
 ∃Z' vl vs,LkS K n Z' j f vl vs w'∧(∀b,Z b->Z' b)∧(∀b,Z' b->Z b∨w.heap.size≤b)∧Fr Z w w'
def zeZ (j:Int):List PanicEntry:=[{ v:=.iface 322 (.agg #[.int .i64 (j+1)]),recovered:=false }]
def LkNo (K:LkP) (n:Nat) (Z:Nat->Prop) (j:Int) (c:List PanicEntry) (w w':World):Prop:=c=zeZ j∧Fr K.late K.w0 w'∧Lg w' K.l K.bl n K.p∧Fr Z w w'
section
variable {K:LkP} {n n':Nat} {Z:Nat->Prop} {j:Int} {f f':Frm} {vl vs:Value} {w w':World}
theorem LkOk.mk (h:LkS K n Z j f vl vs w') (hf:Fr Z w w'):LkOk K n Z j f w w':=⟨Z,vl,vs,h,fun _ h=>h,fun _ h=>.inl h,hf⟩
theorem LkOk.refl (h:LkS K n Z j f vl vs w):LkOk K n Z j f w w:=.mk h (Fr.refl _ _)
theorem LkOk.from {a:World} (ha:Fr No a w) (h:LkOk K n Z j f w w'):LkOk K n Z j f a w':=by
 obtain⟨Z',vl,vs,h1,h2,h3,h4⟩:=h
 exact⟨Z',vl,vs,h1,h2,fun b hb=>(h3 b hb).imp id (fun h=>Nat.le_trans ha.size h),ha.of0.same h4⟩
theorem LkOk.to {w2:World} (E:LkE K) (h:LkOk K n Z j f w w') (hf:Fr No w' w2):LkOk K n Z j f w w2:=by
 obtain⟨Z',vl,vs,h1,h2,h3,h4⟩:=h
 exact⟨Z',vl,vs,h1.keep E hf,h2,h3,h4.trans0 hf⟩
theorem LkOk.then {Z1:Nat->Prop} {w1:World} (hz:∀b,Z b->Z1 b) (hz':∀b,Z1 b->Z b∨w.heap.size≤b) (hf:Fr Z w w1) (h:LkOk K n Z1 j f w1 w'):LkOk K n Z j f w w':=by
 obtain⟨Z',vl,vs,h1,h2,h3,h4⟩:=h
 refine⟨Z',vl,vs,h1,fun b hb=>h2 b (hz b hb),fun b hb=>?_,hf.trans h4 (fun b hb hz1=>(hz' b hz1).resolve_right (by omega))⟩
 rcases h3 b hb with h|h
 ·exact hz' b h
 ·exact .inr (Nat.le_trans hf.size h)
theorem LkOk.out {a w2:World} {X:Nat->Prop} (E:LkE K) (ha:Fr No a w) (h:LkOk K n Z j f w w') (hf:Fr X w' w2) (hX:∀b,X b->a.heap.size≤b∧b<w.heap.size) (hZ:∀b,Z b->b<a.heap.size) (h0:K.w0.heap.size≤a.heap.size):LkOk K n Z j f a w2:=by
 obtain⟨Z',vl,vs,h1,h2,h3,h4⟩:=h
 refine⟨Z',vl,vs,h1.far E hf (fun b hb=>⟨by have:=hX b hb;omega,fun hz=>?_⟩),h2,fun b hb=>(h3 b hb).imp id (fun h=>Nat.le_trans ha.size h),(ha.of0.same h4).trans hf (fun b hb hx=>by have:=hX b hx;omega)⟩
 have:=hX b hb
 rcases h3 b hz with h|h
 ·have:=hZ b h;omega
 ·omega
theorem LkOk.mono {m:Nat} (h:LkOk K n Z j f w w') (hm:n≤m):LkOk K m Z j f w w':=by
 obtain⟨Z',vl,vs,h1,h2⟩:=h
 exact⟨Z',vl,vs,h1.mono hm,h2⟩
theorem LkS.no (h:LkS K n Z j f vl vs w):LkNo K n Z j (zeZ j) w w:=⟨rfl,h.anchor,h.lg,Fr.refl _ _⟩
theorem LkNo.from {a:World} {c:List PanicEntry} (ha:Fr No a w) (h:LkNo K n Z j c w w'):LkNo K n Z j c a w':=⟨h.1,h.2.1,h.2.2.1,ha.of0.same h.2.2.2⟩
theorem LkNo.then {Z1:Nat->Prop} {w1:World} {c:List PanicEntry} (hz':∀b,Z1 b->Z b∨w.heap.size≤b) (hf:Fr Z w w1) (h:LkNo K n Z1 j c w1 w'):LkNo K n Z j c w w':=⟨h.1,h.2.1,h.2.2.1,hf.trans h.2.2.2 (fun b hb hz1=>(hz' b hz1).resolve_right (by omega))⟩
theorem LkNo.mono {m:Nat} {c:List PanicEntry} (h:LkNo K n Z j c w w') (hm:n≤m):LkNo K m Z j c w w':=⟨h.1,h.2.1,h.2.2.1.mono hm,h.2.2.2⟩
theorem LkS.next {Y Z':Nat->Prop} {j':Int} {vl' vs':Value} (h:LkS K n Z j f vl vs w) (E:LkE K) (hf:Fr Y w w') (hY:∀b,Y b->Z b∧K.w0.heap.size≤b)
  (hz:∀b,Z b->Z' b) (hz':∀b,Z' b->Z b∨(w.heap.size≤b∧b<w'.heap.size)) (hb:Bx w' K.kb zeY (lkC K j' vl' vs'))
  (hl:zcX w' tTag vl' f'.locals) (hs:zcX w' tTag vs' f'.stack) (hzl:∀q,zcP vl'=some q->Z' q∧K.w0.heap.size≤q) (hzs:∀q,zcP vs'=some q->Z' q∧K.w0.heap.size≤q) (hap:∀q,zcP vl'=some q->zcP vs'=some q->False) (hll:(f'.locals.length:Int)=K.m.locals) (hsl:(f'.stack.length:Int)≤K.m.stack):
  LkOk K n Z j' f' w w':=by
 have hz2:∀b,Z' b->K.late b∧b<w'.heap.size:=fun b hb=>by
  rcases hz' b hb with h1 | ⟨h1,h2⟩
  ·exact⟨(h.z b h1).1,Nat.lt_of_lt_of_le (h.z b h1).2 hf.size⟩
  ·exact⟨.inr (Nat.le_trans h.anchor.size h1),h2⟩
 exact⟨Z',vl',vs',{ anchor:=h.anchor.late hf (fun b hb=>.inr (hY b hb).2),lg:=(let ⟨_,h0⟩:=E.lg;h0.over2 h.lg h.anchor (hf.mono (fun b _ hb=>(hY b hb).2))),box:=hb,z:=hz2,zbl:=hz _ h.zbl,zkb:=hz _ h.zkb,kb:=h.kb,loc:=hl,stk:=hs,zl:=hzl,zs:=hzs,apart:=hap,ll:=hll,sl:=hsl },
  hz,fun b hb=>(hz' b hb).imp id (fun h=>h.1),hf.mono (fun b _ hb=>(hY b hb).1)⟩
end
section
variable {K:LkP} {n:Nat} {Z:Nat->Prop} {j:Int} {f:Frm} {vl vs:Value} {w:World}
theorem LkS.cells (h:LkS K n Z j f vl vs w):∀W,Fr No w W->W.cell? ⟨K.kb,0,none⟩=some (.pointer (some ⟨K.l,0,none⟩))∧W.cell? ⟨K.kb,1,none⟩=some (.int .i64 K.k)∧W.cell? ⟨K.kb,4,none⟩=some (.int .i64 K.m.ret.kind)∧W.cell? ⟨K.kb,5,none⟩=some (.string K.m.ret.name) ∧
  W.cell? ⟨K.kb,7,none⟩=some (.int .i64 K.m.stack)∧W.cell? ⟨K.kb,8,none⟩=some K.vc∧W.cell? ⟨K.kb,9,none⟩=some K.vm∧W.cell? ⟨K.kb,10,none⟩=some (.int .i64 j)∧W.cell? ⟨K.kb,11,none⟩=some vl∧W.cell? ⟨K.kb,12,none⟩=some vs∧(∀i,W.frozen? ⟨K.kb,i,none⟩=false)∧K.kb<W.heap.size:=fun W hW=>by
 have hb:=h.box.keep hW
 exact⟨hb.cell 0,hb.cell 1,hb.cell 4,hb.cell 5,hb.cell 7,hb.cell 8,hb.cell 9,hb.cell 10,hb.cell 11,hb.cell 12,fun i=>hb.frozen i,hb.lt⟩
end
theorem ze3 (ys:List Tag) (x:Tag) (j:Nat) (hj:j<2):((ys ++ [x]).flatMap zcU)[ys.length * 2+j]? =(zcU x)[j]?:=by
 rw[zcV (ys ++ [x]) ys.length (by simp) j hj];simp
theorem zcX.top {w:World} {e:TypeId} {v:Value} {ys:List Tag} {x:Tag} (h:zcX w e v (ys ++ [x])):∃g c,v=.slice (some ⟨g,0,none⟩) (ys.length+1) c∧zcP v=some g∧ys.length+1≤c∧c≤maxLen ∧
  w.cell? ⟨g,ys.length * 2,none⟩=some (.int .i64 x.kind)∧w.cell? ⟨g,ys.length * 2+1,none⟩=some (.string x.name)∧x.name.size≤maxLen:=by
 obtain⟨h,hn⟩:=h
 have el:(ys ++ [x]).length=ys.length+1:=by simp
 obtain⟨g,c,cur,rfl,h1,h2,_,_,_,hq⟩:=h.at_ (by omega)
 rw[el] at h h1 hq ⊢
 refine⟨g,c,rfl,hq,h1,h2,?_,?_,hn x (by simp)⟩
 ·rw[h.cell rfl (by omega)];exact ze3 ys x 0 (by decide)
 ·rw[h.cell rfl (by omega)];exact ze3 ys x 1 (by decide)
section
variable {K:LkP} {n:Nat} {Z:Nat->Prop} {j:Int} {f:Frm} {vl vs:Value} {w:World}
theorem ze5:tTag≠zeY:=by decide
theorem LkS.box_ne (h:LkS K n Z j f vl vs w):(∀q,zcP vl=some q->q≠K.kb)∧(∀q,zcP vs=some q->q≠K.kb):=
 ⟨fun _ hq=>h.loc.1.ne h.box ze5 hq,fun _ hq=>h.stk.1.ne h.box ze5 hq⟩
theorem LkS.push (h:LkS K n Z j f vl vs w) (E:LkE K) {x:Tag} (hx:x.name.size≤maxLen) {g' cap':Nat} {w1:World} (hrow:RowV w1 tTag 2 (.slice (some ⟨g',0,none⟩) (f.stack.length+1) cap') (f.stack.length+1) (f.stack.flatMap zcU ++ zcU x))
  (hf:Fr (fun b=>zcP vs=some b) w w1) (hor:zcP vs=some g'∨g'=w.heap.size) (hcap:f.stack.length+1≤cap') (hpm:(f.stack.length:Int)<K.m.stack):LkOk K n Z j ⟨f.locals,f.stack ++ [x]⟩ w (w1.setCell ⟨K.kb,12,none⟩ (.slice (some ⟨g',0,none⟩) (f.stack.length+1) cap')):=by
 have hne:=h.box_ne
 have hb1:=h.box.keepX hf (fun e=>hne.2 _ e rfl)
 have hgl:g'<w1.heap.size:=hrow.lt (by rw[zcQ,if_neg (by omega)])
 have hgk:g'≠K.kb:=by
  rcases hor with h1|h1
  ·exact hne.2 _ h1
  ·have:=h.box.lt;omega
 have hw0:K.w0.heap.size≤g':=by
  rcases hor with h1|h1
  ·exact(h.zs _ h1).2
  ·rw[h1];exact h.anchor.size
 have hst:Fr (fun b=>b=K.kb) w1 (w1.setCell ⟨K.kb,12,none⟩ (.slice (some ⟨g',0,none⟩) (f.stack.length+1) cap')):=Fr.one _ _ _ _
 have hq':zcP (.slice (some ⟨g',0,none⟩) (f.stack.length+1) cap')=some g':=by rw[zcQ,if_neg (by omega)]
 refine h.next (Y:=fun b=>zcP vs=some b∨b=K.kb) (Z':=fun b=>Z b∨b=g') E ((hf.mono (fun b _ h=>.inl h)).same (hst.mono (fun b _ h=>.inr h))) (fun b hb=>?_) (fun b h=>.inl h) (fun b hb=>?_) (hb1.setc rfl) ?_ ⟨?_,fun y hy=>?_⟩ (fun q hq=>⟨.inl (h.zl q hq).1,(h.zl q hq).2⟩) (fun q hq=>?_) (fun q hq hq2=>?_) h.ll (by simp;omega)
 ·rcases hb with hb|rfl
  ·exact h.zs b hb
  ·exact⟨h.zkb,h.kb⟩
 ·rcases hb with hb|rfl
  ·exact .inl hb
  ·rcases hor with h1|h1
   ·exact .inl (h.zs _ h1).1
   ·exact .inr ⟨by omega,Nat.lt_of_lt_of_le hgl hst.size⟩
 ·exact(h.loc.keep hf (fun q hq e=>h.apart q hq e)).keep hst (fun q hq e=>hne.1 q hq e)
 ·have:=hrow.keep hst (fun q hq e=>by rw[hq'] at hq;cases hq;exact hgk e)
  simpa[List.flatMap_append] using this
 ·rcases List.mem_append.1 hy with hy|hy
  ·exact h.stk.2 y hy
  ·rw[List.mem_singleton.1 hy];exact hx
 ·rw[hq'] at hq
  cases hq
  exact⟨.inr rfl,hw0⟩
 ·rw[hq'] at hq2
  cases hq2
  rcases hor with h1|h1
  ·exact h.apart _ hq h1
  ·have:=h.loc.1.lt hq;omega
theorem LkS.at_ (h:LkS K n Z j f vl vs w) (E:LkE K) (j':Int):LkS K n Z j' f vl vs (w.setCell ⟨K.kb,10,none⟩ (.int .i64 j'))∧Fr Z w (w.setCell ⟨K.kb,10,none⟩ (.int .i64 j')):=by
 have hne:=h.box_ne
 have hst:Fr (fun b=>b=K.kb) w (w.setCell ⟨K.kb,10,none⟩ (.int .i64 j')):=Fr.one _ _ _ _
 refine⟨{ anchor:=h.anchor.late hst (fun b hb=>.inr (by subst hb;exact h.kb)),lg:=(let ⟨_,h0⟩:=E.lg;h0.over2 h.lg h.anchor (hst.mono (fun b _ hb=>by subst hb;exact h.kb))),box:=h.box.setc rfl,z:=fun b hb=>⟨(h.z b hb).1,Nat.lt_of_lt_of_le (h.z b hb).2 hst.size⟩,zbl:=h.zbl,zkb:=h.zkb,kb:=h.kb,loc:=h.loc.keep hst (fun q hq e=>hne.1 q hq e),stk:=h.stk.keep hst (fun q hq e=>hne.2 q hq e),zl:=h.zl,zs:=h.zs,apart:=h.apart,ll:=h.ll,sl:=h.sl },hst.mono (fun b _ hb=>by subst hb;exact h.zkb)⟩
end
theorem ze7 {m:Mth} (h:mthB m=true):m.args.length≤3∧kndB m.ret=true∧(∀a∈m.args,kndB a=true)∧(m.args.length:Int)+1≤m.locals∧m.locals≤6∧1≤m.stack∧m.stack≤5∧zfW m=true∧zf4 m=true:=by
 unfold mthB at h
 simp only[lz5,decide_eq_true_eq,List.all_eq_true] at h
 obtain⟨⟨⟨⟨⟨⟨⟨⟨⟨_,h1⟩,h2⟩,h3⟩,h4⟩,h5⟩,h6⟩,h7⟩,h8⟩,h9⟩:=h
 exact⟨h1,h2,h3,h4,h5,h6,h7,h8,h9⟩
theorem Sl.news {X:Nat->Prop} {w:World} {b off n cap:Nat} {xs:List Tag} (h:Sl X w 2 TagC (.slice (some ⟨b,off,none⟩) n cap) xs):∀j u,(xs.flatMap zcU)[j]? =some u->w.cell? ((⟨b,off,none⟩:Addr).add j)=some u:=by
 intro j u hu
 have e:(⟨b,off,none⟩:Addr).add j=⟨b,off+j,none⟩:=by
  unfold Addr.add
  by_cases hj:j=0
  ·subst hj;rfl
  ·rw[if_neg hj]
 have hj:j<xs.length * 2:=by
  have:=(List.getElem?_eq_some_iff.1 hu).1
  rwa [zcW] at this
 have hk:j / 2<xs.length:=by omega
 obtain⟨b',off',cs,hA,_,⟨rfl,_⟩,hc⟩:=h.cells hk
 simp only[Option.some.injEq,Addr.mk.injEq,and_true] at hA
 obtain⟨rfl,rfl⟩:=hA
 have h2:=zcV xs (j / 2) hk (j % 2) (by omega)
 rw[show j / 2 * 2+j % 2=j by omega] at h2
 rw[h2] at hu
 rw[e]
 have:=hc (j % 2) u (by omega) hu
 rw[<-this]
 congr 2
 omega
theorem Sl.small {X:Nat->Prop} {w:World} {v:Value} {xs:List Tag} (h:Sl X w 2 TagC v xs):∀x∈xs,x.name.size≤maxLen:=by
 intro x hx
 obtain⟨A,cap,rfl,_⟩:=h.form
 obtain⟨k,hk,rfl⟩:=List.mem_iff_getElem.1 hx
 obtain⟨b,off,cs,_,_,hR,_⟩:=h.cells hk
 exact hR.2
abbrev tObj:TypeId:=195
abbrev zwo:TypeId:=207
abbrev zwp:TypeId:=130
abbrev tPtr:TypeId:=203
structure McP where
 w0:World
 l:Nat
 bl:Nat
 p:Plan
 look:Bool
 mb:Nat
def McP.late (K:McP) (b:Nat):Prop:=b=K.bl∨K.w0.heap.size≤b
structure KC where
 c:Nat
 va:Value
 vc:Value
 vm:Value
 vl:Value
 vs:Value
def KC.B (k:KC):List Nat:=k.c :: (rowB k.vl ++ rowB k.vs)
def zwq (k:KC) (f:Cal) (m:Mth):Array Value:=
 #[.int .i64 f.of_.of_.keeper,.string f.of_.of_.name,.int .i64 f.of_.at_,.string m.name,k.va,.int .i64 m.ret.kind,.string m.ret.name,.int .i64 m.locals,.int .i64 m.stack,k.vc,k.vm,.int .i64 f.pc,k.vl,k.vs,.int .i64 m.stack]
def CalR (K:McP) (W:World) (k:KC) (f:Cal):Prop:=
 Bx W k.c zwo (zwq k f (zo3 K.p f.of_))∧zv8 W k.vl f.locals∧zv8 W k.vs f.stack∧Sl (fun b=>b=K.bl) K.w0 4 InsC k.vc (zo3 K.p f.of_).code∧f.of_.of_.name.size≤maxLen∧(zo3 K.p f.of_).ret.name.size≤maxLen
theorem KC.mem_B {k:KC} {b:Nat}:b∈k.B↔b=k.c∨b∈rowB k.vl∨b∈rowB k.vs:=by unfold KC.B;simp
def calL (K:McP):El KC Cal where
 e:=tPtr
 sz:=1
 C:=fun k=>[.pointer (some ⟨k.c,0,none⟩)]
 B:=KC.B
 R:=CalR K
 len:=fun _=>rfl
 keep:=fun {X W W' k x} h hf hb=>by
  obtain⟨h1,h2,h3,h4⟩:=h
  exact⟨h1.keepX hf (hb _ (KC.mem_B.2 (.inl rfl))),h2.keepB hf (fun q hq=>hb q (KC.mem_B.2 (.inr (.inl hq)))),h3.keepB hf (fun q hq=>hb q (KC.mem_B.2 (.inr (.inr hq)))),h4⟩
 lt:=fun {W k x b} h hb=>by
  obtain⟨h1,h2,h3,h4⟩:=h
  rcases KC.mem_B.1 hb with rfl|hb|hb
  ·exact h1.lt
  ·exact RowV.ltB h2 hb
  ·exact RowV.ltB h3 hb
structure KO where
 r:Ref
 vf:Value
def KO.B (k:KO):List Nat:=rowB k.vf
def objL:El KO Obj where
 e:=tObj
 sz:=3
 C:=fun k=>[.int .i64 k.r.keeper,.string k.r.name,k.vf]
 B:=KO.B
 R:=fun W k o=>k.r=o.of_∧o.of_.name.size≤maxLen∧zv8 W k.vf o.fields
 len:=fun _=>rfl
 keep:=fun h hf hb=>⟨h.1,h.2.1,h.2.2.keepB hf hb⟩
 lt:=fun h hb=>RowV.ltB h.2.2 hb
structure MLay where
 vc:Value
 vh:Value
 vo:Value
 kc:List KC
 ko:List KO
def mcB (K:McP) (m:MLay):List Nat:=K.mb :: (rowB m.vc ++ (m.kc.flatMap KC.B ++ (rowB m.vh ++ (m.ko.flatMap KO.B ++ rowB m.vo))))
def macC (K:McP) (s:St) (m:MLay):Array Value:=#[.pointer (some ⟨K.l,0,none⟩),.bool K.look,.int .i64 s.status,m.vc,m.vh,m.vo,.int .i64 s.back.kind,.int .i64 s.back.n]
structure McS (K:McP) (n:Nat) (s:St) (m:MLay) (w:World):Prop where
 anchor:Fr K.late K.w0 w
 lg:Lg w K.l K.bl n K.p
 box:Bx w K.mb zwp (macC K s m)
 crow:RowV w tPtr 1 m.vc s.frames.length (m.kc.flatMap (calL K).C)
 cels:Els (calL K) w m.kc s.frames
 hrow:RowV w tObj 3 m.vh s.heap.length (m.ko.flatMap objL.C)
 hels:Els objL w m.ko s.heap
 orow:zwc w m.vo s.outs
 nodup:(mcB K m).Nodup
 new:∀b∈mcB K m,K.w0.heap.size≤b
def McE (K:McP):Prop:=∃n,Lg K.w0 K.l K.bl n K.p
theorem zwr {A B C:List Nat} (h:(A ++ (B ++ C)).Nodup) {b:Nat} (hb:b∈A∨b∈C):b∉B:=by
 rw[List.nodup_append,List.nodup_append] at h
 obtain⟨_,⟨_,_,h1⟩,h2⟩:=h
 intro hB
 rcases hb with hb|hb
 ·exact h2 b hb b (List.mem_append_left _ hB) rfl
 ·exact h1 b hB b hb rfl
theorem zws {A B C B':List Nat} {n:Nat} (h:(A ++ (B ++ C)).Nodup) (hlt:∀b,b∈A∨b∈C->b<n) (hB:∀b∈B',b∈B∨n≤b) (hn:B'.Nodup):(A ++ (B' ++ C)).Nodup:=by
 have ho:=fun b (hb:b∈A∨b∈C)=>zwr h hb
 rw[List.nodup_append,List.nodup_append] at h ⊢
 obtain⟨h1,⟨_,h3,_⟩,h5⟩:=h
 refine⟨h1,⟨hn,h3,fun a ha b hb e=>?_⟩,fun a ha b hb e=>?_⟩
 ·subst e
  rcases hB a ha with h|h
  ·exact ho a (.inr hb) h
  ·have:=hlt a (.inr hb);omega
 ·subst e
  rcases List.mem_append.1 hb with hb|hb
  ·rcases hB a hb with h|h
   ·exact ho a (.inl ha) h
   ·have:=hlt a (.inl ha);omega
  ·exact h5 a ha a (List.mem_append_right _ hb) rfl
section
variable {K:McP} {n:Nat} {s:St} {m:MLay} {w w':World} {X:Nat->Prop}
theorem zwt {b:Nat}:b∈mcB K m↔b=K.mb∨b∈rowB m.vc∨b∈m.kc.flatMap KC.B∨b∈rowB m.vh∨b∈m.ko.flatMap KO.B∨b∈rowB m.vo:=by
 unfold mcB
 simp only[List.mem_cons,List.mem_append]
theorem McS.lt (h:McS K n s m w) {b:Nat} (hb:b∈mcB K m):b<w.heap.size:=by
 rcases zwt.1 hb with rfl|hb|hb|hb|hb|hb
 ·exact h.box.lt
 ·exact h.crow.ltB hb
 ·exact h.cels.lt b hb
 ·exact h.hrow.ltB hb
 ·exact h.hels.lt b hb
 ·exact RowV.ltB h.orow hb
theorem McE.bl_lt (E:McE K):K.bl<K.w0.heap.size:=let ⟨_,h⟩:=E;h.lt
theorem McE.ok (E:McE K):lodB K.p=true:=let ⟨_,h⟩:=E;h.ok
theorem McS.lgOf (h:McS K n s m w) (E:McE K) (hf:Fr X w w') (hX:∀b,X b->K.w0.heap.size≤b):Lg w' K.l K.bl n K.p:=let ⟨_,h0⟩:=E;h0.over2 h.lg h.anchor (hf.mono (fun b _ hb=>hX b hb))
theorem McS.ancOf (h:McS K n s m w) (hf:Fr X w w') (hX:∀b,X b->K.w0.heap.size≤b):Fr K.late K.w0 w':=h.anchor.trans hf (fun b _ hb=>.inr (hX b hb))
theorem McS.far (h:McS K n s m w) (E:McE K) (hf:Fr X w w') (hX:∀b,X b->K.w0.heap.size≤b∧b∉mcB K m):McS K n s m w' where
 anchor:=h.ancOf hf (fun b hb=>(hX b hb).1)
 lg:=h.lgOf E hf (fun b hb=>(hX b hb).1)
 box:=h.box.keepX hf (fun hx=>(hX _ hx).2 (zwt.2 (.inl rfl)))
 crow:=h.crow.keepB hf (fun q hq hx=>(hX q hx).2 (zwt.2 (.inr (.inl hq))))
 cels:=h.cels.keep hf (fun q hq hx=>(hX q hx).2 (zwt.2 (.inr (.inr (.inl hq)))))
 hrow:=h.hrow.keepB hf (fun q hq hx=>(hX q hx).2 (zwt.2 (.inr (.inr (.inr (.inl hq))))))
 hels:=h.hels.keep hf (fun q hq hx=>(hX q hx).2 (zwt.2 (.inr (.inr (.inr (.inr (.inl hq)))))))
 orow:=h.orow.keepB hf (fun q hq hx=>(hX q hx).2 (zwt.2 (.inr (.inr (.inr (.inr (.inr hq)))))))
 nodup:=h.nodup
 new:=h.new
theorem McS.keep (h:McS K n s m w) (E:McE K) (hf:Fr No w w'):McS K n s m w':=h.far E hf zN
theorem McS.lodge (h:McS K n s m w) (E:McE K) {n':Nat} (hl:Lg w' K.l K.bl n' K.p) (hf:Fr (fun b=>b=K.bl) w w'):McS K n' s m w':=by
 have hb:=E.bl_lt
 have ho:∀b∈mcB K m,¬b=K.bl:=fun b hb' e=>by have:=h.new b hb';omega
 exact {
   anchor:=h.anchor.trans hf (fun b _ hb=>.inl hb),lg:=hl,box:=h.box.keepX hf (ho _ (zwt.2 (.inl rfl))),
   crow:=h.crow.keepB hf (fun q hq=>ho q (zwt.2 (.inr (.inl hq)))),cels:=h.cels.keep hf (fun q hq=>ho q (zwt.2 (.inr (.inr (.inl hq))))),
   hrow:=h.hrow.keepB hf (fun q hq=>ho q (zwt.2 (.inr (.inr (.inr (.inl hq)))))),hels:=h.hels.keep hf (fun q hq=>ho q (zwt.2 (.inr (.inr (.inr (.inr (.inl hq))))))),
   orow:=h.orow.keepB hf (fun q hq=>ho q (zwt.2 (.inr (.inr (.inr (.inr (.inr hq))))))),nodup:=h.nodup,new:=h.new }
theorem McS.mono (h:McS K n s m w) {n':Nat} (hn:n≤n'):McS K n' s m w:={ h with lg:=h.lg.mono hn }
theorem McS.split1 (h:McS K n s m w) {ks:List KC} {k:KC} (hk:m.kc=ks ++ [k]):((K.mb :: (rowB m.vc ++ ks.flatMap KC.B)) ++ (k.B ++ (rowB m.vh ++ (m.ko.flatMap KO.B ++ rowB m.vo)))).Nodup:=by
 have:=h.nodup
 unfold mcB at this
 rw[hk,List.flatMap_append] at this
 simpa using this
theorem McS.top (h:McS K n s m w) (E:McE K) {ks:List KC} {k k':KC} {fs:List Cal} {f f':Cal} (hk:m.kc=ks ++ [k]) (hs:s.frames=fs ++ [f]) (hf:Fr X w w') (hX:∀b,X b->b∈k.B)
  (hc:k'.c=k.c) (hR:CalR K w' k' f') (hB:∀b∈k'.B,b∈k.B∨w.heap.size≤b) (hn:k'.B.Nodup):McS K n ⟨s.status,fs ++ [f'],s.heap,s.outs,s.back⟩ ⟨m.vc,m.vh,m.vo,ks ++ [k'],m.ko⟩ w':=by
 have hN:=h.split1 hk
 have hin:∀b∈k.B,b∈mcB K m:=fun b hb=>zwt.2 (.inr (.inr (.inl (by rw[hk,List.flatMap_append];simp[hb]))))
 have hks:∀b∈ks.flatMap KC.B,b∈m.kc.flatMap KC.B:=fun b hb=>by rw[hk,List.flatMap_append];exact List.mem_append_left _ hb
 have ho:=fun b hb=>zwr hN (b:=b) hb
 have hcr:=h.crow
 have hce:=h.cels
 rw[hk,hs] at hcr hce
 obtain⟨hce1,_⟩:=hce.last2
 refine { anchor:=h.ancOf hf (fun b hb=>h.new b (hin b (hX b hb))),lg:=h.lgOf E hf (fun b hb=>h.new b (hin b (hX b hb))),box:=?_,crow:=?_,cels:=?_,hrow:=?_,hels:=?_,orow:=?_,nodup:=?_,new:=fun b hb=>?_ }
 ·exact h.box.keepX hf (fun hx=>ho K.mb (.inl (by simp)) (hX _ hx))
 ·have e:(ks ++ [k']).flatMap (calL K).C=(ks ++ [k]).flatMap (calL K).C:=by simp[List.flatMap_append,calL,hc]
  have hl:(fs ++ [f']).length=(fs ++ [f]).length:=by simp
  show RowV w' tPtr 1 m.vc (fs ++ [f']).length ((ks ++ [k']).flatMap (calL K).C)
  rw[e,hl]
  exact hcr.keepB hf (fun q hq hx=>ho q (.inl (by simp[hq])) (hX _ hx))
 ·exact(hce1.keep hf (fun q hq hx=>ho q (.inl (List.mem_cons_of_mem _ (List.mem_append_right _ hq))) (hX _ hx))).snoc hR
 ·exact h.hrow.keepB hf (fun q hq hx=>ho q (.inr (by simp[hq])) (hX _ hx))
 ·exact h.hels.keep hf (fun q hq hx=>ho q (.inr (List.mem_append_right _ (List.mem_append_left _ hq))) (hX _ hx))
 ·exact h.orow.keepB hf (fun q hq hx=>ho q (.inr (by simp[hq])) (hX _ hx))
 ·have:=zws (n:=w.heap.size) hN (fun b hb=>h.lt (zwt.2 (by
   rcases hb with hb|hb
   ·rcases List.mem_cons.1 hb with hb|hb
    ·exact .inl hb
    ·rcases List.mem_append.1 hb with hb|hb
     ·exact .inr (.inl hb)
     ·exact .inr (.inr (.inl (hks b hb)))
   ·simp only[List.mem_append] at hb
    rcases hb with hb|hb|hb
    ·exact .inr (.inr (.inr (.inl hb)))
    ·exact .inr (.inr (.inr (.inr (.inl hb))))
    ·exact .inr (.inr (.inr (.inr (.inr hb))))))) hB hn
  unfold mcB
  rw[List.flatMap_append]
  simpa using this
 ·rcases zwt.1 hb with hb|hb|hb|hb|hb|hb
  ·exact h.new b (zwt.2 (.inl hb))
  ·exact h.new b (zwt.2 (.inr (.inl hb)))
  ·rw[List.flatMap_append,List.mem_append] at hb
   rcases hb with hb|hb
   ·exact h.new b (zwt.2 (.inr (.inr (.inl (hks b hb)))))
   ·simp only[List.flatMap_cons,List.flatMap_nil,List.append_nil] at hb
    rcases hB b hb with hb|hb
    ·exact h.new b (hin b hb)
    ·exact Nat.le_trans h.anchor.size hb
  ·exact h.new b (zwt.2 (.inr (.inr (.inr (.inl hb)))))
  ·exact h.new b (zwt.2 (.inr (.inr (.inr (.inr (.inl hb))))))
  ·exact h.new b (zwt.2 (.inr (.inr (.inr (.inr (.inr hb))))))
end
structure McT (K:McP) (n:Nat) (s:St) (fs:List Cal) (f:Cal) (m:MLay) (ks:List KC) (k:KC) (w:World):Prop where
 st:McS K n s m w
 fr:s.frames=fs ++ [f]
 kc:m.kc=ks ++ [k]
 go:s.status=1
def McP.own (K:McP) (m:MLay) (b:Nat):Prop:=b=K.bl∨b∈mcB K m
def McOk (K:McP) (n:Nat) (c:Nat) (s:St) (fs:List Cal) (f:Cal) (m0:MLay) (w w':World):Prop:=
 ∃m ks k,McT K n ⟨s.status,fs ++ [f],s.heap,s.outs,s.back⟩ fs f m ks k w'∧k.c=c∧(∀b∈mcB K m,b∈mcB K m0∨w.heap.size≤b)∧Fr (K.own m0) w w'
def OpOk (K:McP) (n:Nat) (s':St) (m0:MLay) (w w':World):Prop:=
 ∃fs m,McS K n ⟨1,fs,s'.heap,s'.outs,s'.back⟩ m w'∧(s'.status=1->fs=s'.frames)∧(∀b∈mcB K m,b∈mcB K m0∨w.heap.size≤b)∧Fr (K.own m0) w w'
def zwu (K:McP) (n:Nat) (s':St) (m0:MLay) (w:World) (e:Ending) (w':World):Prop:=e=.returned (.int .i64 s'.status)∧OpOk K n s' m0 w w'
theorem zwv {v:Value} {q:Nat} (h:zcP v=some q):q∈rowB v:=zvT.2 h
theorem KC.nodup_iff {k:KC}:k.B.Nodup↔(∀q,zcP k.vl=some q->q≠k.c)∧(∀q,zcP k.vs=some q->q≠k.c)∧(∀q,zcP k.vl=some q->zcP k.vs=some q->False):=by
 unfold KC.B
 rw[List.nodup_cons,List.nodup_append,List.mem_append]
 constructor
 ·rintro⟨h1,_,_,h2⟩
  exact⟨fun q hq e=>h1 (.inl (e▸zwv hq)),fun q hq e=>h1 (.inr (e▸zwv hq)),fun q h3 h4=>h2 q (zwv h3) q (zwv h4) rfl⟩
 ·rintro⟨h1,h2,h3⟩
  refine⟨?_,zvU _,zvU _,fun a ha b hb e=>?_⟩
  ·rintro(h|h)
   ·exact h1 _ (zvT.1 h) rfl
   ·exact h2 _ (zvT.1 h) rfl
  ·subst e
   exact h3 _ (zvT.1 ha) (zvT.1 hb)
theorem RowV.cutTo {w:World} {e:TypeId} {sz n r:Nat} {g c:Nat} {xs:List Value} (h:RowV w e sz (.slice (some ⟨g,0,none⟩) n c) n xs) (hr:r≤n):RowV w e sz (.slice (some ⟨g,0,none⟩) r c) r (xs.take (r * sz)):=by
 have hl:=h.len
 by_cases h0:0<n
 ·obtain⟨g',c',cur,he,h1,h2,hb,h3,h4,_⟩:=h.at_ h0
  simp only[Value.slice.injEq,Option.some.injEq,Addr.mk.injEq,and_true,true_and] at he
  obtain⟨rfl,rfl⟩:=he
  have hle:r * sz≤n * sz:=Nat.mul_le_mul_right _ hr
  exact .inl ⟨by rw[List.length_take,hl];omega,.inr ⟨g,c,cur,rfl,Nat.zero_le _,hb,by omega,h2,h3,by rw[<-h4,List.take_take,Nat.min_eq_left hle]⟩⟩
 ·obtain rfl:n=0:=by omega
  obtain rfl:r=0:=by omega
  have:xs.take (0 * sz)=xs:=by
   have:xs=[]:=List.eq_nil_of_length_eq_zero (by rw[hl];simp)
   rw[this];simp
  rw[this]
  exact h
theorem zww (k:KC) (f:Cal) (m:Mth) (v:Value) (st:List Val):(zwq k f m).setIfInBounds 13 v=zwq ⟨k.c,k.va,k.vc,k.vm,k.vl,v⟩ ⟨f.of_,f.pc,f.locals,st⟩ m:=rfl
section
variable {K:McP} {n:Nat} {s:St} {fs:List Cal} {f:Cal} {m:MLay} {ks:List KC} {k:KC} {w w' w1:World} {X:Nat->Prop}
theorem McT.keep (h:McT K n s fs f m ks k w) (E:McE K) (hf:Fr No w w'):McT K n s fs f m ks k w':=⟨h.st.keep E hf,h.fr,h.kc,h.go⟩
theorem McT.far (h:McT K n s fs f m ks k w) (E:McE K) (hf:Fr X w w') (hX:∀b,X b->K.w0.heap.size≤b∧b∉mcB K m):McT K n s fs f m ks k w':=⟨h.st.far E hf hX,h.fr,h.kc,h.go⟩
theorem McT.lodge (h:McT K n s fs f m ks k w) (E:McE K) {n':Nat} (hl:Lg w' K.l K.bl n' K.p) (hf:Fr (fun b=>b=K.bl) w w'):McT K n' s fs f m ks k w':=⟨h.st.lodge E hl hf,h.fr,h.kc,h.go⟩
theorem McT.cal (h:McT K n s fs f m ks k w):CalR K w k f:=by
 have hc:=h.st.cels
 rw[h.fr,h.kc] at hc
 exact hc.last2.2
theorem McT.nodup (h:McT K n s fs f m ks k w):k.B.Nodup:=by
 have:=h.st.split1 h.kc
 rw[List.nodup_append,List.nodup_append] at this
 exact this.2.1.1
theorem McT.inB (h:McT K n s fs f m ks k w) {b:Nat} (hb:b∈k.B):b∈mcB K m:=zwt.2 (.inr (.inr (.inl (by rw[h.kc,List.flatMap_append];simp[hb]))))
theorem McT.ltB (h:McT K n s fs f m ks k w) {b:Nat} (hb:b∈k.B):b<w.heap.size:=h.st.lt (h.inB hb)
theorem McT.box (h:McT K n s fs f m ks k w):Bx w k.c zwo (zwq k f (zo3 K.p f.of_)):=h.cal.1
theorem McT.ok (h:McT K n s fs f m ks k w) (E:McE K) {k':KC} {f':Cal} (hf:Fr X w w') (hX:∀b,X b->b∈k.B) (hc:k'.c=k.c) (hR:CalR K w' k' f') (hB:∀b∈k'.B,b∈k.B∨w.heap.size≤b) (hn:k'.B.Nodup):McOk K n k.c s fs f' m w w':=by
 refine⟨⟨m.vc,m.vh,m.vo,ks ++ [k'],m.ko⟩,ks,k',⟨h.st.top E h.kc h.fr hf hX hc hR hB hn,rfl,rfl,h.go⟩,hc,fun b hb=>?_,hf.mono (fun b _ hb=>.inr (h.inB (hX b hb)))⟩
 rcases zwt.1 hb with hb|hb|hb|hb|hb|hb
 ·exact .inl (zwt.2 (.inl hb))
 ·exact .inl (zwt.2 (.inr (.inl hb)))
 ·rw[List.flatMap_append,List.mem_append] at hb
  rcases hb with hb|hb
  ·exact .inl (zwt.2 (.inr (.inr (.inl (by rw[h.kc,List.flatMap_append];exact List.mem_append_left _ hb)))))
  ·simp only[List.flatMap_cons,List.flatMap_nil,List.append_nil] at hb
   exact(hB b hb).imp h.inB id
 ·exact .inl (zwt.2 (.inr (.inr (.inr (.inl hb)))))
 ·exact .inl (zwt.2 (.inr (.inr (.inr (.inr (.inl hb))))))
 ·exact .inl (zwt.2 (.inr (.inr (.inr (.inr (.inr hb))))))
theorem McT.push (h:McT K n s fs f m ks k w) (E:McE K) {v:Val} {g' cap':Nat} (hrow:RowV w1 tVal 2 (.slice (some ⟨g',0,none⟩) (f.stack.length+1) cap') (f.stack.length+1) (f.stack.flatMap zv7 ++ zv7 v))
  (hf:Fr (fun b=>zcP k.vs=some b) w w1) (hor:zcP k.vs=some g'∨g'=w.heap.size) (hcap:f.stack.length+1≤cap'):
  McOk K n k.c s fs ⟨f.of_,f.pc,f.locals,f.stack ++ [v]⟩ m w (w1.setCell ⟨k.c,13,none⟩ (.slice (some ⟨g',0,none⟩) (f.stack.length+1) cap')):=by
 obtain⟨h1,h2,h3,h4,h5,h6⟩:=h.cal
 obtain⟨q1,q2,q3⟩:=KC.nodup_iff.1 h.nodup
 have hst:Fr (fun b=>b=k.c) w1 (w1.setCell ⟨k.c,13,none⟩ (.slice (some ⟨g',0,none⟩) (f.stack.length+1) cap')):=Fr.one _ _ _ _
 have hgc:g'≠k.c:=by
  rcases hor with h9|h9
  ·exact q2 _ h9
  ·have:=h1.lt;omega
 have hq':zcP (.slice (some ⟨g',0,none⟩) (f.stack.length+1) cap')=some g':=zqC (by omega)
 have hrow':=hrow.keep hst (fun q hq e=>by rw[hq'] at hq;cases hq;exact hgc e)
 refine h.ok E (X:=fun b=>zcP k.vs=some b∨b=k.c) (k':=⟨k.c,k.va,k.vc,k.vm,k.vl,.slice (some ⟨g',0,none⟩) (f.stack.length+1) cap'⟩) ((hf.mono (fun b _ h=>.inl h)).same (hst.mono (fun b _ h=>.inr h))) (fun b hb=>?_) rfl ⟨?_,?_,?_,h4,h5,h6⟩ (fun b hb=>?_) (KC.nodup_iff.2 ⟨q1,fun q hq=>?_,fun q hq hq2=>?_⟩)
 ·rcases hb with hb|rfl
  ·exact KC.mem_B.2 (.inr (.inr (zwv hb)))
  ·exact KC.mem_B.2 (.inl rfl)
 ·exact(h1.keepX hf (fun e=>q2 _ e rfl)).setc (zww _ _ _ _ _)
 ·exact(h2.keepB hf (fun q hq e=>q3 q (zvT.1 hq) e)).keepB hst (fun q hq e=>q1 q (zvT.1 hq) e)
 ·show RowV _ tVal 2 _ (f.stack ++ [v]).length _
  simpa[List.flatMap_append] using hrow'
 ·rcases KC.mem_B.1 hb with hb|hb|hb
  ·exact .inl (KC.mem_B.2 (.inl hb))
  ·exact .inl (KC.mem_B.2 (.inr (.inl hb)))
  ·rw[zvT] at hb
   dsimp only at hb
   rw[hq'] at hb
   cases hb
   rcases hor with h9|h9
   ·exact .inl (KC.mem_B.2 (.inr (.inr (zwv h9))))
   ·exact .inr (by omega)
 ·dsimp only at hq
  rw[hq'] at hq
  cases hq
  exact hgc
 ·dsimp only at hq hq2
  rw[hq'] at hq2
  cases hq2
  rcases hor with h9|h9
  ·exact q3 _ hq h9
  ·have:=h2.lt hq;omega
theorem McT.cut (h:McT K n s fs f m ks k w) (E:McE K) {g c r:Nat} (hv:k.vs=.slice (some ⟨g,0,none⟩) f.stack.length c) (hr:r≤f.stack.length):
  McOk K n k.c s fs (f.left (f.stack.take r)) m w (w.setCell ⟨k.c,13,none⟩ (.slice (some ⟨g,0,none⟩) r c)):=by
 obtain⟨h1,h2,h3,h4,h5,h6⟩:=h.cal
 obtain⟨q1,q2,q3⟩:=KC.nodup_iff.1 h.nodup
 have hst:Fr (fun b=>b=k.c) w (w.setCell ⟨k.c,13,none⟩ (.slice (some ⟨g,0,none⟩) r c)):=Fr.one _ _ _ _
 have hqq:∀q,zcP (.slice (some ⟨g,0,none⟩) r c)=some q->zcP k.vs=some q:=fun q hq=>by rw[hv];exact hq
 unfold zv8 at h3
 rw[hv] at h3
 have hcut:=h3.cutTo hr
 have hlt:(f.stack.take r).length=r:=by rw[List.length_take];omega
 have hcut2:zv8 w (.slice (some ⟨g,0,none⟩) r c) (f.stack.take r):=by
  unfold zv8
  rw[hlt]
  have e:(f.stack.flatMap zv7).take (r * 2)=(f.stack.take r).flatMap zv7:=by
   have:=zf1 zv9 (f.stack.take r) (f.stack.drop r)
   rw[List.take_append_drop,hlt] at this
   exact this
  rw[<-e]
  exact hcut
 refine h.ok E (X:=fun b=>b=k.c) (k':=⟨k.c,k.va,k.vc,k.vm,k.vl,.slice (some ⟨g,0,none⟩) r c⟩) hst (fun b hb=>by subst hb;exact KC.mem_B.2 (.inl rfl)) rfl ⟨h1.setc (zww _ _ _ _ _),h2.keepB hst (fun q hq e=>q1 q (zvT.1 hq) e),hcut2.keepB hst (fun q hq e=>q2 q (hqq q (zvT.1 hq)) e),h4,h5,h6⟩ (fun b hb=>?_) (KC.nodup_iff.2 ⟨q1,fun q hq=>q2 q (hqq q hq),fun q hq hq2=>q3 q hq (hqq q hq2)⟩)
 rcases KC.mem_B.1 hb with hb|hb|hb
 ·exact .inl (KC.mem_B.2 (.inl hb))
 ·exact .inl (KC.mem_B.2 (.inr (.inl hb)))
 ·exact .inl (KC.mem_B.2 (.inr (.inr (zwv (hqq b (zvT.1 hb))))))
theorem zwx:∀(ys:List Val) (i:Nat) (x:Val),i<ys.length->((ys.flatMap zv7).set (i * 2) (.int .i64 x.kind)).set (i * 2+1) (.int .i64 x.n)=(ys.set i x).flatMap zv7
 | y :: ys,0,x,_=>by simp[zv7]
 | y :: ys,i+1,x,h=>by
  have e1:(i+1) * 2=i * 2+1+1:=by omega
  rw[lz2,List.flatMap_cons,List.flatMap_cons,<-zwx ys i x (by simpa using h),e1]
  simp[zv7]
theorem zv8.set {xs:List Val} {g c i:Nat} (h:zv8 w (.slice (some ⟨g,0,none⟩) xs.length c) xs) (hi:i<xs.length) (x:Val):
  zv8 ((w.setCell ⟨g,i * 2,none⟩ (.int .i64 x.kind)).setCell ⟨g,i * 2+1,none⟩ (.int .i64 x.n)) (.slice (some ⟨g,0,none⟩) xs.length c) (xs.set i x):=by
 obtain⟨g',c',cur,he,h1,h2,hb,h3,h4,hq⟩:=RowV.at_ h (by omega)
 cases he
 have hb':=(hb.set_ (i * 2) (.int .i64 x.kind)).set_ (i * 2+1) (.int .i64 x.n)
 refine .inl ⟨by rw[zqA zv9],.inr ⟨g,c,_,by simp,Nat.zero_le _,hb',by simpa using h1,h2,by simpa using h3,?_⟩⟩
 rw[<-zwx _ _ _ hi,<-h4]
 simp[List.take_set]
theorem zwy {m0 m1:MLay} (hB:∀b∈mcB K m1,b∈mcB K m0∨w.heap.size≤b) (hf:Fr (K.own m0) w w1) (h:Fr (K.own m1) w1 w'):Fr (K.own m0) w w':=
 hf.trans h (fun b hb hx=>by
  rcases hx with hx|hx
  ·exact .inl hx
  ·exact .inr ((hB b hx).resolve_right (by omega)))
theorem zwz {m0 m1 m2:MLay} (hB:∀b∈mcB K m1,b∈mcB K m0∨w.heap.size≤b) (hs:w.heap.size≤w1.heap.size) (hC:∀b∈mcB K m2,b∈mcB K m1∨w1.heap.size≤b):∀b∈mcB K m2,b∈mcB K m0∨w.heap.size≤b:=fun b hb=>by
 rcases hC b hb with h|h
 ·exact hB b h
 ·exact .inr (Nat.le_trans hs h)
theorem OpOk.then {m0 m1:MLay} {s':St} (hB:∀b∈mcB K m1,b∈mcB K m0∨w.heap.size≤b) (hf:Fr (K.own m0) w w1) (h:OpOk K n s' m1 w1 w'):OpOk K n s' m0 w w':=by
 obtain⟨fs,m,h1,h2,h3,h4⟩:=h
 exact⟨fs,m,h1,h2,zwz hB hf.size h3,zwy hB hf h4⟩
theorem McOk.then {m0 m1:MLay} {c:Nat} (hB:∀b∈mcB K m1,b∈mcB K m0∨w.heap.size≤b) (hf:Fr (K.own m0) w w1) (h:McOk K n c s fs f m1 w1 w'):McOk K n c s fs f m0 w w':=by
 obtain⟨m,ks,k,h1,h2,h3,h4⟩:=h
 exact⟨m,ks,k,h1,h2,zwz hB hf.size h3,zwy hB hf h4⟩
theorem OpOk.from {m0:MLay} {s':St} (ha:Fr No w w1) (h:OpOk K n s' m0 w1 w'):OpOk K n s' m0 w w':=h.then (fun _ h=>.inl h) ha.of0
theorem McOk.from {m0:MLay} {c:Nat} (ha:Fr No w w1) (h:McOk K n c s fs f m0 w1 w'):McOk K n c s fs f m0 w w':=h.then (fun _ h=>.inl h) ha.of0
theorem OpOk.lg {m0 _:MLay} {s':St} (ha:Fr (fun b=>b=K.bl) w w1) (h:OpOk K n s' m0 w1 w'):OpOk K n s' m0 w w':=h.then (fun _ h=>.inl h) (ha.mono (fun _ _ h=>.inl h))
theorem OpOk.to {m0:MLay} {s':St} (E:McE K) (h:OpOk K n s' m0 w w1) (hf:Fr No w1 w'):OpOk K n s' m0 w w':=by
 obtain⟨fs,m,h1,h2,h3,h4⟩:=h
 exact⟨fs,m,h1.keep E hf,h2,h3,h4.trans0 hf⟩
theorem McOk.to {m0:MLay} {c:Nat} (E:McE K) (h:McOk K n c s fs f m0 w w1) (hf:Fr No w1 w'):McOk K n c s fs f m0 w w':=by
 obtain⟨m,ks,k,h1,h2,h3,h4⟩:=h
 exact⟨m,ks,k,h1.keep E hf,h2,h3,h4.trans0 hf⟩
theorem McS.ends {m0:MLay} (h:McS K n s m w') (hs:s.status=1) (c:Int) (hc:c≠1) (hB:∀b∈mcB K m,b∈mcB K m0∨w.heap.size≤b) (hf:Fr (K.own m0) w w'):OpOk K n (s.ends c) m0 w w':=by
 obtain⟨st,fr,hp,ou,ba⟩:=s
 dsimp only at hs
 subst hs
 exact⟨fr,m,h,fun e=>absurd e hc,hB,hf⟩
theorem McT.ends (h:McT K n s fs f m ks k w') (c:Int) (hc:c≠1) (hf:Fr No w w'):OpOk K n (s.ends c) m w w':=h.st.ends h.go c hc (fun _ h=>.inl h) hf.of0
theorem McOk.ends {m0:MLay} {c0:Nat} (h:McOk K n c0 s fs f m0 w w') (c:Int) (hc:c≠1):OpOk K n (s.ends c) m0 w w':=by
 obtain⟨m,ks,k,h1,_,h3,h4⟩:=h
 exact h1.st.ends h1.go c hc h3 h4
theorem McOk.goes {m0:MLay} {c0:Nat} (h:McOk K n c0 s fs f m0 w w'):OpOk K n (s.goes (fs ++ [f])) m0 w w':=by
 obtain⟨m,ks,k,h1,_,h3,h4⟩:=h
 have hs:=h1.st
 have hg:=h1.go
 dsimp only at hg
 rw[hg] at hs
 exact⟨fs ++ [f],m,hs,fun _=>rfl,h3,h4⟩
theorem McOk.mono {m0:MLay} {c:Nat} {n':Nat} (h:McOk K n c s fs f m0 w w') (hn:n≤n'):McOk K n' c s fs f m0 w w':=by
 obtain⟨m,ks,k,h1,h2⟩:=h
 exact⟨m,ks,k,⟨h1.st.mono hn,h1.fr,h1.kc,h1.go⟩,h2⟩
theorem OpOk.mono {m0:MLay} {s':St} {n':Nat} (h:OpOk K n s' m0 w w') (hn:n≤n'):OpOk K n' s' m0 w w':=by
 obtain⟨fs,m,h1,h2⟩:=h
 exact⟨fs,m,h1.mono hn,h2⟩
theorem McOk.out {m0:MLay} {c:Nat} {a w2:World} {X:Nat->Prop} (E:McE K) (ha:Fr No a w) (h:McOk K n c s fs f m0 w w') (hf:Fr X w' w2) (hX:∀b,X b->a.heap.size≤b∧b<w.heap.size) (hZ:∀b∈mcB K m0,b<a.heap.size) (h0:K.w0.heap.size≤a.heap.size):McOk K n c s fs f m0 a w2:=by
 obtain⟨m,ks,k,h1,h2,h3,h4⟩:=h
 refine⟨m,ks,k,h1.far E hf (fun b hb=>⟨by have:=hX b hb;omega,fun hz=>?_⟩),h2,fun b hb=>(h3 b hb).imp id (fun h=>Nat.le_trans ha.size h),(ha.of0.same h4).trans hf (fun b hb hx=>by have:=hX b hx;omega)⟩
 have:=hX b hb
 rcases h3 b hz with h|h
 ·have:=hZ b h;omega
 ·omega
end
theorem zdd (l bl n:Nat) (p:Plan) (g:Int->Str->Option Int) (low top:Ref) (w:World) (h:zgF w l bl n p g) (hs:low.name.size≤maxLen):
  Calls Tryz.prog 157 #[.pointer (some ⟨l,0,none⟩),.agg #[.int .i64 low.keeper,.string low.name],.agg #[.int .i64 top.keeper,.string top.name]] w (zgm (zem p low top) w):=by
 obtain⟨wA,hwA⟩:∃wA,wA=((w.alloc (.cells #[.int .i64 low.keeper,.string low.name] 108)).alloc (.cells #[.int .i64 top.keeper,.string top.name] 108)):=⟨_,rfl⟩
 have hfA:Fr No w wA:=hwA▸frc
 have K1:=(hwA▸bxc:Bx wA (w.heap.size+1) 108 #[.int .i64 top.keeper,.string top.name]).r2
 have HC:=zmI l bl n p g low wA (h.keep hfA) hs
 have hU:zem p low top=(zmF p low).any (fun r=>zjt r top):=rfl
 generalize zem p low top=V at *
 generalize zmF p low=xs at *
 obtain⟨rk,rn⟩:=low
 obtain⟨tk,tn⟩:=top
 replace hU:=Lib.hid hU
 dsimp only at *
 clear h
 go_enter Tryz.func157,Tryz.ntmps157
 go_wp2_with fail
 rw[<-hwA]
 replace hwA:=Lib.hid hwA
 refine HC.mono ?_
 rintro e w1 ⟨v,rfl,hsl,hf1⟩
 obtain⟨A,cap,rfl,_,hlen⟩:=hsl.form
 unfold maxLen at hlen
 clear HC
 go_wp2
 go_loopw [13] (fun i wr=>∃j:Nat,j≤xs.length∧i=.int .i64 j∧Hid (∀x∈xs.take j,zjt x ⟨tk,tn⟩=false)∧Fr No w1 wr) (fun i _=>xs.length-(intOf i).toNat)
 case atStart=>exact⟨0,Nat.zero_le _,rfl,by simp[Hid],Fr.refl _ _⟩
 case round=>
  obtain⟨j,hj,rfl,hn,hf⟩:=hrel
  have q:Fr No wA wr:=hf1.trans0 hf
  by_cases hlt:j<xs.length
  ·obtain⟨b,bf,rfl,_,c0,c1,z⟩:=(hsl.k0 hf).ref hlt
   have K2:=K1 wr q
   clear hsl
   by_cases hm:zjt xs[j] ⟨tk,tn⟩=true
   ·have hV:V=true:=by rw[hU.out,List.any_eq_true];exact⟨_,List.getElem_mem hlt,hm⟩
    rw[zju] at hm
    rw[hm] at c0 c1
    dsimp only at c0 c1
    clear hm hU hn
    go_wp2
    go_ret
    exact .mk hV.symm frc
   ·have hV:Hid (∀x∈xs.take (j+1),zjt x ⟨tk,tn⟩=false):=by
     intro x hx
     rw[List.take_add_one,List.mem_append] at hx
     rcases hx with hx|hx
     ·exact hn.out x hx
     ·rw[lz8 hlt] at hx
      simp only[Option.toList_some,List.mem_singleton] at hx
      rw[hx];simpa using hm
    generalize hxj:xs[j]=x at *
    obtain⟨xk,xn⟩:=x
    have hx:(xk == tk&&xn.toList == tn.toList)=false:=by
     have h9:zjt ⟨xk,xn⟩ ⟨tk,tn⟩=false:=by simpa using hm
     unfold zjt at h9
     simpa using h9
    dsimp only at c0 c1
    clear hm hU hn
    go_wp2
    ·rename_i h1 h2
     rw[h1,h2] at hx
     simp at hx
    all_goals refine⟨⟨j+1,by omega,by go_num,hV,by exact frc⟩,?_⟩
    all_goals simp[intOf]
    all_goals omega
  ·clear hsl
   have hV:V=false:=by
    rw[hU.out,List.any_eq_false]
    intro x hx
    have:=hn.out x (by rwa [List.take_of_length_le (by omega)])
    simpa using this
   clear hU hn
   go_wp2
   go_ret
   exact .mk hV.symm frc
section
variable {K:McP} {n:Nat} {s:St} {fs:List Cal} {f:Cal} {m:MLay} {ks:List KC} {k:KC} {w:World}
theorem McS.cells (h:McS K n s m w):∀W,Fr No w W->W.cell? ⟨K.mb,0,none⟩=some (.pointer (some ⟨K.l,0,none⟩))∧W.cell? ⟨K.mb,1,none⟩=some (.bool K.look)∧W.cell? ⟨K.mb,2,none⟩=some (.int .i64 s.status)∧W.cell? ⟨K.mb,3,none⟩=some m.vc ∧
  W.cell? ⟨K.mb,4,none⟩=some m.vh∧W.cell? ⟨K.mb,5,none⟩=some m.vo∧W.cell? ⟨K.mb,6,none⟩=some (.int .i64 s.back.kind)∧W.cell? ⟨K.mb,7,none⟩=some (.int .i64 s.back.n)∧(∀i,W.frozen? ⟨K.mb,i,none⟩=false)∧K.mb<W.heap.size:=fun W hW=>by
 have hb:=h.box.keep hW
 exact⟨hb.cell 0,hb.cell 1,hb.cell 2,hb.cell 3,hb.cell 4,hb.cell 5,hb.cell 6,hb.cell 7,fun i=>hb.frozen i,hb.lt⟩
theorem McT.crow (h:McT K n s fs f m ks k w):∃g c,m.vc=.slice (some ⟨g,0,none⟩) (fs.length+1) c∧fs.length+1≤c∧c≤maxLen∧∀W,Fr No w W->W.cell? ⟨g,fs.length,none⟩=some (.pointer (some ⟨k.c,0,none⟩))∧g<W.heap.size:=by
 have hr:=h.st.crow
 have hl:=h.st.cels.length
 rw[h.fr,h.kc] at hr hl
 have el:(fs ++ [f]).length=fs.length+1:=by simp
 have ek:ks.length=fs.length:=by simpa using hl
 rw[el] at hr
 obtain⟨g,c,cur,hv,h1,h2,hb,h3,h4,hq⟩:=hr.at_ (by omega)
 refine⟨g,c,hv,h1,h2,fun W hW=>?_⟩
 have hc:=hr.cell hv (j:=fs.length) (by omega)
 have he:((ks ++ [k]).flatMap (calL K).C)[fs.length]? =some (.pointer (some ⟨k.c,0,none⟩)):=by
  have:=zqB (calL K).len (ks ++ [k]) ks.length (by simp) 0 (show 0<(calL K).sz from Nat.one_pos)
  simp only[Nat.add_zero,List.getElem_concat_length] at this
  have e1:(calL K).sz=1:=rfl
  rw[e1,Nat.mul_one,ek] at this
  rw[this]
  rfl
 rw[he] at hc
 exact⟨hW.keep0 hc,(hb.keep hW).lt⟩
theorem McT.code (h:McT K n s fs f m ks k w):∃A c,k.vc=.slice A (zo3 K.p f.of_).code.length c∧(zo3 K.p f.of_).code.length≤maxLen:=by
 obtain⟨A,c,h1,_,h2⟩:=h.cal.2.2.2.1.form
 exact⟨A,c,h1,h2⟩
end
theorem McOk.fr {K:McP} {n c:Nat} {s:St} {fs:List Cal} {f:Cal} {m:MLay} {w w':World} (h:McOk K n c s fs f m w w'):Fr (K.own m) w w':=let ⟨_,_,_,_,_,_,h⟩:=h;h
theorem zwA (a:Int) (w:World):Calls Tryz.prog 56 #[.int .i64 a] w (Gives (.agg #[.int .i64 1,.int .i64 a]) w):=by
 go_enter Tryz.func56,Tryz.ntmps56
 go_wp2
 refine bodyPost_ret (v:=.agg #[.int .i64 1,.int .i64 a]) (by simp[results,Tryz.results56,go_sem]) rfl ?_
 exact⟨rfl,frc⟩
theorem zwB (w:World):Calls Tryz.prog 102 #[] w (Gives (.agg #[.int .i64 3,.int .i64 0]) w):=by
 go_enter Tryz.func102,Tryz.ntmps102
 go_wp2
 refine bodyPost_ret (v:=.agg #[.int .i64 3,.int .i64 0]) (by simp[results,Tryz.results102,go_sem]) rfl ?_
 exact⟨rfl,frc⟩
theorem zv8.at2 {w:World} {xs:List Val} {g n c:Nat} (h:zv8 w (.slice (some ⟨g,0,none⟩) n c) xs) {j:Nat} (hj:j<xs.length):n=xs.length∧n≤c∧c≤maxLen∧∀W,Fr No w W->W.cell? ⟨g,j * 2,none⟩=some (.int .i64 xs[j].kind)∧W.cell? ⟨g,j * 2+1,none⟩=some (.int .i64 xs[j].n)∧(∀i,W.frozen? ⟨g,i,none⟩=false)∧g<W.heap.size:=by
 obtain⟨g',c',cur,he,h1,h2,hb,_,_,_⟩:=RowV.at_ h (by omega)
 cases he
 refine⟨rfl,h1,h2,fun W hW=>?_⟩
 have c0:=RowV.cell h rfl (j:=j * 2) (by omega)
 have c1:=RowV.cell h rfl (j:=j * 2+1) (by omega)
 have e0:=zqB zv9 xs j hj 0 (by decide)
 have e1:=zqB zv9 xs j hj 1 (by decide)
 rw[Nat.add_zero] at e0
 rw[e0] at c0
 rw[e1] at c1
 exact⟨hW.keep0 c0,hW.keep0 c1,fun i=>(hb.keep hW).frozen i,(hb.keep hW).lt⟩
theorem zv8.pos {w:World} {v:Value} {xs:List Val} (h:zv8 w v xs) (h0:0<xs.length):∃g c,v=.slice (some ⟨g,0,none⟩) xs.length c:=by
 obtain⟨g,c,_,he,_⟩:=RowV.at_ h h0
 exact⟨g,c,he⟩
section
variable {K:McP} {n:Nat} {s s':St} {fs:List Cal} {f:Cal} {m m':MLay} {ks:List KC} {k:KC} {w w' w1:World} {X:Nat->Prop}
theorem McS.upd (h:McS K n s m w) (E:McE K) (hf:Fr X w w') (hX:∀b,X b->b∈mcB K m) (hbox:Bx w' K.mb zwp (macC K s' m')) (hcrow:RowV w' tPtr 1 m'.vc s'.frames.length (m'.kc.flatMap (calL K).C)) (hcels:Els (calL K) w' m'.kc s'.frames)
  (hhrow:RowV w' tObj 3 m'.vh s'.heap.length (m'.ko.flatMap objL.C)) (hhels:Els objL w' m'.ko s'.heap) (horow:zwc w' m'.vo s'.outs) (hnd:(mcB K m').Nodup) (hnew:∀b∈mcB K m',b∈mcB K m∨w.heap.size≤b):McS K n s' m' w' where
 anchor:=h.ancOf hf (fun b hb=>h.new b (hX b hb))
 lg:=h.lgOf E hf (fun b hb=>h.new b (hX b hb))
 box:=hbox
 crow:=hcrow
 cels:=hcels
 hrow:=hhrow
 hels:=hhels
 orow:=horow
 nodup:=hnd
 new:=fun b hb=>by
  rcases hnew b hb with h1|h1
  ·exact h.new b h1
  ·exact Nat.le_trans h.anchor.size h1
theorem McS.out3 (h:McS K n s m w):(∀b∈rowB m.vc,b≠K.mb)∧(∀b∈m.kc.flatMap KC.B,b≠K.mb)∧(∀b∈rowB m.vh,b≠K.mb)∧(∀b∈m.ko.flatMap KO.B,b≠K.mb)∧(∀b∈rowB m.vo,b≠K.mb):=by
 have:=h.nodup
 unfold mcB at this
 rw[List.nodup_cons] at this
 obtain⟨h1,_⟩:=this
 simp only[List.mem_append,not_or] at h1
 obtain⟨a1,a2,a3,a4,a5⟩:=h1
 exact⟨fun b hb e=>a1 (e▸hb),fun b hb e=>a2 (e▸hb),fun b hb e=>a3 (e▸hb),fun b hb e=>a4 (e▸hb),fun b hb e=>a5 (e▸hb)⟩
theorem McS.noCalls (h:McS K n s m w) (E:McE K) (hf:Fr (fun b=>b=K.mb) w w') {st:Int} (hb:Bx w' K.mb zwp (macC K ⟨st,[],s.heap,s.outs,s.back⟩ ⟨.slice none 0 0,m.vh,m.vo,[],m.ko⟩)):McS K n ⟨st,[],s.heap,s.outs,s.back⟩ ⟨.slice none 0 0,m.vh,m.vo,[],m.ko⟩ w':=by
 obtain⟨a1,a2,a3,a4,a5⟩:=h.out3
 have hs:∀b∈mcB K ⟨.slice none 0 0,m.vh,m.vo,[],m.ko⟩,b∈mcB K m:=fun b hb=>by
  rw[zwt] at hb ⊢
  rcases hb with hb|hb|hb|hb
  ·exact .inl hb
  ·cases hb
  ·simp at hb
  ·exact .inr (.inr (.inr hb))
 refine h.upd E hf (fun b hb=>by subst hb;exact zwt.2 (.inl rfl)) hb (RowV.nil _ _ _) trivial (h.hrow.keepB hf a3) (h.hels.keep hf a4) (RowV.keepB h.orow hf a5) ?_ (fun b hb=>.inl (hs b hb))
 have:=h.nodup
 unfold mcB at this ⊢
 refine List.Nodup.sublist ?_ this
 refine List.Sublist.cons_cons _ ?_
 show List.Sublist (([]:List Nat) ++ (([]:List KC).flatMap KC.B ++ _)) _
 simp only[List.nil_append,List.flatMap_nil]
 exact(List.sublist_append_right _ _).trans (List.sublist_append_right _ _)
theorem zwC {A B C B':List Nat} (h:(A ++ (B ++ C)).Nodup) (hB:∀b∈B',b∈B∨(b∉A∧b∉C)) (hn:B'.Nodup):(A ++ (B' ++ C)).Nodup:=by
 have ho:=fun b (hb:b∈A∨b∈C)=>zwr h hb
 rw[List.nodup_append,List.nodup_append] at h ⊢
 obtain⟨h1,⟨_,h3,_⟩,h5⟩:=h
 refine⟨h1,⟨hn,h3,fun a ha b hb e=>?_⟩,fun a ha b hb e=>?_⟩
 ·subst e
  rcases hB a ha with h|h
  ·exact ho a (.inr hb) h
  ·exact h.2 hb
 ·subst e
  rcases List.mem_append.1 hb with hb|hb
  ·rcases hB a hb with h|h
   ·exact ho a (.inl ha) h
   ·exact h.1 ha
  ·exact h5 a ha a (List.mem_append_right _ hb) rfl
theorem McS.newObj (h:McS K n s m w) (E:McE K) {r:Ref} {vf:Value} {xs:List Val} (hr:r.name.size≤maxLen) (hvf:zv8 w vf xs) (hvn:∀q,zcP vf=some q->q∉mcB K m∧K.w0.heap.size≤q) {g' cap':Nat}
  (hrow:RowV w1 tObj 3 (.slice (some ⟨g',0,none⟩) (s.heap.length+1) cap') (s.heap.length+1) (m.ko.flatMap objL.C ++ [.int .i64 r.keeper,.string r.name,vf]))
  (hf:Fr (fun b=>zcP m.vh=some b) w w1) (hor:zcP m.vh=some g'∨g'=w.heap.size) (hcap:s.heap.length+1≤cap'):
  ∃m',McS K n ⟨s.status,s.frames,s.heap ++ [⟨r,xs⟩],s.outs,s.back⟩ m' (w1.setCell ⟨K.mb,4,none⟩ (.slice (some ⟨g',0,none⟩) (s.heap.length+1) cap'))∧m'.kc=m.kc∧m'.vh=.slice (some ⟨g',0,none⟩) (s.heap.length+1) cap'∧(∀b∈mcB K m',b∈mcB K m∨zcP vf=some b∨w.heap.size≤b) ∧
   Fr (fun b=>b∈mcB K m) w (w1.setCell ⟨K.mb,4,none⟩ (.slice (some ⟨g',0,none⟩) (s.heap.length+1) cap')):=by
 obtain⟨a1,a2,a3,a4,a5⟩:=h.out3
 have hst:Fr (fun b=>b=K.mb) w1 (w1.setCell ⟨K.mb,4,none⟩ (.slice (some ⟨g',0,none⟩) (s.heap.length+1) cap')):=Fr.one _ _ _ _
 have hin:∀b,zcP m.vh=some b->b∈mcB K m:=fun b hb=>zwt.2 (.inr (.inr (.inr (.inl (zwv hb)))))
 have hgm:g'≠K.mb:=by
  rcases hor with h9|h9
  ·exact a3 _ (zwv h9)
  ·have:=h.box.lt;omega
 have hvg:∀q,zcP vf=some q->q≠g':=fun q hq e=>by
  subst e
  rcases hor with h9|h9
  ·exact(hvn _ hq).1 (hin _ h9)
  ·have:=RowV.lt hvf hq;omega
 have hq':rowB (.slice (some ⟨g',0,none⟩) (s.heap.length+1) cap')=[g']:=by unfold rowB;rw[zqC (by omega)];rfl
 have hN:((K.mb :: (rowB m.vc ++ m.kc.flatMap KC.B)) ++ ((rowB m.vh ++ m.ko.flatMap KO.B) ++ rowB m.vo)).Nodup:=by
  have:=h.nodup
  unfold mcB at this
  simpa using this
 have ho:=fun b hb=>zwr hN (b:=b) hb
 have hfw:Fr (fun b=>b=K.mb∨zcP m.vh=some b) w (w1.setCell ⟨K.mb,4,none⟩ (.slice (some ⟨g',0,none⟩) (s.heap.length+1) cap')):=(hf.mono (fun b _ h=>.inr h)).same (hst.mono (fun b _ h=>.inl h))
 have hN2:(rowB m.vh ++ m.ko.flatMap KO.B).Nodup:=by
  rw[List.nodup_append,List.nodup_append] at hN
  exact hN.2.1.1
 have hko:∀b∈m.ko.flatMap KO.B,¬zcP m.vh=some b:=fun b hb e=>by
  rw[List.nodup_append] at hN2
  exact hN2.2.2 b (zwv e) b hb rfl
 have hfl:(m.ko ++ [(⟨r,vf⟩:KO)]).flatMap KO.B=m.ko.flatMap KO.B ++ rowB vf:=by rw[List.flatMap_append];simp[KO.B]
 have hbl:∀b∈mcB K ⟨m.vc,.slice (some ⟨g',0,none⟩) (s.heap.length+1) cap',m.vo,m.kc,m.ko ++ [⟨r,vf⟩]⟩,b∈mcB K m∨zcP vf=some b∨w.heap.size≤b:=fun b hb=>by
  rcases zwt.1 hb with hb|hb|hb|hb|hb|hb
  ·exact .inl (zwt.2 (.inl hb))
  ·exact .inl (zwt.2 (.inr (.inl hb)))
  ·exact .inl (zwt.2 (.inr (.inr (.inl hb))))
  ·dsimp only at hb
   rw[hq',List.mem_singleton] at hb
   subst hb
   exact hor.imp (hin _) (fun e=>.inr (by omega))
  ·dsimp only at hb
   rw[hfl,List.mem_append] at hb
   rcases hb with hb|hb
   ·exact .inl (zwt.2 (.inr (.inr (.inr (.inr (.inl hb))))))
   ·exact .inr (.inl (zvT.1 hb))
  ·exact .inl (zwt.2 (.inr (.inr (.inr (.inr (.inr hb))))))
 refine⟨⟨m.vc,.slice (some ⟨g',0,none⟩) (s.heap.length+1) cap',m.vo,m.kc,m.ko ++ [⟨r,vf⟩]⟩,?_,rfl,rfl,hbl,hfw.mono (fun b _ hb=>?_)⟩
 ·have hX:∀b,(b=K.mb∨zcP m.vh=some b)->b∈mcB K m:=fun b hb=>by
   rcases hb with rfl|hb
   ·exact zwt.2 (.inl rfl)
   ·exact hin b hb
  refine { anchor:=h.ancOf hfw (fun b hb=>h.new b (hX b hb)),lg:=h.lgOf E hfw (fun b hb=>h.new b (hX b hb)),box:=(h.box.keepX hf (fun e=>a3 _ (zwv e) rfl)).setc rfl,crow:=?_,cels:=?_,hrow:=?_,hels:=?_,orow:=?_,nodup:=?_,new:=fun b hb=>?_ }
  ·exact h.crow.keepB hfw (fun q hq hx=>by
    rcases hx with hx|hx
    ·exact a1 q hq hx
    ·exact ho q (.inl (by simp[hq])) (List.mem_append_left _ (zwv hx)))
  ·exact h.cels.keep hfw (fun q hq hx=>by
    rcases hx with hx|hx
    ·exact a2 q hq hx
    ·exact ho q (.inl (List.mem_cons_of_mem _ (List.mem_append_right _ hq))) (List.mem_append_left _ (zwv hx)))
  ·have:=hrow.keep hst (fun q hq e=>by rw[zqC (by omega)] at hq;cases hq;exact hgm e)
   show RowV _ tObj 3 _ (s.heap ++ [(⟨r,xs⟩:Obj)]).length ((m.ko ++ [(⟨r,vf⟩:KO)]).flatMap objL.C)
   rw[List.flatMap_append]
   have el:(s.heap ++ [(⟨r,xs⟩:Obj)]).length=s.heap.length+1:=by simp
   rw[el]
   simpa[objL] using this
  ·exact(h.hels.keep hfw (fun q hq hx=>by
    rcases hx with hx|hx
    ·exact a4 q hq hx
    ·exact hko q hq hx)).snoc ⟨rfl,hr,(zv8.keepB hvf hf (fun q hq e=>(hvn q (zvT.1 hq)).1 (hin q e))).keepB hst (fun q hq e=>(hvn q (zvT.1 hq)).1 (by rw[e];exact zwt.2 (.inl rfl)))⟩
  ·exact RowV.keepB h.orow hfw (fun q hq hx=>by
    rcases hx with hx|hx
    ·exact a5 q hq hx
    ·exact ho q (.inr hq) (List.mem_append_left _ (zwv hx)))
  ·have hlt:∀b,b∈K.mb :: (rowB m.vc ++ m.kc.flatMap KC.B)∨b∈rowB m.vo->b∈mcB K m:=fun b hb=>by
    rcases hb with hb|hb
    ·simp only[List.mem_cons,List.mem_append] at hb
     rcases hb with hb|hb|hb
     ·exact zwt.2 (.inl hb)
     ·exact zwt.2 (.inr (.inl hb))
     ·exact zwt.2 (.inr (.inr (.inl hb)))
    ·exact zwt.2 (.inr (.inr (.inr (.inr (.inr hb)))))
   have:=zwC (B':=[g'] ++ (m.ko.flatMap KO.B ++ rowB vf)) hN (fun b hb=>by
    simp only[List.mem_append,List.mem_singleton] at hb
    rcases hb with rfl|hb|hb
    ·rcases hor with h9|h9
     ·exact .inl (List.mem_append_left _ (zwv h9))
     ·exact .inr ⟨fun hx=>by have:=h.lt (hlt _ (.inl hx));omega,fun hx=>by have:=h.lt (hlt _ (.inr hx));omega⟩
    ·exact .inl (List.mem_append_right _ hb)
    ·have h8:=(hvn b (zvT.1 hb)).1
     exact .inr ⟨fun hx=>h8 (hlt _ (.inl hx)),fun hx=>h8 (hlt _ (.inr hx))⟩) (by
    rw[List.singleton_append,List.nodup_cons,List.nodup_append]
    refine⟨fun hx=>?_,(List.nodup_append.1 hN2).2.1,zvU _,fun a ha b hb e=>?_⟩
    ·rcases List.mem_append.1 hx with hx|hx
     ·rcases hor with h9|h9
      ·exact hko _ hx h9
      ·have:=h.lt (zwt.2 (.inr (.inr (.inr (.inr (.inl hx))))));omega
     ·exact hvg _ (zvT.1 hx) rfl
    ·subst e
     exact(hvn a (zvT.1 hb)).1 (zwt.2 (.inr (.inr (.inr (.inr (.inl ha)))))))
   unfold mcB
   rw[hq',hfl]
   simpa using this
  ·rcases hbl b hb with h9|h9|h9
   ·exact h.new b h9
   ·exact(hvn b h9).2
   ·exact Nat.le_trans h.anchor.size h9
 ·rcases hb with rfl|hb
  ·exact zwt.2 (.inl rfl)
  ·exact hin b hb
end
theorem zwD (X:Nat->Prop) (l bl n:Nat) (p:Plan) (g:Int->Str->Option Int) (k:Int) (u:Value) (hs:List Obj) (v:Val) (t:Knd) (w:World) (h:zgF w l bl n p g) (hh:Sl X w 3 (ObjC X w) u hs) (hn:v.kind=2->∃i:Nat,v.n=i∧i<hs.length) (ht:t.name.size≤maxLen):
  Calls Tryz.prog 104 #[.pointer (some ⟨l,0,none⟩),.int .i64 k,u,.agg #[.int .i64 v.kind,.int .i64 v.n],.agg #[.int .i64 t.kind,.string t.name]] w (zgm (hasB p k hs v t) w):=by
 have HF:=fun W (hW:Fr No w W)=>find_ok l bl n p g k t.name W (h.keep hW) ht
 have HU:=fun(i:Nat) (hi:i<hs.length) (ho:hs[i].of_.name.size≤maxLen) W (hW:Fr No w W)=>zdd l bl n p g hs[i].of_ (zmD p k t.name).1 W (h.keep hW) ho
 obtain⟨V,hV⟩:∃V,V=hasB p k hs v t:=⟨_,rfl⟩
 rw[<-hV]
 unfold hasB at hV
 obtain⟨vk,vn⟩:=v
 obtain⟨tk,tn⟩:=t
 obtain⟨A,cap,rfl,_,hlen⟩:=hh.form
 unfold maxLen at hlen
 dsimp only at *
 clear h
 by_cases h1:tk=1
 ·subst h1
  rw[if_pos rfl] at hV
  clear HF HU hh hn
  by_cases h2:vk=1
  ·have hE:Hid (V=true):=by rw[hV];simp[Hid,h2]
   clear hV
   subst h2
   go_enter Tryz.func104,Tryz.ntmps104
   go_wp2
   go_ret
   exact .mk hE.out.symm frc
  ·have hE:Hid (V=false):=by rw[hV];simp[Hid,h2]
   clear hV
   go_enter Tryz.func104,Tryz.ntmps104
   go_wp2
   go_ret
   exact .mk (by rw[hE.out];simp[h2]) frc
 rw[if_neg h1] at hV
 by_cases h3:vk=3
 ·subst h3
  rw[if_pos rfl] at hV
  replace hV:=Lib.hid hV
  clear HF HU hh hn
  go_enter Tryz.func104,Tryz.ntmps104
  go_wp2
  go_ret
  exact .mk hV.out.symm frc
 rw[if_neg h3] at hV
 by_cases h2:vk=2
 ·subst h2
  rw[if_pos rfl] at hV
  obtain⟨i,rfl,hi⟩:=hn rfl
  rw[zv3 hi] at hV
  obtain⟨wA,hwA⟩:∃wA,wA=((w.alloc (.cells #[.int .i64 2,.int .i64 i] 32)).alloc (.cells #[.int .i64 tk,.string tn] 121)):=⟨_,rfl⟩
  have hfA:Fr No w wA:=hwA▸frc
  have K0:=(hwA▸bxc:Bx wA w.heap.size 32 #[.int .i64 2,.int .i64 i])
  have hkw:=fun W (hW:Fr No w W)=>hh.keep (R':=ObjC X W) hW zN (fun _ _ _ h=>h.keep hW zN)
  clear hh hn
  unfold refV at HF
  have HU':=HU i hi
  clear HU
  generalize zem p hs[i].of_ (zmD p k tn).1=U at *
  generalize zmD p k tn=q at *
  obtain⟨⟨qk,qn⟩,qc⟩:=q
  dsimp only at *
  by_cases hc:qc=1
  ·subst hc
   have hE:Hid (V=U):=by rw[hV];simp[Hid]
   clear hV
   go_enter Tryz.func104,Tryz.ntmps104
   go_wp2_with fail
   rw[<-hwA]
   replace hwA:=Lib.hid hwA
   refine(HF _ hfA).mono ?_
   rintro e w1 ⟨rfl,hf1⟩
   go_wp2_with fail
   obtain⟨w2,hw2⟩:∃w2,w2=w1.alloc (.cells #[.int .i64 qk,.string qn] 108):=⟨_,rfl⟩
   rw[<-hw2]
   have hf2:Fr No w1 w2:=hw2▸frc
   have q2:Fr No w w2:=(hfA.trans0 hf1).trans0 hf2
   have B2:Bx w2 w1.heap.size 108 #[.int .i64 qk,.string qn]:=hw2▸bxc
   obtain⟨b,bf,Af,cf,rfl,_,c0,c1,_,z0,_,_,_⟩:=(hkw _ q2).obj hi
   have K2:=(K0.keep (hf1.trans0 hf2)).r2
   have R2:=B2.r2
   have HU2:=fun W (hW:Fr No w2 W)=>HU' z0 W (q2.trans0 hW)
   have c0:=kp c0
   have c1:=kp c1
   clear hw2 hkw HU' HF K0 B2 hf1 hf2
   generalize hs[i]=o at *
   obtain⟨⟨ok,on⟩,fs⟩:=o
   dsimp only at *
   (refine zgc (X:=No) (by kernel_rfl) (by kernel_rfl) ?_)
   (repeat((first|go_big_quiet_skip|(go_big_quiet_want;(apply Exists.intro;refine⟨fun W hW=>?_,?_⟩);(focus (first|exact fqc|(go_simp;first|(go_at_call 157;exact(HU2 W hW).mono (fun _ _ h=>⟨h.1,hW.trans0 h.2⟩)))));go_big_quiet_on));(try simp only[Act.put,lz0,lz1,lz2])));refine wpQuiet_nil ?_
   intro w9 hf9
   clear c0 c1 K2 R2 HU2
   go_wp2
   go_ret
   exact .mk hE.out.symm (q2.trans0 hf9)
  ·have hE:Hid (V=false):=by rw[hV];simp[Hid,hc]
   clear hV HU' hkw
   go_enter Tryz.func104,Tryz.ntmps104
   go_wp2_with fail
   rw[<-hwA]
   replace hwA:=Lib.hid hwA
   refine(HF _ hfA).mono ?_
   rintro e w1 ⟨rfl,hf1⟩
   have q1:Fr No w w1:=hfA.trans0 hf1
   clear HF K0
   have hcb:(qc == 1)=false:=by simpa using hc
   go_wp2_with fail
   (refine zgc (X:=No) (by kernel_rfl) (by kernel_rfl) ?_)
   (repeat((first|go_big_quiet_skip|(go_big_quiet_want;(apply Exists.intro;refine⟨fun W hW=>?_,?_⟩);(focus (exact fqc));go_big_quiet_on));(try simp only[Act.put,lz0,lz1,lz2])));refine wpQuiet_nil ?_
   intro w9 hf9
   go_wp2
   go_ret
   exact .mk hE.out.symm (q1.trans0 ((Fr.refl _ _).alloc _ |>.trans0 hf9))
 ·have hE:Hid (V=false):=by rw[hV,if_neg h2];rfl
  clear HF HU hh hn hV
  go_enter Tryz.func104,Tryz.ntmps104
  go_wp2
  go_ret
  exact .mk hE.out.symm frc
theorem McS.heapSl {K:McP} {n:Nat} {s:St} {m:MLay} {w:World} (h:McS K n s m w):Sl No w 3 (ObjC No w) m.vh s.heap:=
 RowV.slW objL.len h.hrow h.hels.length (fun i h1 h2=>by
  obtain⟨e1,e2,e3⟩:=h.hels.get i h1 h2
  exact⟨_,by simp only[objL,e1],e2,zv8.sl e3 (fun _ _ h=>h)⟩) (fun _ _ h=>h)
def resC (wB:World) (b:Nat) (u v:Value) (j:Nat) (W:World):Prop:=(j=0∧Fr No wB W)∨(j=1∧Fr (fun x=>x=b) wB W∧W.cell? ⟨b,0,none⟩=some u∧W.cell? ⟨b,1,none⟩=some v)
section
variable {wB:World} {b:Nat} {u v:Value}
theorem resC.mono:∀j W W',resC wB b u v j W->Fr No W W'->resC wB b u v j W':=fun j W W' h hf=>by
 rcases h with ⟨h1,h2⟩ | ⟨h1,h2,h3,h4⟩
 ·exact .inl ⟨h1,h2.trans0 hf⟩
 ·exact .inr ⟨h1,h2.trans0 hf,hf.keep0 h3,hf.keep0 h4⟩
theorem resC.g {j:Nat} {W:World} (h:resC wB b u v j W):Fr (fun x=>x=b) wB W:=by
 rcases h with ⟨h1,h2⟩ | ⟨h1,h2,h3,h4⟩
 ·exact h2.of0
 ·exact h2
theorem resC.start:resC wB b u v 0 wB.drew:=.inl ⟨rfl,(Fr.refl No wB).drew⟩
theorem resC.cells {t:TypeId} {u0 v0:Value} (hB:Bx wB b t #[u0,v0]) {j:Nat} (hj:j<1) {W:World} (h:resC wB b u v j W):W.cell? ⟨b,0,none⟩=some u0∧W.cell? ⟨b,1,none⟩=some v0∧(∀i,W.frozen? ⟨b,i,none⟩=false)∧b<W.heap.size:=by
 rcases h with ⟨h1,h2⟩ | ⟨h1,_⟩
 ·have:=hB.keep h2
  exact⟨this.c2.1,this.c2.2,fun i=>this.frozen i,this.lt⟩
 ·omega
theorem resC.put {t:TypeId} {u0 v0:Value} (hB:Bx wB b t #[u0,v0]) {j:Nat} (hj:j<1) {W:World} (h:resC wB b u v j W):resC wB b u v (j+1) ((W.setCell ⟨b,0,none⟩ u).setCell ⟨b,1,none⟩ v):=by
 rcases h with ⟨rfl,h2⟩ | ⟨h1,_⟩
 ·have hb:=((hB.keep h2).set_ 0 u).set_ 1 v
  exact .inr ⟨rfl,h2.of0.same ((Fr.one _ _ _ _).same (Fr.one _ _ _ _)),hb.c2.1,hb.c2.2⟩
 ·omega
theorem resC.done {W:World} (h:resC wB b u v 1 W):Fr (fun x=>x=b) wB W∧W.cell? ⟨b,0,none⟩=some u∧W.cell? ⟨b,1,none⟩=some v:=by
 rcases h with ⟨h1,_⟩ | ⟨_,h⟩
 ·omega
 ·exact h
end
def clsC (K:McP) (n:Nat) (wB:World) (b:Nat) (j:Nat) (W:World):Prop:=Fr (fun x=>x=K.bl∨x=b) wB W∧Lg W K.l K.bl (n+j) K.p∧∃u0 u1,Bx W b 108 #[u0,u1]
def clsS (K:McP) (b:Nat) (u v:Value) (W W':World):Prop:=Fr (fun x=>x=K.bl) W W'∨(W'.cell? ⟨b,0,none⟩=some u∧W'.cell? ⟨b,1,none⟩=some v)
def clsP (b:Nat) (u v:Value):Value->World->Prop:=fun x W=>x=undef∧W.cell? ⟨b,0,none⟩=some u∧W.cell? ⟨b,1,none⟩=some v
section
variable {K:McP} {n:Nat} {wB:World} {b:Nat} {u v:Value}
theorem clsC.mono:∀j W W',clsC K n wB b j W->Fr No W W'->clsC K n wB b j W':=fun _ _ _ ⟨h1,h2,u0,u1,h3⟩ hf=>⟨h1.trans0 hf,h2.keep hf,u0,u1,h3.keep hf⟩
theorem clsP.mono:MonP (clsP b u v):=fun _ _ _ h hf=>⟨h.1,hf.keep0 h.2.1,hf.keep0 h.2.2⟩
theorem clsP.stab (hb:b≠K.bl) {x:Value} {W W':World} (h:clsP b u v x W) (hs:clsS K b u v W W'):clsP b u v x W':=by
 obtain⟨h1,h2,h3⟩:=h
 rcases hs with hs|hs
 ·exact⟨h1,hs.keep (X:=fun x=>x=K.bl) (fun _ h=>h) hb h2,hs.keep (X:=fun x=>x=K.bl) (fun _ h=>h) hb h3⟩
 ·exact⟨h1,hs⟩
theorem clsC.put {E:McE K} {j:Nat} {W:World} (hb:K.w0.heap.size≤b) (h0:Fr K.late K.w0 W) (h:clsC K n wB b j W):clsC K n wB b (j+1) ((W.setCell ⟨b,0,none⟩ u).setCell ⟨b,1,none⟩ v):=by
 obtain⟨h1,h2,u0,u1,h3⟩:=h
 have hst:Fr (fun x=>x=b) W ((W.setCell ⟨b,0,none⟩ u).setCell ⟨b,1,none⟩ v):=(Fr.one _ _ _ _).same (Fr.one _ _ _ _)
 obtain⟨_,hE⟩:=E
 exact⟨h1.trans hst (fun _ _ h=>.inr h),(hE.over2 h2 h0 (hst.mono (fun x _ h=>by subst h;exact hb))).mono (by omega),u,v,(h3.set_ 0 u).set_ 1 v⟩
end
theorem McS.obj {K:McP} {n:Nat} {s:St} {m:MLay} {w:World} (h:McS K n s m w) {i:Nat} (hi:i<s.heap.length):∃g c vf,m.vh=.slice (some ⟨g,0,none⟩) s.heap.length c∧s.heap.length≤c∧c≤maxLen∧s.heap[i].of_.name.size≤maxLen∧zv8 w vf s.heap[i].fields ∧
  ∀W,Fr No w W->W.cell? ⟨g,i * 3,none⟩=some (.int .i64 s.heap[i].of_.keeper)∧W.cell? ⟨g,i * 3+1,none⟩=some (.string s.heap[i].of_.name)∧W.cell? ⟨g,i * 3+2,none⟩=some vf∧g<W.heap.size:=by
 have hl:=h.hels.length
 obtain⟨g,c,cur,hv,h1,h2,hb,_,_,_⟩:=h.hrow.at_ (by omega)
 have hk:i<m.ko.length:=by omega
 obtain⟨e1,e2,e3⟩:=h.hels.get i hk hi
 have hc:=fun j (hj:j<3)=>h.hrow.cell hv (j:=i * 3+j) (by
  have:(i+1) * 3≤s.heap.length * 3:=Nat.mul_le_mul_right _ hi
  omega)
 have hf:=fun j (hj:j<3)=>zqB objL.len m.ko i hk j hj
 have c0:=(hc 0 (by decide)).trans (hf 0 (by decide))
 have c1:=(hc 1 (by decide)).trans (hf 1 (by decide))
 have c2:=(hc 2 (by decide)).trans (hf 2 (by decide))
 rw[Nat.add_zero] at c0
 refine⟨g,c,m.ko[i].vf,hv,h1,h2,e2,e3,fun W hW=>⟨?_,?_,?_,(hb.keep hW).lt⟩⟩
 ·rw[<-e1];exact hW.keep0 c0
 ·rw[<-e1];exact hW.keep0 c1
 ·exact hW.keep0 c2
end Go.Proofs.YtmeaibjmnjcdfaaGreat
