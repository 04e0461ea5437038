/- Rows in memory of one's own, and what an append makes of them. No program is named here. -/
import Derived.Test.YthembcdcdnffeaaGreatEG22
import Derived.OwnWalk
namespace Go.Proofs.YthembcdcdnffeaaGreat
open Go.RowKit
def zcP:Value->Option Nat
 | .slice (some a) _ c=>if c=0 then none else some a.block
 | _=>none
theorem zcQ (a:Addr) (n c:Nat):zcP (.slice (some a) n c)=if c=0 then none else some a.block:=rfl
def RowV (w:World) (e:TypeId) (sz:Nat) (v:Value) (n:Nat) (xs:List Value):Prop:=
 w.ownsRow 0 e sz v n xs∨(n=0∧xs=[]∧∃A,v=.slice (some A) 0 0)
section
variable {X:Nat->Prop} {w w':World} {e:TypeId} {sz n:Nat} {v:Value} {xs:List Value}
theorem RowV.nil (w:World) (e:TypeId) (sz:Nat):RowV w e sz (.slice none 0 0) 0 []:=.inl (World.ownsRow_nil _ _ _ _)
theorem RowV.len (h:RowV w e sz v n xs):xs.length=n * sz:=by
 rcases h with h | ⟨rfl,rfl,_⟩
 ·exact h.1
 ·simp
theorem RowV.form (h:RowV w e sz v n xs):∃A c,v=.slice A n c∧n≤c∧c≤maxLen:=by
 rcases h with ⟨_,⟨rfl,rfl⟩ | ⟨g,cap,cur,rfl,_,_,h1,h2,_⟩⟩ | ⟨rfl,rfl,A,rfl⟩
 ·exact⟨_,_,rfl,Nat.le_refl _,Nat.zero_le _⟩
 ·exact⟨_,_,rfl,h1,h2⟩
 ·exact⟨_,_,rfl,Nat.le_refl _,Nat.zero_le _⟩
theorem RowV.at_ (h:RowV w e sz v n xs) (hn:0<n):∃g c cur,v=.slice (some ⟨g,0,none⟩) n c∧n≤c∧c≤maxLen∧Bx w g e cur∧cur.size=c * sz∧cur.toList.take (n * sz)=xs∧zcP v=some g:=by
 rcases h with ⟨_,⟨rfl,rfl⟩ | ⟨g,cap,cur,rfl,_,hb,h1,h2,h3,h4⟩⟩ | ⟨rfl,rfl,A,rfl⟩
 ·omega
 ·exact⟨g,cap,cur,rfl,h1,h2,hb,h3,h4,by rw[zcQ,if_neg (by omega)]⟩
 ·omega
theorem RowV.cell (h:RowV w e sz v n xs) {g c:Nat} (hv:v=.slice (some ⟨g,0,none⟩) n c) {j:Nat} (hj:j<n * sz):w.cell? ⟨g,j,none⟩=xs[j]?:=by
 have h0:0<n:=Nat.pos_of_ne_zero (fun h0=>by rw[h0] at hj;simp at hj)
 obtain⟨g',c',cur,he,h1,h2,hb,h3,h4,_⟩:=h.at_ h0
 rw[hv] at he
 simp only[Value.slice.injEq,Option.some.injEq,Addr.mk.injEq,and_true,true_and] at he
 obtain⟨rfl,rfl⟩:=he
 rw[hb.cell,<-h4,List.getElem?_take,if_pos hj]
 simp
theorem RowV.lt (h:RowV w e sz v n xs) {q:Nat} (hq:zcP v=some q):q<w.heap.size:=by
 rcases h with ⟨_,⟨rfl,rfl⟩ | ⟨g,cap,cur,rfl,_,hb,h1,h2,h3,h4⟩⟩ | ⟨rfl,rfl,A,rfl⟩
 ·cases hq
 ·have hb':Bx w g e cur:=hb
  rw[zcQ] at hq
  split at hq
  ·cases hq
  ·cases hq;exact hb'.lt
 ·rw[zcQ,if_pos rfl] at hq;cases hq
theorem RowV.keep (h:RowV w e sz v n xs) (hf:Fr X w w') (hX:∀q,zcP v=some q->¬X q):RowV w' e sz v n xs:=by
 rcases h with ⟨hl,⟨rfl,rfl⟩ | ⟨g,cap,cur,rfl,hg,hb,h1,h2,h3,h4⟩⟩ | ⟨rfl,rfl,A,rfl⟩
 ·exact .inl ⟨hl,.inl ⟨rfl,rfl⟩⟩
 ·have hb':Bx w g e cur:=hb
  by_cases hc:cap=0
  ·subst hc
   have hn:n=0:=by omega
   subst hn
   exact .inr ⟨rfl,List.eq_nil_of_length_eq_zero (by simpa using hl),_,rfl⟩
  ·exact .inl ⟨hl,.inr ⟨g,cap,cur,rfl,hg,hb'.keepX hf (hX g (by rw[zcQ,if_neg hc])),h1,h2,h3,h4⟩⟩
 ·exact .inr ⟨rfl,rfl,A,rfl⟩
theorem RowV.keep0 (h:RowV w e sz v n xs) (hf:Fr No w w'):RowV w' e sz v n xs:=h.keep hf (fun _ _ h=>h)
theorem RowV.ne (h:RowV w e sz v n xs) {b:Nat} {t:TypeId} {cs:Array Value} (hb:Bx w b t cs) (hne:e≠t) {q:Nat} (hq:zcP v=some q):q≠b:=by
 rcases h with ⟨_,⟨rfl,rfl⟩ | ⟨g,cap,cur,rfl,_,h2,_⟩⟩ | ⟨rfl,rfl,A,rfl⟩
 ·cases hq
 ·have h2':Bx w g e cur:=h2
  rw[zcQ] at hq
  split at hq
  ·cases hq
  ·cases hq
   rintro rfl
   unfold Bx at hb h2'
   rw[h2'] at hb
   simp at hb
   exact hne hb.2
 ·rw[zcQ,if_pos rfl] at hq;cases hq
theorem RowV.cut {g c:Nat} (h:RowV w e sz (.slice (some ⟨g,0,none⟩) (n+1) c) (n+1) xs):RowV w e sz (.slice (some ⟨g,0,none⟩) n c) n (xs.take (n * sz)):=by
 have hl:=h.len
 obtain⟨g',c',cur,he,h1,h2,hb,h3,h4,_⟩:=h.at_ (by omega)
 simp only[Value.slice.injEq,Option.some.injEq,Addr.mk.injEq,and_true,true_and] at he
 obtain⟨rfl,rfl⟩:=he
 have hle:n * sz≤(n+1) * sz:=Nat.mul_le_mul_right _ (by omega)
 exact .inl ⟨by rw[List.length_take,hl];omega,.inr ⟨g,c,cur,rfl,Nat.zero_le _,hb,by omega,h2,h3,by rw[<-h4,List.take_take,Nat.min_eq_left hle]⟩⟩
end
section
variable {P:Program} (w:World)
theorem zcR (t ty e:TypeId) (i:TypeInfo) (z:Value) (size bytes:Nat) (ht:P.underlying t=some (.slice e)) (hi:P.info? e=some i) (hz:i.zero=some z)
  (hsize:i.size=size) (hby:i.bytes=bytes) (hzs:z.cells.size=size) (hsz:0<size)
  (v:Value) (n:Nat) (xs:List Value) (hown:RowV w e size v n xs)
  (a:Addr) (m c:Nat) (news:List Value) (hl:news.length=m * size) (hnews:∀j u,news[j]? =some u->w.cell? (a.add j)=some u) (h1:∀u∈news,u.oneCell'=true) (hm:0<m)
  (h63:n+m≤maxLen) (hbytes:(n+m) * bytes≤140737488355328):
  ∃g' cap' w',(Builtin.append_ #[t,t] ty #[v,.slice (some a) m c]).run P w=.ok (.slice (some ⟨g',0,none⟩) (n+m) cap') w'∧RowV w' e size (.slice (some ⟨g',0,none⟩) (n+m) cap') (n+m) (xs ++ news)∧n+m≤cap'∧Fr (fun b=>zcP v=some b) w w'∧(zcP v=some g'∨g'=w.heap.size):=by
 have hlen:(xs ++ news).length=(n+m) * size:=by rw[List.length_append,hown.len,hl,Nat.add_mul]
 have h64:n+m≤9223372036854775807:=by unfold maxLen at h63;omega
 rcases hown with hown | ⟨rfl,rfl,A,rfl⟩
 ·obtain⟨v',w',hr,h2,h3,h4⟩:=run_append_own (P:=P) w 0 t ty e i z size bytes ht hi hz hsize hby hzs hsz v n xs hown a m c news hl hnews h1 h63 hbytes (Nat.zero_le _)
  subst hsize hby
  rcases hown.2 with ⟨rfl,rfl⟩ | ⟨g,cap,cur,rfl,_,hg,hnc,hcm,hcs,htake⟩
  ·have hx:xs=[]:=List.eq_nil_of_length_eq_zero (by simpa using hown.1)
   subst hx
   have hr2:=run_append_nil (P:=P) w t ty e i z ht hi hz a m c news hl hnews hm (by omega) (by simp only[Nat.zero_add] at hbytes;omega)
   rw[hr] at hr2
   cases hr2
   simp only[Nat.zero_add] at h2 ⊢
   exact⟨_,_,_,hr,.inl h2,grownCap_ge _ _ _ _,(Fr.refl _ w).grown h3 (fun k e=>by cases e),.inr rfl⟩
  ·have hb:Bx w g e cur:=hg
   by_cases hroom:n+m≤cap
   ·have hc0:cap≠0:=by omega
    have hfit:n * i.size+news.length≤cur.size:=by rw[hl,hcs,<-Nat.add_mul];exact Nat.mul_le_mul_right _ hroom
    have hr2:=run_append_room (P:=P) w t ty e i ht hi g n cap cur hg a m c news hl hnews h1 hroom hfit
    rw[hr] at hr2
    cases hr2
    exact⟨_,_,_,hr,.inl h2,hroom,(Fr.refl _ w).grown h3 (fun k e=>.inr (by rw[zcQ,if_neg hc0];exact e)),.inl (by rw[zcQ,if_neg hc0])⟩
   ·have holds:∀j u,xs[j]? =some u->w.cell? ((⟨g,0,none⟩:Addr).add j)=some u:=hown.cells (g:=g) rfl
    have hr2:=run_append_grow (P:=P) w t ty e i z ht hi hz ⟨g,0,none⟩ n cap xs hown.1 holds a m c news hl hnews (by omega) (by omega) (growslice_fits (by omega) hbytes)
    rw[hr] at hr2
    cases hr2
    exact⟨_,_,_,hr,.inl h2,grownCap_ge _ _ _ _,((Fr.refl _ w).drew.alloc _),.inr rfl⟩
 ·subst hsize hby
  have hr:=run_append_grow (P:=P) w t ty e i z ht hi hz A 0 0 [] (by simp) (by simp) a m c news hl hnews (by omega) (by omega) (growslice_fits (by omega) hbytes)
  refine⟨_,_,_,hr,.inl ⟨hlen,.inr ⟨w.heap.size,_,_,rfl,Nat.zero_le _,heap_alloc_new w.drew _,grownCap_ge _ _ _ _,grownCap_le_maxLen _ _ _ _ h63,?_,?_⟩⟩,grownCap_ge _ _ _ _,((Fr.refl _ w).drew.alloc _),.inr rfl⟩
  ·have hge:=grownCap_ge w (0+m) 0 e
   simp only[Array.size_append,List.size_toArray,List.length_nil,size_zeroCells,hzs,hl,<-Nat.add_mul,Nat.zero_add] at hge ⊢
   congr 1
   omega
  ·rw[Array.toList_append,Array.toList_append,<-hlen]
   simp
theorem zcS {ops:Array Oper} {rest:List Oper} {o:Oper} {a:Act} {Q:Exit->Act->World->Prop} (hgd:o.guard=none) (s x:Operand) (t:TypeId)
  (ho:o.op=.call { callee:=.builtin .append,args:=#[s,x],argTypes:=#[t,t] })
  (e:TypeId) (i:TypeInfo) (z:Value) (size bytes:Nat) (ht:P.underlying t=some (.slice e)) (hi:P.info? e=some i) (hz:i.zero=some z)
  (hsize:i.size=size) (hby:i.bytes=bytes) (hzs:z.cells.size=size) (hsz:0<size)
  (v:Value) (n:Nat) (xs:List Value) (hs:a.eval s=v) (hown:RowV w e size v n xs)
  (ad:Addr) (m c:Nat) (news:List Value) (hx:a.eval x=.slice (some ad) m c) (hl:news.length=m * size) (hnews:∀j u,news[j]? =some u->w.cell? (ad.add j)=some u) (h1:∀u∈news,u.oneCell'=true) (hm:0<m)
  (h63:n+m≤maxLen) (hbytes:(n+m) * bytes≤140737488355328)
  (h:∀g' cap' w',RowV w' e size (.slice (some ⟨g',0,none⟩) (n+m) cap') (n+m) (xs ++ news)->n+m≤cap'->Fr (fun b=>zcP v=some b) w w'->(zcP v=some g'∨g'=w.heap.size)->wpList P ops Q rest (a.put o.dst (.slice (some ⟨g',0,none⟩) (n+m) cap')) w'):wpList P ops Q (o :: rest) a w:=
 wpList_plain hgd fun K hK=>by
  obtain⟨g',cap',w',hr,h2,h3,h4,h5⟩:=zcR (P:=P) w t o.type e i z size bytes ht hi hz hsize hby hzs hsz v n xs hown ad m c news hl hnews h1 hm h63 hbytes
  unfold Oper.wp execOp
  simp only[ho,resolve,invoke,builtin,Sem.run_bind,Sem.run_pure,Result.andThen_ok,List.map_toArray,List.map_cons,List.map_nil,hs,hx,hr]
  exact hK _ _ (h g' cap' w' h2 h3 h4 h5)
theorem zcT (t ty e:TypeId) (i:TypeInfo) (ht:P.underlying t=some (.slice e)) (hi:P.info? e=some i) (A B:Option Addr) (c:Nat):
  (Builtin.append_ #[t,t] ty #[.slice A 0 0,.slice B 0 c]).run P w=.ok (.slice A 0 0) w:=by
 have hl:∀b:Addr,(loadCells b 0).run P w=.ok #[] w:=fun b=>by simp[loadCells,loadCellsFrom]
 cases A<;>cases B<;>simp[Builtin.append_,run_underlying ht,sizeOf,typeInfo,hi,Builtin.lenOf,Builtin.firstCells,hl,storeCells]
end
theorem Bx.news {w:World} {b:Nat} {t:TypeId} {cs:List Value} (h:Bx w b t cs.toArray):∀j u,cs[j]? =some u->w.cell? ((⟨b,0,none⟩:Addr).add j)=some u:=by
 intro j u hu
 have e:(⟨b,0,none⟩:Addr).add j=⟨b,j,none⟩:=by
  unfold Addr.add
  by_cases hj:j=0
  ·subst hj;rfl
  ·rw[if_neg hj];simp
 rw[e,h.cell]
 simpa using hu
def zcU (t:Tag):List Value:=[.int .i64 t.kind,.string t.name]
theorem zcV:∀(pre:List Tag) (k:Nat) (hk:k<pre.length) (j:Nat),j<2->(pre.flatMap zcU)[k * 2+j]? =(zcU pre[k])[j]?
 | a :: pre,0,_,j,hj=>by
  rw[List.flatMap_cons,List.getElem?_append_left (by simp[zcU];omega)]
  simp
 | a :: pre,k+1,hk,j,hj=>by
  rw[List.flatMap_cons,List.getElem?_append_right (by simp[zcU];omega)]
  have:=zcV pre k (by simpa using hk) j hj
  have e:(k+1) * 2+j-(zcU a).length=k * 2+j:=by simp[zcU];omega
  rw[e,this]
  simp
theorem zcW (xs:List Tag):(xs.flatMap zcU).length=xs.length * 2:=by
 induction xs with
 | nil=>rfl
 | cons x xs ih=>rw[List.flatMap_cons,List.length_append,ih,List.length_cons];simp[zcU];omega
def zcX (w:World) (e:TypeId) (v:Value) (xs:List Tag):Prop:=RowV w e 2 v xs.length (xs.flatMap zcU)∧∀x∈xs,x.name.size≤maxLen
section
variable {X:Nat->Prop} {w w':World} {e:TypeId} {v:Value} {xs:List Tag}
theorem zcX.keep (h:zcX w e v xs) (hf:Fr X w w') (hX:∀q,zcP v=some q->¬X q):zcX w' e v xs:=⟨h.1.keep hf hX,h.2⟩
theorem zcX.sl (h:zcX w e v xs) (hX:∀q,zcP v=some q->¬X q):Sl X w 2 TagC v xs:=by
 obtain⟨h,hn⟩:=h
 obtain⟨A,c,rfl,h1,h2⟩:=h.form
 refine⟨A,c,rfl,h1,by omega,fun h0=>?_⟩
 obtain⟨g,c',cur,he,_,_,hb,h3,h4,hq⟩:=h.at_ h0
 cases he
 refine⟨g,0,rfl,hX g hq,fun k hk=>⟨zcU xs[k],⟨rfl,hn _ (List.getElem_mem hk)⟩,rfl,fun j hj=>?_⟩⟩
 rw[Nat.zero_add,h.cell rfl (by omega),zcV xs k hk j hj]
theorem zcX.cut {x:Tag} {g n c:Nat} (h:zcX w e (.slice (some ⟨g,0,none⟩) n c) (xs ++ [x])):zcX w e (.slice (some ⟨g,0,none⟩) (n-1) c) xs:=by
 obtain⟨h,hn⟩:=h
 have e1:(xs ++ [x]).length=xs.length+1:=by simp
 rw[e1] at h
 have hv:=h.form
 obtain⟨A,c',he,_⟩:=hv
 cases he
 have h2:=h.cut
 rw[List.flatMap_append,List.take_append_of_le_length (by rw[zcW];exact Nat.le_refl _),List.take_of_length_le (by rw[zcW];exact Nat.le_refl _)] at h2
 exact⟨h2,fun y hy=>hn y (by simp[hy])⟩
end
def opsL:List Int:=[1,2,3,4,5,6,7,8,9,10,11,12,13,14,15]
def zn3 (c:List Ins):Prop:=∀i∈c,opsL.contains i.op=true
theorem zn4 {o:Int} (h:opsL.contains o=true):o=1∨o=2∨o=3∨o=4∨o=5∨o=6∨o=7∨o=8∨o=9∨o=10∨o=11∨o=12∨o=13∨o=14∨o=15:=by simpa[opsL] using h
theorem zgF.over2 {w w1 w':World} {l bl n m:Nat} {p:Plan} {g g1:Int->Str->Option Int} (h:zgF w l bl n p g) (h1:zgF w1 l bl m p g1) (hf:Fr (fun b=>b=bl∨w.heap.size≤b) w w1) (hf':Fr (fun b=>w.heap.size≤b) w1 w'):zgF w' l bl m p g1:=by
 obtain⟨h0,A,cap,bo,ba,k1,k2,k3,k4,k5,k6,k7,k8⟩:=h
 obtain⟨_,_,_,_,_,_,_,_,_,_,_,_,q8⟩:=h1
 have hb:=k8.lt
 have F:Fr (fun b=>b=bl∨w.heap.size≤b) w w':=hf.trans hf' (fun b _ h=>.inr h)
 have nb:∀b,b<w.heap.size->b≠bl->¬(b=bl∨w.heap.size≤b):=fun b h1 h2 h=>by rcases h with h|h<;>omega
 refine⟨h0,A,cap,bo,ba,k1.keepX F (nb l k1.lt k2),k2,k3,k4,?_,k6.keepX F (nb bo k6.lt k3),k7.keepX F (nb ba k7.lt k4),q8.keepX hf' (by omega)⟩
 have k5':=((k5.oldX (R':=KprC (fun b=>b=bl∨w.heap.size≤b) w) (by decide) (fun _ _ _ h=>h.oldX)).keep (R':=KprC (fun b=>b=bl∨w.heap.size≤b) w') F (fun _ h=>h) (fun _ _ _ h=>h.keep F (fun _ h=>h)))
 exact k5'.weaken (fun _ h=>.inl h) (fun _ _ _ h=>h.weaken (fun _ h=>.inl h))
theorem Lg.over2 {w w1 w':World} {l bl n m:Nat} {p:Plan} (h:Lg w l bl n p) (h1:Lg w1 l bl m p) (hf:Fr (fun b=>b=bl∨w.heap.size≤b) w w1) (hf':Fr (fun b=>w.heap.size≤b) w1 w'):Lg w' l bl m p:=by
 obtain⟨g,h,_⟩:=h
 obtain⟨g1,h1,h2⟩:=h1
 exact⟨g1,h.over2 h1 hf hf',h2⟩
structure LkP where
 w0:World
 l:Nat
 bl:Nat
 kb:Nat
 p:Plan
 k:Nat
 m:Mth
 va:Value
 vc:Value
 vm:Value
structure LkE (K:LkP):Prop where
 lg:∃n,Lg K.w0 K.l K.bl n K.p
 has:K.k<K.p.keepers.length
 args:Sl (fun b=>b=K.bl) K.w0 2 KndC K.va K.m.args
 code:Sl (fun b=>b=K.bl) K.w0 4 InsC K.vc K.m.code
 maps:Sl (fun b=>b=K.bl) K.w0 3 (MapC (fun b=>b=K.bl) K.w0) K.vm K.m.maps
 ok:mthB K.m=true
 ret:K.m.ret.name.size≤maxLen
 ops:zn3 K.m.code
def LkP.late (K:LkP) (b:Nat):Prop:=b=K.bl∨K.w0.heap.size≤b
def lkC (K:LkP) (j:Int) (vl vs:Value):Array Value:=#[.pointer (some ⟨K.l,0,none⟩),.int .i64 K.k,.string K.m.name,K.va,.int .i64 K.m.ret.kind,.string K.m.ret.name,.int .i64 K.m.locals,.int .i64 K.m.stack,K.vc,K.vm,.int .i64 j,vl,vs]
abbrev tTag:TypeId:=116
abbrev zeY:TypeId:=115
structure LkS (K:LkP) (n:Nat) (Z:Nat->Prop) (j:Int) (f:Frm) (vl vs:Value) (w:World):Prop where
 anchor:Fr K.late K.w0 w
 lg:Lg w K.l K.bl n K.p
 box:Bx w K.kb zeY (lkC K j vl vs)
 z:∀b,Z b->K.late b∧b<w.heap.size
 zbl:Z K.bl
 zkb:Z K.kb
 kb:K.w0.heap.size≤K.kb
 loc:zcX w tTag vl f.locals
 stk:zcX w tTag vs f.stack
 zl:∀q,zcP vl=some q->Z q∧K.w0.heap.size≤q
 zs:∀q,zcP vs=some q->Z q∧K.w0.heap.size≤q
 apart:∀q,zcP vl=some q->zcP vs=some q->False
 ll:(f.locals.length:Int)=K.m.locals
 sl:(f.stack.length:Int)≤K.m.stack
section
variable {K:LkP} {n:Nat} {Z:Nat->Prop} {j:Int} {f:Frm} {vl vs:Value} {w w':World}
theorem Fr.one (w:World) (b o:Nat) (u:Value):Fr (fun x=>x=b) w (w.setCell ⟨b,o,none⟩ u):=(Fr.refl (fun x=>x=b) w).setCellX (p:=⟨b,o,none⟩) (by rfl) u
theorem LkE.bl_lt (E:LkE K):K.bl<K.w0.heap.size:=let ⟨_,h⟩:=E.lg;h.lt
theorem LkE.okp (E:LkE K):lodB K.p=true:=let ⟨_,h⟩:=E.lg;h.ok
theorem Fr.late (h:Fr K.late K.w0 w) {X:Nat->Prop} (hf:Fr X w w') (hX:∀b,X b->K.late b):Fr K.late K.w0 w':=h.trans hf (fun b _ hx=>hX b hx)
theorem Sl.late {α:Type} {sz:Nat} {R R':List Value->α->Prop} {v:Value} {xs:List α} (h:Sl (fun b=>b=K.bl) K.w0 sz R v xs) (hsz:0<sz) (hf:Fr K.late K.w0 w) (hR:∀cs x,x∈xs->R cs x->R' cs x):Sl K.late w sz R' v xs:=by
 have h1:=h.oldX (R':=R') hsz hR
 exact(h1.weaken (Y:=K.late) (fun _ h=>h) (fun _ _ _ h=>h)).keep hf (fun _ h=>h) (fun _ _ _ h=>h)
theorem LkE.args_at (E:LkE K) (hf:Fr K.late K.w0 w):Sl K.late w 2 KndC K.va K.m.args:=E.args.late (by decide) hf (fun _ _ _ h=>h)
theorem LkE.code_at (E:LkE K) (hf:Fr K.late K.w0 w):Sl K.late w 4 InsC K.vc K.m.code:=E.code.late (by decide) hf (fun _ _ _ h=>h)
theorem LkE.maps_at (E:LkE K) (hf:Fr K.late K.w0 w):Sl K.late w 3 (MapC K.late w) K.vm K.m.maps:=
 E.maps.late (by decide) hf (fun _ _ _ h=>(h.oldX.weaken (Y:=K.late) (fun _ h=>h)).keep hf (fun _ h=>h))
theorem LkS.lt (h:LkS K n Z j f vl vs w) {b:Nat} (hb:Z b):b<w.heap.size:=(h.z b hb).2
theorem LkS.far (h:LkS K n Z j f vl vs w) (E:LkE K) {X:Nat->Prop} (hf:Fr X w w') (hX:∀b,X b->K.w0.heap.size≤b∧¬Z b):LkS K n Z j f vl vs w' where
 anchor:=h.anchor.late hf (fun b hb=>.inr (hX b hb).1)
 lg:=let ⟨_,h0⟩:=E.lg;h0.over2 h.lg h.anchor (hf.mono (fun b _ hb=>(hX b hb).1))
 box:=h.box.keepX hf (fun hx=>(hX _ hx).2 h.zkb)
 z:=fun b hb=>⟨(h.z b hb).1,Nat.lt_of_lt_of_le (h.z b hb).2 hf.size⟩
 zbl:=h.zbl
 zkb:=h.zkb
 kb:=h.kb
 loc:=h.loc.keep hf (fun q hq hx=>(hX _ hx).2 (h.zl q hq).1)
 stk:=h.stk.keep hf (fun q hq hx=>(hX _ hx).2 (h.zs q hq).1)
 zl:=h.zl
 zs:=h.zs
 apart:=h.apart
 ll:=h.ll
 sl:=h.sl
theorem LkS.keep (h:LkS K n Z j f vl vs w) (E:LkE K) (hf:Fr No w w'):LkS K n Z j f vl vs w':=h.far E hf zN
theorem LkS.mono (h:LkS K n Z j f vl vs w) {m:Nat} (hm:n≤m):LkS K m Z j f vl vs w:={ h with lg:=h.lg.mono hm }
end
def LkOk (K:LkP) (n:Nat) (Z:Nat->Prop) (j:Int) (f:Frm) (w w':World):Prop:=
 ∃Z' vl vs,LkS K n Z' j f vl vs w'∧(∀b,Z b->Z' b)∧(∀b,Z' b->Z b∨w.heap.size≤b)∧Fr Z w w'
def zeZ (j:Int):List PanicEntry:=[{ v:=.iface 120 (.agg #[.int .i64 (j+1)]),recovered:=false }]
def LkNo (K:LkP) (n:Nat) (Z:Nat->Prop) (j:Int) (c:List PanicEntry) (w w':World):Prop:=c=zeZ j∧Fr K.late K.w0 w'∧Lg w' K.l K.bl n K.p∧Fr Z w w'
def ze0 (K:LkP) (n:Nat) (Z:Nat->Prop) (j:Int) (o:Option Frm) (w:World) (e:Ending) (w':World):Prop:=
 match o with
 | some f=>e=.returned (.tuple #[])∧LkOk K n Z j f w w'
 | none=>∃c,e=.panicked c∧LkNo K n Z j c w w'
section
variable {K:LkP} {n n':Nat} {Z:Nat->Prop} {j:Int} {f f':Frm} {vl vs:Value} {w w':World}
theorem LkOk.mk (h:LkS K n Z j f vl vs w') (hf:Fr Z w w'):LkOk K n Z j f w w':=⟨Z,vl,vs,h,fun _ h=>h,fun _ h=>.inl h,hf⟩
theorem LkOk.refl (h:LkS K n Z j f vl vs w):LkOk K n Z j f w w:=.mk h (Fr.refl _ _)
theorem LkOk.from {a:World} (ha:Fr No a w) (h:LkOk K n Z j f w w'):LkOk K n Z j f a w':=by
 obtain⟨Z',vl,vs,h1,h2,h3,h4⟩:=h
 exact⟨Z',vl,vs,h1,h2,fun b hb=>(h3 b hb).imp id (fun h=>Nat.le_trans ha.size h),ha.of0.same h4⟩
theorem LkOk.to {w2:World} (E:LkE K) (h:LkOk K n Z j f w w') (hf:Fr No w' w2):LkOk K n Z j f w w2:=by
 obtain⟨Z',vl,vs,h1,h2,h3,h4⟩:=h
 exact⟨Z',vl,vs,h1.keep E hf,h2,h3,h4.trans0 hf⟩
theorem LkOk.then {Z1:Nat->Prop} {w1:World} (hz:∀b,Z b->Z1 b) (hz':∀b,Z1 b->Z b∨w.heap.size≤b) (hf:Fr Z w w1) (h:LkOk K n Z1 j f w1 w'):LkOk K n Z j f w w':=by
 obtain⟨Z',vl,vs,h1,h2,h3,h4⟩:=h
 refine⟨Z',vl,vs,h1,fun b hb=>h2 b (hz b hb),fun b hb=>?_,hf.trans h4 (fun b hb hz1=>(hz' b hz1).resolve_right (by omega))⟩
 rcases h3 b hb with h|h
 ·exact hz' b h
 ·exact .inr (Nat.le_trans hf.size h)
theorem LkOk.out {a w2:World} {X:Nat->Prop} (E:LkE K) (ha:Fr No a w) (h:LkOk K n Z j f w w') (hf:Fr X w' w2) (hX:∀b,X b->a.heap.size≤b∧b<w.heap.size) (hZ:∀b,Z b->b<a.heap.size) (h0:K.w0.heap.size≤a.heap.size):LkOk K n Z j f a w2:=by
 obtain⟨Z',vl,vs,h1,h2,h3,h4⟩:=h
 refine⟨Z',vl,vs,h1.far E hf (fun b hb=>⟨by have:=hX b hb;omega,fun hz=>?_⟩),h2,fun b hb=>(h3 b hb).imp id (fun h=>Nat.le_trans ha.size h),(ha.of0.same h4).trans hf (fun b hb hx=>by have:=hX b hx;omega)⟩
 have:=hX b hb
 rcases h3 b hz with h|h
 ·have:=hZ b h;omega
 ·omega
theorem LkOk.mono {m:Nat} (h:LkOk K n Z j f w w') (hm:n≤m):LkOk K m Z j f w w':=by
 obtain⟨Z',vl,vs,h1,h2⟩:=h
 exact⟨Z',vl,vs,h1.mono hm,h2⟩
theorem LkS.no (h:LkS K n Z j f vl vs w):LkNo K n Z j (zeZ j) w w:=⟨rfl,h.anchor,h.lg,Fr.refl _ _⟩
theorem LkNo.from {a:World} {c:List PanicEntry} (ha:Fr No a w) (h:LkNo K n Z j c w w'):LkNo K n Z j c a w':=⟨h.1,h.2.1,h.2.2.1,ha.of0.same h.2.2.2⟩
theorem LkNo.then {Z1:Nat->Prop} {w1:World} {c:List PanicEntry} (hz':∀b,Z1 b->Z b∨w.heap.size≤b) (hf:Fr Z w w1) (h:LkNo K n Z1 j c w1 w'):LkNo K n Z j c w w':=⟨h.1,h.2.1,h.2.2.1,hf.trans h.2.2.2 (fun b hb hz1=>(hz' b hz1).resolve_right (by omega))⟩
theorem LkNo.mono {m:Nat} {c:List PanicEntry} (h:LkNo K n Z j c w w') (hm:n≤m):LkNo K m Z j c w w':=⟨h.1,h.2.1,h.2.2.1.mono hm,h.2.2.2⟩
theorem LkS.next {Y Z':Nat->Prop} {j':Int} {vl' vs':Value} (h:LkS K n Z j f vl vs w) (E:LkE K) (hf:Fr Y w w') (hY:∀b,Y b->Z b∧K.w0.heap.size≤b)
  (hz:∀b,Z b->Z' b) (hz':∀b,Z' b->Z b∨(w.heap.size≤b∧b<w'.heap.size)) (hb:Bx w' K.kb zeY (lkC K j' vl' vs'))
  (hl:zcX w' tTag vl' f'.locals) (hs:zcX w' tTag vs' f'.stack) (hzl:∀q,zcP vl'=some q->Z' q∧K.w0.heap.size≤q) (hzs:∀q,zcP vs'=some q->Z' q∧K.w0.heap.size≤q) (hap:∀q,zcP vl'=some q->zcP vs'=some q->False) (hll:(f'.locals.length:Int)=K.m.locals) (hsl:(f'.stack.length:Int)≤K.m.stack):
  LkOk K n Z j' f' w w':=by
 have hz2:∀b,Z' b->K.late b∧b<w'.heap.size:=fun b hb=>by
  rcases hz' b hb with h1 | ⟨h1,h2⟩
  ·exact⟨(h.z b h1).1,Nat.lt_of_lt_of_le (h.z b h1).2 hf.size⟩
  ·exact⟨.inr (Nat.le_trans h.anchor.size h1),h2⟩
 exact⟨Z',vl',vs',{ anchor:=h.anchor.late hf (fun b hb=>.inr (hY b hb).2),lg:=(let ⟨_,h0⟩:=E.lg;h0.over2 h.lg h.anchor (hf.mono (fun b _ hb=>(hY b hb).2))),box:=hb,z:=hz2,zbl:=hz _ h.zbl,zkb:=hz _ h.zkb,kb:=h.kb,loc:=hl,stk:=hs,zl:=hzl,zs:=hzs,apart:=hap,ll:=hll,sl:=hsl },
  hz,fun b hb=>(hz' b hb).imp id (fun h=>h.1),hf.mono (fun b _ hb=>(hY b hb).1)⟩
end
section
variable {K:LkP} {n:Nat} {Z:Nat->Prop} {j:Int} {f:Frm} {vl vs:Value} {w:World}
theorem LkS.cells (h:LkS K n Z j f vl vs w):∀W,Fr No w W->W.cell? ⟨K.kb,0,none⟩=some (.pointer (some ⟨K.l,0,none⟩))∧W.cell? ⟨K.kb,1,none⟩=some (.int .i64 K.k)∧W.cell? ⟨K.kb,4,none⟩=some (.int .i64 K.m.ret.kind)∧W.cell? ⟨K.kb,5,none⟩=some (.string K.m.ret.name) ∧
  W.cell? ⟨K.kb,7,none⟩=some (.int .i64 K.m.stack)∧W.cell? ⟨K.kb,8,none⟩=some K.vc∧W.cell? ⟨K.kb,9,none⟩=some K.vm∧W.cell? ⟨K.kb,10,none⟩=some (.int .i64 j)∧W.cell? ⟨K.kb,11,none⟩=some vl∧W.cell? ⟨K.kb,12,none⟩=some vs∧(∀i,W.frozen? ⟨K.kb,i,none⟩=false)∧K.kb<W.heap.size:=fun W hW=>by
 have hb:=h.box.keep hW
 exact⟨hb.cell 0,hb.cell 1,hb.cell 4,hb.cell 5,hb.cell 7,hb.cell 8,hb.cell 9,hb.cell 10,hb.cell 11,hb.cell 12,fun i=>hb.frozen i,hb.lt⟩
theorem ze1 (xs:List Tag) (x:Tag):zcD (xs ++ [x])=some (x,xs):=by simp[zcD]
theorem ze2 (xs:List Tag):(xs=[]∧zcD xs=none)∨∃ys x,xs=ys ++ [x]∧zcD xs=some (x,ys):=by
 rcases List.eq_nil_or_concat xs with rfl | ⟨ys,x,rfl⟩
 ·exact .inl ⟨rfl,rfl⟩
 ·exact .inr ⟨ys,x,by simp,by rw[List.concat_eq_append];exact ze1 _ _⟩
end
theorem ze3 (ys:List Tag) (x:Tag) (j:Nat) (hj:j<2):((ys ++ [x]).flatMap zcU)[ys.length * 2+j]? =(zcU x)[j]?:=by
 rw[zcV (ys ++ [x]) ys.length (by simp) j hj];simp
theorem zcX.top {w:World} {e:TypeId} {v:Value} {ys:List Tag} {x:Tag} (h:zcX w e v (ys ++ [x])):∃g c,v=.slice (some ⟨g,0,none⟩) (ys.length+1) c∧zcP v=some g∧ys.length+1≤c∧c≤maxLen ∧
  w.cell? ⟨g,ys.length * 2,none⟩=some (.int .i64 x.kind)∧w.cell? ⟨g,ys.length * 2+1,none⟩=some (.string x.name)∧x.name.size≤maxLen:=by
 obtain⟨h,hn⟩:=h
 have el:(ys ++ [x]).length=ys.length+1:=by simp
 obtain⟨g,c,cur,rfl,h1,h2,_,_,_,hq⟩:=h.at_ (by omega)
 rw[el] at h h1 hq ⊢
 refine⟨g,c,rfl,hq,h1,h2,?_,?_,hn x (by simp)⟩
 ·rw[h.cell rfl (by omega)];exact ze3 ys x 0 (by decide)
 ·rw[h.cell rfl (by omega)];exact ze3 ys x 1 (by decide)
def ze4 (K:LkP) (n:Nat) (Z:Nat->Prop) (j:Int) (f:Frm) (vl:Value) (o:Option (Tag×List Tag)) (w:World) (e:Ending) (w':World):Prop:=
 match o with
 | some (x,r)=>e=.returned (.agg #[.int .i64 x.kind,.string x.name])∧x.name.size≤maxLen∧w'.cell? ⟨K.kb,11,none⟩=some vl∧LkOk K n Z j ⟨f.locals,r⟩ w w'
 | none=>∃c,e=.panicked c∧LkNo K n Z j c w w'
section
variable {K:LkP} {n:Nat} {Z:Nat->Prop} {j:Int} {f:Frm} {vl vs:Value} {w:World}
theorem ze5:tTag≠zeY:=by decide
theorem LkS.box_ne (h:LkS K n Z j f vl vs w):(∀q,zcP vl=some q->q≠K.kb)∧(∀q,zcP vs=some q->q≠K.kb):=
 ⟨fun _ hq=>h.loc.1.ne h.box ze5 hq,fun _ hq=>h.stk.1.ne h.box ze5 hq⟩
theorem LkS.push (h:LkS K n Z j f vl vs w) (E:LkE K) {x:Tag} (hx:x.name.size≤maxLen) {g' cap':Nat} {w1:World} (hrow:RowV w1 tTag 2 (.slice (some ⟨g',0,none⟩) (f.stack.length+1) cap') (f.stack.length+1) (f.stack.flatMap zcU ++ zcU x))
  (hf:Fr (fun b=>zcP vs=some b) w w1) (hor:zcP vs=some g'∨g'=w.heap.size) (hcap:f.stack.length+1≤cap') (hpm:(f.stack.length:Int)<K.m.stack):LkOk K n Z j ⟨f.locals,f.stack ++ [x]⟩ w (w1.setCell ⟨K.kb,12,none⟩ (.slice (some ⟨g',0,none⟩) (f.stack.length+1) cap')):=by
 have hne:=h.box_ne
 have hb1:=h.box.keepX hf (fun e=>hne.2 _ e rfl)
 have hgl:g'<w1.heap.size:=hrow.lt (by rw[zcQ,if_neg (by omega)])
 have hgk:g'≠K.kb:=by
  rcases hor with h1|h1
  ·exact hne.2 _ h1
  ·have:=h.box.lt;omega
 have hw0:K.w0.heap.size≤g':=by
  rcases hor with h1|h1
  ·exact(h.zs _ h1).2
  ·rw[h1];exact h.anchor.size
 have hst:Fr (fun b=>b=K.kb) w1 (w1.setCell ⟨K.kb,12,none⟩ (.slice (some ⟨g',0,none⟩) (f.stack.length+1) cap')):=Fr.one _ _ _ _
 have hq':zcP (.slice (some ⟨g',0,none⟩) (f.stack.length+1) cap')=some g':=by rw[zcQ,if_neg (by omega)]
 refine h.next (Y:=fun b=>zcP vs=some b∨b=K.kb) (Z':=fun b=>Z b∨b=g') E ((hf.mono (fun b _ h=>.inl h)).same (hst.mono (fun b _ h=>.inr h))) (fun b hb=>?_) (fun b h=>.inl h) (fun b hb=>?_) (hb1.setc rfl) ?_ ⟨?_,fun y hy=>?_⟩ (fun q hq=>⟨.inl (h.zl q hq).1,(h.zl q hq).2⟩) (fun q hq=>?_) (fun q hq hq2=>?_) h.ll (by simp;omega)
 ·rcases hb with hb|rfl
  ·exact h.zs b hb
  ·exact⟨h.zkb,h.kb⟩
 ·rcases hb with hb|rfl
  ·exact .inl hb
  ·rcases hor with h1|h1
   ·exact .inl (h.zs _ h1).1
   ·exact .inr ⟨by omega,Nat.lt_of_lt_of_le hgl hst.size⟩
 ·exact(h.loc.keep hf (fun q hq e=>h.apart q hq e)).keep hst (fun q hq e=>hne.1 q hq e)
 ·have:=hrow.keep hst (fun q hq e=>by rw[hq'] at hq;cases hq;exact hgk e)
  simpa[List.flatMap_append] using this
 ·rcases List.mem_append.1 hy with hy|hy
  ·exact h.stk.2 y hy
  ·rw[List.mem_singleton.1 hy];exact hx
 ·rw[hq'] at hq
  cases hq
  exact⟨.inr rfl,hw0⟩
 ·rw[hq'] at hq2
  cases hq2
  rcases hor with h1|h1
  ·exact h.apart _ hq h1
  ·have:=h.loc.1.lt hq;omega
theorem LkS.pop {ys:List Tag} {x:Tag} {g c:Nat} (h:LkS K n Z j f vl (.slice (some ⟨g,0,none⟩) (ys.length+1) c) w) (E:LkE K) (h0:f.stack=ys ++ [x]):
  LkOk K n Z j ⟨f.locals,ys⟩ w (w.setCell ⟨K.kb,12,none⟩ (.slice (some ⟨g,0,none⟩) ys.length c)):=by
 have hne:=h.box_ne
 have hst:Fr (fun b=>b=K.kb) w (w.setCell ⟨K.kb,12,none⟩ (.slice (some ⟨g,0,none⟩) ys.length c)):=Fr.one _ _ _ _
 have hs:=h.stk
 rw[h0] at hs
 have hcut:=hs.cut
 rw[Nat.add_sub_cancel] at hcut
 have hqq:∀q,zcP (.slice (some ⟨g,0,none⟩) ys.length c)=some q->zcP (.slice (some ⟨g,0,none⟩) (ys.length+1) c)=some q:=fun q hq=>hq
 exact h.next (Y:=fun b=>b=K.kb) (Z':=Z) E hst (fun b hb=>by subst hb;exact⟨h.zkb,h.kb⟩) (fun b h=>h) (fun b h=>.inl h) (h.box.setc rfl) (h.loc.keep hst (fun q hq e=>hne.1 q hq e)) (hcut.keep hst (fun q hq e=>hne.2 q (hqq q hq) e)) h.zl (fun q hq=>h.zs q (hqq q hq)) (fun q h1 h2=>h.apart q h1 (hqq q h2)) h.ll (by have:=h.sl;rw[h0] at this;simp at this;simp;omega)
theorem LkS.at_ (h:LkS K n Z j f vl vs w) (E:LkE K) (j':Int):LkS K n Z j' f vl vs (w.setCell ⟨K.kb,10,none⟩ (.int .i64 j'))∧Fr Z w (w.setCell ⟨K.kb,10,none⟩ (.int .i64 j')):=by
 have hne:=h.box_ne
 have hst:Fr (fun b=>b=K.kb) w (w.setCell ⟨K.kb,10,none⟩ (.int .i64 j')):=Fr.one _ _ _ _
 refine⟨{ anchor:=h.anchor.late hst (fun b hb=>.inr (by subst hb;exact h.kb)),lg:=(let ⟨_,h0⟩:=E.lg;h0.over2 h.lg h.anchor (hst.mono (fun b _ hb=>by subst hb;exact h.kb))),box:=h.box.setc rfl,z:=fun b hb=>⟨(h.z b hb).1,Nat.lt_of_lt_of_le (h.z b hb).2 hst.size⟩,zbl:=h.zbl,zkb:=h.zkb,kb:=h.kb,loc:=h.loc.keep hst (fun q hq e=>hne.1 q hq e),stk:=h.stk.keep hst (fun q hq e=>hne.2 q hq e),zl:=h.zl,zs:=h.zs,apart:=h.apart,ll:=h.ll,sl:=h.sl },hst.mono (fun b _ hb=>by subst hb;exact h.zkb)⟩
theorem ze6:∀(ys:List Tag) (i:Nat) (x:Tag),i<ys.length->((ys.flatMap zcU).set (i * 2) (.int .i64 x.kind)).set (i * 2+1) (.string x.name)=(ys.set i x).flatMap zcU
 | y :: ys,0,x,_=>by simp[zcU]
 | y :: ys,i+1,x,h=>by
  have e1:(i+1) * 2=i * 2+1+1:=by omega
  rw[lz2,List.flatMap_cons,List.flatMap_cons,<-ze6 ys i x (by simpa using h),e1]
  simp[zcU]
theorem LkS.setLoc {g c:Nat} (h:LkS K n Z j f (.slice (some ⟨g,0,none⟩) f.locals.length c) vs w) (E:LkE K) {i:Nat} (hi:i<f.locals.length) {x:Tag} (hx:x.name.size≤maxLen):
  LkOk K n Z j ⟨f.locals.set i x,f.stack⟩ w ((w.setCell ⟨g,i * 2,none⟩ (.int .i64 x.kind)).setCell ⟨g,i * 2+1,none⟩ (.string x.name)):=by
 have hne:=h.box_ne
 have hst:Fr (fun b=>b=g) w ((w.setCell ⟨g,i * 2,none⟩ (.int .i64 x.kind)).setCell ⟨g,i * 2+1,none⟩ (.string x.name)):=(Fr.one _ _ _ _).same (Fr.one _ _ _ _)
 obtain⟨g',c',cur,he,h1,h2,hb,h3,h4,hq⟩:=h.loc.1.at_ (by omega)
 cases he
 have hb':Bx ((w.setCell ⟨g,i * 2,none⟩ (.int .i64 x.kind)).setCell ⟨g,i * 2+1,none⟩ (.string x.name)) g tTag ((cur.setIfInBounds (i * 2) (.int .i64 x.kind)).setIfInBounds (i * 2+1) (.string x.name)):=(hb.set_ _ _).set_ _ _
 have hrow:RowV ((w.setCell ⟨g,i * 2,none⟩ (.int .i64 x.kind)).setCell ⟨g,i * 2+1,none⟩ (.string x.name)) tTag 2 (.slice (some ⟨g,0,none⟩) f.locals.length c) (f.locals.set i x).length ((f.locals.set i x).flatMap zcU):=by
  refine .inl ⟨by rw[zcW],.inr ⟨g,c,_,by simp,Nat.zero_le _,hb',by simpa using h1,h2,by simpa using h3,?_⟩⟩
  rw[<-ze6 _ _ _ hi,<-h4]
  simp[List.take_set]
 exact h.next (Y:=fun b=>b=g) (Z':=Z) E hst (fun b hb=>by subst hb;exact h.zl _ hq) (fun b h=>h) (fun b h=>.inl h) (h.box.keepX hst (fun e=>hne.1 _ hq e.symm)) ⟨hrow,fun y hy=>by
  rcases List.mem_or_eq_of_mem_set hy with hy|rfl
  ·exact h.loc.2 y hy
  ·exact hx⟩ (h.stk.keep hst (fun q hq2 e=>by subst e;exact h.apart _ hq hq2)) (fun q hq=>h.zl q hq) h.zs (fun q h1 h2=>h.apart q h1 h2) (by simpa using h.ll) h.sl
theorem LkS.newLoc (h:LkS K n Z j f vl vs w) (E:LkE K) {v:Value} {xs:List Tag} (hv:zcX w tTag v xs) (hx:(xs.length:Int)=K.m.locals) (hnew:∀q,zcP v=some q->K.w0.heap.size≤q∧¬Z q) (Y:Nat->Prop) (hY:∀q,zcP v=some q->Y q):
  ∃Z',LkS K n Z' j ⟨xs,f.stack⟩ v vs (w.setCell ⟨K.kb,11,none⟩ v)∧(∀b,Z b->Z' b)∧(∀b,Z' b->Z b∨Y b)∧Fr Z w (w.setCell ⟨K.kb,11,none⟩ v):=by
 have hne:=h.box_ne
 have hst:Fr (fun b=>b=K.kb) w (w.setCell ⟨K.kb,11,none⟩ v):=Fr.one _ _ _ _
 refine⟨fun b=>Z b∨zcP v=some b,{ anchor:=h.anchor.late hst (fun b hb=>.inr (by subst hb;exact h.kb)),lg:=(let ⟨_,h0⟩:=E.lg;h0.over2 h.lg h.anchor (hst.mono (fun b _ hb=>by subst hb;exact h.kb))),box:=h.box.setc rfl,z:=fun b hb=>?_,zbl:=.inl h.zbl,zkb:=.inl h.zkb,kb:=h.kb,loc:=hv.keep hst (fun q hq e=>?_),stk:=h.stk.keep hst (fun q hq e=>hne.2 q hq e),zl:=fun q hq=>⟨.inr hq,(hnew q hq).1⟩,zs:=fun q hq=>⟨.inl (h.zs q hq).1,(h.zs q hq).2⟩,apart:=fun q h1 h2=>(hnew q h1).2 (h.zs q h2).1,ll:=hx,sl:=h.sl },fun b h=>.inl h,fun b hb=>hb.imp id (fun h=>hY b h),hst.mono (fun b _ hb=>by subst hb;exact h.zkb)⟩
 ·rcases hb with hb|hb
  ·exact⟨(h.z b hb).1,Nat.lt_of_lt_of_le (h.z b hb).2 hst.size⟩
  ·exact⟨.inr (hnew b hb).1,Nat.lt_of_lt_of_le (hv.1.lt hb) hst.size⟩
 ·subst e;exact(hnew _ hq).2 h.zkb
theorem LkS.newStk (h:LkS K n Z j f vl vs w) (E:LkE K) {v:Value} {xs:List Tag} (hv:zcX w tTag v xs) (hx:(xs.length:Int)≤K.m.stack) (hnew:∀q,zcP v=some q->K.w0.heap.size≤q∧¬Z q) (Y:Nat->Prop) (hY:∀q,zcP v=some q->Y q):
  ∃Z',LkS K n Z' j ⟨f.locals,xs⟩ vl v (w.setCell ⟨K.kb,12,none⟩ v)∧(∀b,Z b->Z' b)∧(∀b,Z' b->Z b∨Y b)∧Fr Z w (w.setCell ⟨K.kb,12,none⟩ v):=by
 have hne:=h.box_ne
 have hst:Fr (fun b=>b=K.kb) w (w.setCell ⟨K.kb,12,none⟩ v):=Fr.one _ _ _ _
 refine⟨fun b=>Z b∨zcP v=some b,{ anchor:=h.anchor.late hst (fun b hb=>.inr (by subst hb;exact h.kb)),lg:=(let ⟨_,h0⟩:=E.lg;h0.over2 h.lg h.anchor (hst.mono (fun b _ hb=>by subst hb;exact h.kb))),box:=h.box.setc rfl,z:=fun b hb=>?_,zbl:=.inl h.zbl,zkb:=.inl h.zkb,kb:=h.kb,loc:=h.loc.keep hst (fun q hq e=>hne.1 q hq e),stk:=hv.keep hst (fun q hq e=>?_),zl:=fun q hq=>⟨.inl (h.zl q hq).1,(h.zl q hq).2⟩,zs:=fun q hq=>⟨.inr hq,(hnew q hq).1⟩,apart:=fun q h1 h2=>(hnew q h2).2 (h.zl q h1).1,ll:=h.ll,sl:=hx },fun b h=>.inl h,fun b hb=>hb.imp id (fun h=>hY b h),hst.mono (fun b _ hb=>by subst hb;exact h.zkb)⟩
 ·rcases hb with hb|hb
  ·exact⟨(h.z b hb).1,Nat.lt_of_lt_of_le (h.z b hb).2 hst.size⟩
  ·exact⟨.inr (hnew b hb).1,Nat.lt_of_lt_of_le (hv.1.lt hb) hst.size⟩
 ·subst e;exact(hnew _ hq).2 h.zkb
end
theorem ze7 {m:Mth} (h:mthB m=true):m.args.length≤3∧kndB m.ret=true∧(∀a∈m.args,kndB a=true)∧(m.args.length:Int)+1≤m.locals∧m.locals≤6∧1≤m.stack∧m.stack≤5∧zfW m=true∧zf4 m=true:=by
 unfold mthB at h
 simp only[lz5,decide_eq_true_eq,List.all_eq_true] at h
 obtain⟨⟨⟨⟨⟨⟨⟨⟨⟨_,h1⟩,h2⟩,h3⟩,h4⟩,h5⟩,h6⟩,h7⟩,h8⟩,h9⟩:=h
 exact⟨h1,h2,h3,h4,h5,h6,h7,h8,h9⟩
theorem LkE.stack_le {K:LkP} (E:LkE K):K.m.stack≤5:=(ze7 E.ok).2.2.2.2.2.2.1
theorem LkE.locals_le {K:LkP} (E:LkE K):1≤K.m.locals∧K.m.locals≤6:=by
 obtain⟨_,_,_,h1,h2,_⟩:=ze7 E.ok
 omega
theorem ze8:(Tryz.prog.info? 116).map (fun i=>(i.zero,i.size,i.bytes))=some (some (.agg #[.int .i64 0,.string ⟨#[]⟩]),2,24):=by kernel_rfl
theorem Sl.news {X:Nat->Prop} {w:World} {b off n cap:Nat} {xs:List Tag} (h:Sl X w 2 TagC (.slice (some ⟨b,off,none⟩) n cap) xs):∀j u,(xs.flatMap zcU)[j]? =some u->w.cell? ((⟨b,off,none⟩:Addr).add j)=some u:=by
 intro j u hu
 have e:(⟨b,off,none⟩:Addr).add j=⟨b,off+j,none⟩:=by
  unfold Addr.add
  by_cases hj:j=0
  ·subst hj;rfl
  ·rw[if_neg hj]
 have hj:j<xs.length * 2:=by
  have:=(List.getElem?_eq_some_iff.1 hu).1
  rwa [zcW] at this
 have hk:j / 2<xs.length:=by omega
 obtain⟨b',off',cs,hA,_,⟨rfl,_⟩,hc⟩:=h.cells hk
 simp only[Option.some.injEq,Addr.mk.injEq,and_true] at hA
 obtain⟨rfl,rfl⟩:=hA
 have h2:=zcV xs (j / 2) hk (j % 2) (by omega)
 rw[show j / 2 * 2+j % 2=j by omega] at h2
 rw[h2] at hu
 rw[e]
 have:=hc (j % 2) u (by omega) hu
 rw[<-this]
 congr 2
 omega
theorem Sl.small {X:Nat->Prop} {w:World} {v:Value} {xs:List Tag} (h:Sl X w 2 TagC v xs):∀x∈xs,x.name.size≤maxLen:=by
 intro x hx
 obtain⟨A,cap,rfl,_⟩:=h.form
 obtain⟨k,hk,rfl⟩:=List.mem_iff_getElem.1 hx
 obtain⟨b,off,cs,_,_,hR,_⟩:=h.cells hk
 exact hR.2
end Go.Proofs.YthembcdcdnffeaaGreat
