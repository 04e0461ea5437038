/- Rows in memory of one's own, and what an append makes of them. No program is named here. -/
import Derived.Test.YtpghfhjhjlmljaaGreatPG1
import Derived.OwnWalk
namespace Go.Proofs.YtpghfhjhjlmljaaGreat
open Go.RowKit
def zcP:Value->Option Nat
 | .slice (some a) _ c=>if c=0 then none else some a.block
 | _=>none
theorem zcQ (a:Addr) (n c:Nat):zcP (.slice (some a) n c)=if c=0 then none else some a.block:=rfl
def RowV (w:World) (e:TypeId) (sz:Nat) (v:Value) (n:Nat) (xs:List Value):Prop:=
 w.ownsRow 0 e sz v n xs∨(n=0∧xs=[]∧∃A,v=.slice (some A) 0 0)
section
variable {X:Nat->Prop} {w w':World} {e:TypeId} {sz n:Nat} {v:Value} {xs:List Value}
theorem RowV.nil (w:World) (e:TypeId) (sz:Nat):RowV w e sz (.slice none 0 0) 0 []:=.inl (World.ownsRow_nil _ _ _ _)
theorem RowV.len (h:RowV w e sz v n xs):xs.length=n * sz:=by
 rcases h with h | ⟨rfl,rfl,_⟩
 ·exact h.1
 ·simp
theorem RowV.form (h:RowV w e sz v n xs):∃A c,v=.slice A n c∧n≤c∧c≤maxLen:=by
 rcases h with ⟨_,⟨rfl,rfl⟩ | ⟨g,cap,cur,rfl,_,_,h1,h2,_⟩⟩ | ⟨rfl,rfl,A,rfl⟩
 ·exact⟨_,_,rfl,Nat.le_refl _,Nat.zero_le _⟩
 ·exact⟨_,_,rfl,h1,h2⟩
 ·exact⟨_,_,rfl,Nat.le_refl _,Nat.zero_le _⟩
theorem RowV.at_ (h:RowV w e sz v n xs) (hn:0<n):∃g c cur,v=.slice (some ⟨g,0,none⟩) n c∧n≤c∧c≤maxLen∧Bx w g e cur∧cur.size=c * sz∧cur.toList.take (n * sz)=xs∧zcP v=some g:=by
 rcases h with ⟨_,⟨rfl,rfl⟩ | ⟨g,cap,cur,rfl,_,hb,h1,h2,h3,h4⟩⟩ | ⟨rfl,rfl,A,rfl⟩
 ·omega
 ·exact⟨g,cap,cur,rfl,h1,h2,hb,h3,h4,by rw[zcQ,if_neg (by omega)]⟩
 ·omega
theorem RowV.cell (h:RowV w e sz v n xs) {g c:Nat} (hv:v=.slice (some ⟨g,0,none⟩) n c) {j:Nat} (hj:j<n * sz):w.cell? ⟨g,j,none⟩=xs[j]?:=by
 have h0:0<n:=Nat.pos_of_ne_zero (fun h0=>by rw[h0] at hj;simp at hj)
 obtain⟨g',c',cur,he,h1,h2,hb,h3,h4,_⟩:=h.at_ h0
 rw[hv] at he
 simp only[Value.slice.injEq,Option.some.injEq,Addr.mk.injEq,and_true,true_and] at he
 obtain⟨rfl,rfl⟩:=he
 rw[hb.cell,<-h4,List.getElem?_take,if_pos hj]
 simp
theorem RowV.lt (h:RowV w e sz v n xs) {q:Nat} (hq:zcP v=some q):q<w.heap.size:=by
 rcases h with ⟨_,⟨rfl,rfl⟩ | ⟨g,cap,cur,rfl,_,hb,h1,h2,h3,h4⟩⟩ | ⟨rfl,rfl,A,rfl⟩
 ·cases hq
 ·have hb':Bx w g e cur:=hb
  rw[zcQ] at hq
  split at hq
  ·cases hq
  ·cases hq;exact hb'.lt
 ·rw[zcQ,if_pos rfl] at hq;cases hq
theorem RowV.keep (h:RowV w e sz v n xs) (hf:Fr X w w') (hX:∀q,zcP v=some q->¬X q):RowV w' e sz v n xs:=by
 rcases h with ⟨hl,⟨rfl,rfl⟩ | ⟨g,cap,cur,rfl,hg,hb,h1,h2,h3,h4⟩⟩ | ⟨rfl,rfl,A,rfl⟩
 ·exact .inl ⟨hl,.inl ⟨rfl,rfl⟩⟩
 ·have hb':Bx w g e cur:=hb
  by_cases hc:cap=0
  ·subst hc
   have hn:n=0:=by omega
   subst hn
   exact .inr ⟨rfl,List.eq_nil_of_length_eq_zero (by simpa using hl),_,rfl⟩
  ·exact .inl ⟨hl,.inr ⟨g,cap,cur,rfl,hg,hb'.keepX hf (hX g (by rw[zcQ,if_neg hc])),h1,h2,h3,h4⟩⟩
 ·exact .inr ⟨rfl,rfl,A,rfl⟩
theorem RowV.keep0 (h:RowV w e sz v n xs) (hf:Fr No w w'):RowV w' e sz v n xs:=h.keep hf (fun _ _ h=>h)
theorem RowV.ne (h:RowV w e sz v n xs) {b:Nat} {t:TypeId} {cs:Array Value} (hb:Bx w b t cs) (hne:e≠t) {q:Nat} (hq:zcP v=some q):q≠b:=by
 rcases h with ⟨_,⟨rfl,rfl⟩ | ⟨g,cap,cur,rfl,_,h2,_⟩⟩ | ⟨rfl,rfl,A,rfl⟩
 ·cases hq
 ·have h2':Bx w g e cur:=h2
  rw[zcQ] at hq
  split at hq
  ·cases hq
  ·cases hq
   rintro rfl
   unfold Bx at hb h2'
   rw[h2'] at hb
   simp at hb
   exact hne hb.2
 ·rw[zcQ,if_pos rfl] at hq;cases hq
theorem RowV.cut {g c:Nat} (h:RowV w e sz (.slice (some ⟨g,0,none⟩) (n+1) c) (n+1) xs):RowV w e sz (.slice (some ⟨g,0,none⟩) n c) n (xs.take (n * sz)):=by
 have hl:=h.len
 obtain⟨g',c',cur,he,h1,h2,hb,h3,h4,_⟩:=h.at_ (by omega)
 simp only[Value.slice.injEq,Option.some.injEq,Addr.mk.injEq,and_true,true_and] at he
 obtain⟨rfl,rfl⟩:=he
 have hle:n * sz≤(n+1) * sz:=Nat.mul_le_mul_right _ (by omega)
 exact .inl ⟨by rw[List.length_take,hl];omega,.inr ⟨g,c,cur,rfl,Nat.zero_le _,hb,by omega,h2,h3,by rw[<-h4,List.take_take,Nat.min_eq_left hle]⟩⟩
end
section
variable {P:Program} (w:World)
theorem zcR (t ty e:TypeId) (i:TypeInfo) (z:Value) (size bytes:Nat) (ht:P.underlying t=some (.slice e)) (hi:P.info? e=some i) (hz:i.zero=some z)
  (hsize:i.size=size) (hby:i.bytes=bytes) (hzs:z.cells.size=size) (hsz:0<size)
  (v:Value) (n:Nat) (xs:List Value) (hown:RowV w e size v n xs)
  (a:Addr) (m c:Nat) (news:List Value) (hl:news.length=m * size) (hnews:∀j u,news[j]? =some u->w.cell? (a.add j)=some u) (h1:∀u∈news,u.oneCell'=true) (hm:0<m)
  (h63:n+m≤maxLen) (hbytes:(n+m) * bytes≤140737488355328):
  ∃g' cap' w',(Builtin.append_ #[t,t] ty #[v,.slice (some a) m c]).run P w=.ok (.slice (some ⟨g',0,none⟩) (n+m) cap') w'∧RowV w' e size (.slice (some ⟨g',0,none⟩) (n+m) cap') (n+m) (xs ++ news)∧n+m≤cap'∧Fr (fun b=>zcP v=some b) w w'∧(zcP v=some g'∨g'=w.heap.size):=by
 have hlen:(xs ++ news).length=(n+m) * size:=by rw[List.length_append,hown.len,hl,Nat.add_mul]
 have h64:n+m≤9223372036854775807:=by unfold maxLen at h63;omega
 rcases hown with hown | ⟨rfl,rfl,A,rfl⟩
 ·obtain⟨v',w',hr,h2,h3,h4⟩:=run_append_own (P:=P) w 0 t ty e i z size bytes ht hi hz hsize hby hzs hsz v n xs hown a m c news hl hnews h1 h63 hbytes (Nat.zero_le _)
  subst hsize hby
  rcases hown.2 with ⟨rfl,rfl⟩ | ⟨g,cap,cur,rfl,_,hg,hnc,hcm,hcs,htake⟩
  ·have hx:xs=[]:=List.eq_nil_of_length_eq_zero (by simpa using hown.1)
   subst hx
   have hr2:=run_append_nil (P:=P) w t ty e i z ht hi hz a m c news hl hnews hm (by omega) (by simp only[Nat.zero_add] at hbytes;omega)
   rw[hr] at hr2
   cases hr2
   simp only[Nat.zero_add] at h2 ⊢
   exact⟨_,_,_,hr,.inl h2,grownCap_ge _ _ _ _,(Fr.refl _ w).grown h3 (fun k e=>by cases e),.inr rfl⟩
  ·have hb:Bx w g e cur:=hg
   by_cases hroom:n+m≤cap
   ·have hc0:cap≠0:=by omega
    have hfit:n * i.size+news.length≤cur.size:=by rw[hl,hcs,<-Nat.add_mul];exact Nat.mul_le_mul_right _ hroom
    have hr2:=run_append_room (P:=P) w t ty e i ht hi g n cap cur hg a m c news hl hnews h1 hroom hfit
    rw[hr] at hr2
    cases hr2
    exact⟨_,_,_,hr,.inl h2,hroom,(Fr.refl _ w).grown h3 (fun k e=>.inr (by rw[zcQ,if_neg hc0];exact e)),.inl (by rw[zcQ,if_neg hc0])⟩
   ·have holds:∀j u,xs[j]? =some u->w.cell? ((⟨g,0,none⟩:Addr).add j)=some u:=hown.cells (g:=g) rfl
    have hr2:=run_append_grow (P:=P) w t ty e i z ht hi hz ⟨g,0,none⟩ n cap xs hown.1 holds a m c news hl hnews (by omega) (by omega) (growslice_fits (by omega) hbytes)
    rw[hr] at hr2
    cases hr2
    exact⟨_,_,_,hr,.inl h2,grownCap_ge _ _ _ _,((Fr.refl _ w).drew.alloc _),.inr rfl⟩
 ·subst hsize hby
  have hr:=run_append_grow (P:=P) w t ty e i z ht hi hz A 0 0 [] (by simp) (by simp) a m c news hl hnews (by omega) (by omega) (growslice_fits (by omega) hbytes)
  refine⟨_,_,_,hr,.inl ⟨hlen,.inr ⟨w.heap.size,_,_,rfl,Nat.zero_le _,heap_alloc_new w.drew _,grownCap_ge _ _ _ _,grownCap_le_maxLen _ _ _ _ h63,?_,?_⟩⟩,grownCap_ge _ _ _ _,((Fr.refl _ w).drew.alloc _),.inr rfl⟩
  ·have hge:=grownCap_ge w (0+m) 0 e
   simp only[Array.size_append,List.size_toArray,List.length_nil,size_zeroCells,hzs,hl,<-Nat.add_mul,Nat.zero_add] at hge ⊢
   congr 1
   omega
  ·rw[Array.toList_append,Array.toList_append,<-hlen]
   simp
theorem zcS {ops:Array Oper} {rest:List Oper} {o:Oper} {a:Act} {Q:Exit->Act->World->Prop} (hgd:o.guard=none) (s x:Operand) (t:TypeId)
  (ho:o.op=.call { callee:=.builtin .append,args:=#[s,x],argTypes:=#[t,t] })
  (e:TypeId) (i:TypeInfo) (z:Value) (size bytes:Nat) (ht:P.underlying t=some (.slice e)) (hi:P.info? e=some i) (hz:i.zero=some z)
  (hsize:i.size=size) (hby:i.bytes=bytes) (hzs:z.cells.size=size) (hsz:0<size)
  (v:Value) (n:Nat) (xs:List Value) (hs:a.eval s=v) (hown:RowV w e size v n xs)
  (ad:Addr) (m c:Nat) (news:List Value) (hx:a.eval x=.slice (some ad) m c) (hl:news.length=m * size) (hnews:∀j u,news[j]? =some u->w.cell? (ad.add j)=some u) (h1:∀u∈news,u.oneCell'=true) (hm:0<m)
  (h63:n+m≤maxLen) (hbytes:(n+m) * bytes≤140737488355328)
  (h:∀g' cap' w',RowV w' e size (.slice (some ⟨g',0,none⟩) (n+m) cap') (n+m) (xs ++ news)->n+m≤cap'->Fr (fun b=>zcP v=some b) w w'->(zcP v=some g'∨g'=w.heap.size)->wpList P ops Q rest (a.put o.dst (.slice (some ⟨g',0,none⟩) (n+m) cap')) w'):wpList P ops Q (o :: rest) a w:=
 wpList_plain hgd fun K hK=>by
  obtain⟨g',cap',w',hr,h2,h3,h4,h5⟩:=zcR (P:=P) w t o.type e i z size bytes ht hi hz hsize hby hzs hsz v n xs hown ad m c news hl hnews h1 hm h63 hbytes
  unfold Oper.wp execOp
  simp only[ho,resolve,invoke,builtin,Sem.run_bind,Sem.run_pure,Result.andThen_ok,List.map_toArray,List.map_cons,List.map_nil,hs,hx,hr]
  exact hK _ _ (h g' cap' w' h2 h3 h4 h5)
theorem zcT (t ty e:TypeId) (i:TypeInfo) (ht:P.underlying t=some (.slice e)) (hi:P.info? e=some i) (A B:Option Addr) (c:Nat):
  (Builtin.append_ #[t,t] ty #[.slice A 0 0,.slice B 0 c]).run P w=.ok (.slice A 0 0) w:=by
 have hl:∀b:Addr,(loadCells b 0).run P w=.ok #[] w:=fun b=>by simp[loadCells,loadCellsFrom]
 cases A<;>cases B<;>simp[Builtin.append_,run_underlying ht,sizeOf,typeInfo,hi,Builtin.lenOf,Builtin.firstCells,hl,storeCells]
end
theorem Bx.news {w:World} {b:Nat} {t:TypeId} {cs:List Value} (h:Bx w b t cs.toArray):∀j u,cs[j]? =some u->w.cell? ((⟨b,0,none⟩:Addr).add j)=some u:=by
 intro j u hu
 have e:(⟨b,0,none⟩:Addr).add j=⟨b,j,none⟩:=by
  unfold Addr.add
  by_cases hj:j=0
  ·subst hj;rfl
  ·rw[if_neg hj];simp
 rw[e,h.cell]
 simpa using hu
def zcU (t:Tag):List Value:=[.int .i64 t.kind,.string t.name]
theorem zcV:∀(pre:List Tag) (k:Nat) (hk:k<pre.length) (j:Nat),j<2->(pre.flatMap zcU)[k * 2+j]? =(zcU pre[k])[j]?
 | a :: pre,0,_,j,hj=>by
  rw[List.flatMap_cons,List.getElem?_append_left (by simp[zcU];omega)]
  simp
 | a :: pre,k+1,hk,j,hj=>by
  rw[List.flatMap_cons,List.getElem?_append_right (by simp[zcU];omega)]
  have:=zcV pre k (by simpa using hk) j hj
  have e:(k+1) * 2+j-(zcU a).length=k * 2+j:=by simp[zcU];omega
  rw[e,this]
  simp
theorem zcW (xs:List Tag):(xs.flatMap zcU).length=xs.length * 2:=by
 induction xs with
 | nil=>rfl
 | cons x xs ih=>rw[List.flatMap_cons,List.length_append,ih,List.length_cons];simp[zcU];omega
def zcX (w:World) (e:TypeId) (v:Value) (xs:List Tag):Prop:=RowV w e 2 v xs.length (xs.flatMap zcU)∧∀x∈xs,x.name.size≤maxLen
section
variable {X:Nat->Prop} {w w':World} {e:TypeId} {v:Value} {xs:List Tag}
theorem zcX.keep (h:zcX w e v xs) (hf:Fr X w w') (hX:∀q,zcP v=some q->¬X q):zcX w' e v xs:=⟨h.1.keep hf hX,h.2⟩
theorem zcX.sl (h:zcX w e v xs) (hX:∀q,zcP v=some q->¬X q):Sl X w 2 TagC v xs:=by
 obtain⟨h,hn⟩:=h
 obtain⟨A,c,rfl,h1,h2⟩:=h.form
 refine⟨A,c,rfl,h1,by omega,fun h0=>?_⟩
 obtain⟨g,c',cur,he,_,_,hb,h3,h4,hq⟩:=h.at_ h0
 cases he
 refine⟨g,0,rfl,hX g hq,fun k hk=>⟨zcU xs[k],⟨rfl,hn _ (List.getElem_mem hk)⟩,rfl,fun j hj=>?_⟩⟩
 rw[Nat.zero_add,h.cell rfl (by omega),zcV xs k hk j hj]
theorem zcX.cut {x:Tag} {g n c:Nat} (h:zcX w e (.slice (some ⟨g,0,none⟩) n c) (xs ++ [x])):zcX w e (.slice (some ⟨g,0,none⟩) (n-1) c) xs:=by
 obtain⟨h,hn⟩:=h
 have e1:(xs ++ [x]).length=xs.length+1:=by simp
 rw[e1] at h
 have hv:=h.form
 obtain⟨A,c',he,_⟩:=hv
 cases he
 have h2:=h.cut
 rw[List.flatMap_append,List.take_append_of_le_length (by rw[zcW];exact Nat.le_refl _),List.take_of_length_le (by rw[zcW];exact Nat.le_refl _)] at h2
 exact⟨h2,fun y hy=>hn y (by simp[hy])⟩
end
structure El (κ β:Type) where
 e:TypeId
 sz:Nat
 C:κ->List Value
 B:κ->List Nat
 R:World->κ->β->Prop
 len:∀k,(C k).length=sz
 keep:∀{X:Nat->Prop} {W W':World} {k:κ} {x:β},R W k x->Fr X W W'->(∀b∈B k,¬X b)->R W' k x
 lt:∀{W:World} {k:κ} {x:β} {b:Nat},R W k x->b∈B k->b<W.heap.size
def Els {κ β:Type} (L:El κ β) (W:World):List κ->List β->Prop
 | [],[]=>True
 | k :: ks,x :: xs=>L.R W k x∧Els L W ks xs
 | _,_=>False
section
variable {κ β:Type} {L:El κ β} {X:Nat->Prop} {W W':World}
theorem Els.length:∀{ks:List κ} {xs:List β},Els L W ks xs->ks.length=xs.length
 | [],[],_=>rfl
 | _ :: ks,_ :: xs,h=>by simp[Els.length (ks:=ks) (xs:=xs) h.2]
 | [],_ :: _,h=>h.elim
 | _ :: _,[],h=>h.elim
theorem Els.keep:∀{ks:List κ} {xs:List β},Els L W ks xs->Fr X W W'->(∀b∈ks.flatMap L.B,¬X b)->Els L W' ks xs
 | [],[],_,_,_=>trivial
 | k :: ks,x :: xs,h,hf,hb=>⟨L.keep h.1 hf (fun b hb'=>hb b (by simp[hb'])),Els.keep h.2 hf (fun b hb'=>hb b (by rw[List.flatMap_cons];exact List.mem_append_right _ hb'))⟩
 | [],_ :: _,h,_,_=>h.elim
 | _ :: _,[],h,_,_=>h.elim
theorem Els.lt:∀{ks:List κ} {xs:List β},Els L W ks xs->∀b∈ks.flatMap L.B,b<W.heap.size
 | [],[],_,b,hb=>by simp at hb
 | k :: ks,x :: xs,h,b,hb=>by
  rw[List.flatMap_cons,List.mem_append] at hb
  rcases hb with hb|hb
  ·exact L.lt h.1 hb
  ·exact Els.lt h.2 b hb
 | [],_ :: _,h,_,_=>h.elim
 | _ :: _,[],h,_,_=>h.elim
theorem Els.append:∀{ks ls:List κ} {xs ys:List β},Els L W ks xs->Els L W ls ys->Els L W (ks ++ ls) (xs ++ ys)
 | [],_,[],_,_,h=>h
 | _ :: _,_,_ :: _,_,h,g=>⟨h.1,Els.append h.2 g⟩
 | [],_,_ :: _,_,h,_=>h.elim
 | _ :: _,_,[],_,h,_=>h.elim
theorem Els.snoc {ks:List κ} {xs:List β} {k:κ} {x:β} (h:Els L W ks xs) (g:L.R W k x):Els L W (ks ++ [k]) (xs ++ [x]):=h.append ⟨g,trivial⟩
theorem Els.last:∀{ks:List κ} {xs:List β} {x:β},Els L W ks (xs ++ [x])->∃ls k,ks=ls ++ [k]∧Els L W ls xs∧L.R W k x
 | [k],[],x,h=>⟨[],k,rfl,trivial,h.1⟩
 | k :: l :: ks,[],x,h=>h.2.elim
 | k :: ks,y :: xs,x,h=>by
  obtain⟨ls,j,rfl,h1,h2⟩:=Els.last (ks:=ks) (xs:=xs) h.2
  exact⟨k :: ls,j,rfl,⟨h.1,h1⟩,h2⟩
 | [],[],_,h=>h.elim
 | [],_ :: _,_,h=>h.elim
theorem Els.get:∀{ks:List κ} {xs:List β},Els L W ks xs->∀i (h1:i<ks.length) (h2:i<xs.length),L.R W ks[i] xs[i]
 | _ :: _,_ :: _,h,0,_,_=>h.1
 | _ :: ks,_ :: xs,h,i+1,h1,h2=>Els.get (ks:=ks) (xs:=xs) h.2 i (by simpa using h1) (by simpa using h2)
 | [],[],_,i,h1,_=>absurd h1 (by simp)
 | [],_ :: _,h,_,_,_=>h.elim
 | _ :: _,[],h,_,_,_=>h.elim
end
section
variable {κ:Type} {C:κ->List Value} {sz:Nat}
theorem zqA (hC:∀k,(C k).length=sz):∀ks:List κ,(ks.flatMap C).length=ks.length * sz
 | []=>by simp
 | k :: ks=>by rw[List.flatMap_cons,List.length_append,zqA hC ks,hC,List.length_cons,Nat.add_mul];omega
theorem zqB (hC:∀k,(C k).length=sz):∀(ks:List κ) (i:Nat) (hi:i<ks.length) (j:Nat),j<sz->(ks.flatMap C)[i * sz+j]? =(C ks[i])[j]?
 | k :: ks,0,_,j,hj=>by
  rw[List.flatMap_cons,List.getElem?_append_left (by rw[hC];omega)]
  simp
 | k :: ks,i+1,hi,j,hj=>by
  rw[List.flatMap_cons,List.getElem?_append_right (by rw[hC,Nat.add_mul];omega)]
  have e:(i+1) * sz+j-(C k).length=i * sz+j:=by rw[hC,Nat.add_mul];omega
  rw[e,zqB hC ks i (by simpa using hi) j hj]
  simp
end
theorem RowV.slW {κ β:Type} {X:Nat->Prop} {w:World} {e:TypeId} {sz:Nat} {v:Value} {C:κ->List Value} {ks:List κ} {xs:List β} {R:List Value->β->Prop} (hC:∀k,(C k).length=sz)
  (h:RowV w e sz v xs.length (ks.flatMap C)) (hl:ks.length=xs.length) (hR:∀i (h1:i<ks.length) (h2:i<xs.length),R (C ks[i]) xs[i]) (hX:∀q,zcP v=some q->¬X q):Sl X w sz R v xs:=by
 obtain⟨A,c,rfl,h1,h2⟩:=h.form
 refine⟨A,c,rfl,h1,by omega,fun h0=>?_⟩
 obtain⟨g,c',cur,he,_,_,hb,h3,h4,hq⟩:=h.at_ h0
 cases he
 refine⟨g,0,rfl,hX g hq,fun k hk=>⟨C (ks[k]'(by omega)),hR k (by omega) hk,hC _,fun j hj=>?_⟩⟩
 have hle:k * sz+j<xs.length * sz:=by
  have:(k+1) * sz≤xs.length * sz:=Nat.mul_le_mul_right _ hk
  rw[Nat.add_mul] at this
  omega
 rw[Nat.zero_add,h.cell rfl hle,zqB hC ks k (by omega) j hj]
end Go.Proofs.YtpghfhjhjlmljaaGreat
