/- Copies of rows and appends to them within a region that draws its order; the reference's l8Last. -/
import Derived.Test.YtmeaibjmnjcdfaaGreatVG30
set_option maxHeartbeats 4000000
set_option maxRecDepth 100000
namespace Go.Proofs.YtmeaibjmnjcdfaaGreat
open Go.RowKit
def cpP (E:TypeId) {sz:Nat} (ks:List (Raw sz)) (base:Nat):Value->World->Prop:=fun v W=>∃A c,v=.slice A ks.length c∧RowV W E sz (.slice A ks.length c) ks.length (rawL ks)∧∀q,zcP (.slice A ks.length c)=some q->base≤q
theorem zrG (E:TypeId) {sz:Nat} (ks:List (Raw sz)) (base:Nat):MonP (cpP E ks base):=fun _ _ _ ⟨A,c,h1,h2,h3⟩ hf=>⟨A,c,h1,h2.keep0 hf,h3⟩
theorem zrH {S E:TypeId} {sz bytes:Nat} (T:ElT S E sz bytes) {ks:List (Raw sz)} {b0 base:Nat} {X:Nat->Prop} {u:Value} {W:World} {a':Act} {o:Oper} {s y:Operand} (ho:o.op=.call { callee:=.builtin .append,args:=#[s,y],argTypes:=#[S,S] })
  (h:Sl X W sz RawC u ks) (hl:ks.length≤100000) (hone:OneC ks) (hs:a'.eval s=.slice (some ⟨b0,0,none⟩) 0 0) (hy:a'.eval y=u) (hb:base≤W.heap.size):
  zaa Tryz.prog ((mC (cpP E ks base) (zrG _ _ _)).post W) ((execOp a'.eval o).run Tryz.prog W):=by
 obtain⟨i0,z,hi,hz0,hz1,hz2,hz3⟩:=T.info
 have hsm:=T.small
 obtain⟨A,cap,rfl,_,_⟩:=h.form
 rcases Nat.eq_zero_or_pos ks.length with h0|h0
 ·obtain rfl:=List.eq_nil_of_length_eq_zero h0
  have hr:=zcT (P:=Tryz.prog) W S o.type E i0 T.und hi (some ⟨b0,0,none⟩) A cap
  simp only[List.length_nil] at hy
  unfold execOp
  simp only[ho,resolve,invoke,builtin,Sem.run_bind,Sem.run_pure,Result.andThen_ok,List.map_toArray,List.map_cons,List.map_nil,hs,hy,hr,zaa,postC]
  exact⟨Fr.refl _ _,_,_,rfl,.inr ⟨rfl,rfl,_,rfl⟩,fun q hq=>by simp only[List.length_nil] at hq;rw[zcQ,if_pos rfl] at hq;cases hq⟩
 ·obtain⟨b,off,cs,hA,_,_,_⟩:=h.cells h0
  cases hA
  obtain⟨g',cap',w',hr,h2,h3,h4,h5⟩:=zcR (P:=Tryz.prog) W S o.type E i0 z sz bytes T.und hi hz0 hz1 hz2 hz3 T.pos
   (.slice (some ⟨b0,0,none⟩) 0 0) 0 [] (.inr ⟨rfl,rfl,_,rfl⟩) ⟨b,off,none⟩ ks.length cap (rawL ks) (zqD ks) (h.rawNews T.pos) hone h0 (by unfold maxLen;omega) (by have:=Nat.mul_le_mul hl hsm;rw[Nat.zero_add];omega)
  simp only[Nat.zero_add,List.nil_append] at hr h2 h3
  unfold execOp
  simp only[ho,resolve,invoke,builtin,Sem.run_bind,Sem.run_pure,Result.andThen_ok,List.map_toArray,List.map_cons,List.map_nil,hs,hy,hr,zaa,postC]
  refine⟨h4.mono (fun b _ e=>by rw[zcQ,if_pos rfl] at e;cases e),_,_,rfl,h2,fun q hq=>?_⟩
  rw[zcQ,if_neg (by omega)] at hq
  cases hq
  rcases h5 with e|e
  ·rw[zcQ,if_pos rfl] at e;cases e
  ·show base≤g'
   omega
theorem zrI {α:Type} {sz:Nat} {R:List Value->α->Prop} {ks:List (Raw sz)} {xs:List α} {cs:List Value} {h:cs.length=sz} {x:α} (hl:ks.length=xs.length) (hR:∀i (h1:i<ks.length) (h2:i<xs.length),R ks[i].1 xs[i]) (hx:R cs x):
  ∀i (h1:i<(ks ++ [(⟨cs,h⟩:Raw sz)]).length) (h2:i<(xs ++ [x]).length),R (ks ++ [(⟨cs,h⟩:Raw sz)])[i].1 (xs ++ [x])[i]:=by
 intro i h1 h2
 by_cases hi:i<ks.length
 ·rw[List.getElem_append_left hi,List.getElem_append_left (by omega)]
  exact hR i hi (by omega)
 ·have e:i=ks.length:=by simp at h1;omega
  subst e
  rw[List.getElem_append_right (by omega),List.getElem_append_right (by omega)]
  simpa using hx
def RRow {α:Type} (E:TypeId) (sz:Nat) (R:List Value->α->Prop) (w:World) (n:Nat) (v:Value) (xs:List α):Prop:=
 ∃ks:List (Raw sz),ks.length=xs.length∧RowV w E sz v xs.length (rawL ks)∧(∀q,zcP v=some q->n≤q)∧∀i (h1:i<ks.length) (h2:i<xs.length),R ks[i].1 xs[i]
theorem RRow.sl {α:Type} {E:TypeId} {sz:Nat} {R:List Value->α->Prop} {w:World} {n:Nat} {v:Value} {xs:List α} {X:Nat->Prop} (h:RRow E sz R w n v xs) (hX:∀q,n≤q->¬X q):Sl X w sz R v xs:=by
 obtain⟨ks,h1,h2,h3,h4⟩:=h
 exact h2.rawSl h1 h4 (fun q hq=>hX q (h3 q hq))
theorem RRow.keep {α:Type} {E:TypeId} {sz:Nat} {R R':List Value->α->Prop} {w w':World} {n:Nat} {v:Value} {xs:List α} {X:Nat->Prop} (h:RRow E sz R w n v xs) (hf:Fr X w w') (hX:∀q,zcP v=some q->¬X q) (hR:∀cs x,x∈xs->R cs x->R' cs x):RRow E sz R' w' n v xs:=by
 obtain⟨ks,h1,h2,h3,h4⟩:=h
 exact⟨ks,h1,h2.keep hf hX,h3,fun i a b=>hR _ _ (List.getElem_mem b) (h4 i a b)⟩
theorem RRow.snoc {α:Type} {E:TypeId} {sz:Nat} {R:List Value->α->Prop} {w':World} {n g c m:Nat} {ks:List (Raw sz)} {xs:List α} {cs:List Value} {h:cs.length=sz} {x:α} (hm:m=ks.length) (hl:ks.length=xs.length) (hR:∀i (h1:i<ks.length) (h2:i<xs.length),R ks[i].1 xs[i]) (hx:R cs x)
  (hrow:RowV w' E sz (.slice (some ⟨g,0,none⟩) (m+1) c) (m+1) (rawL (ks ++ [(⟨cs,h⟩:Raw sz)]))) (hg:n≤g) (hc:m+1≤c):RRow E sz R w' n (.slice (some ⟨g,0,none⟩) (m+1) c) (xs ++ [x]):=by
 refine⟨ks ++ [⟨cs,h⟩],by simp[hl],?_,fun q hq=>?_,zrI hl hR hx⟩
 ·rw[List.length_append,<-hl,<-hm]
  exact hrow
 ·rw[zcQ,if_neg (by omega)] at hq
  cases hq;exact hg
theorem zrJ {α:Type} {sz:Nat} {R:List Value->α->Prop} (hR:∀cs x,R cs x->∀u∈cs,u.oneCell'=true) {ks:List (Raw sz)} {xs:List α} (hl:ks.length=xs.length) (h:∀i (h1:i<ks.length) (h2:i<xs.length),R ks[i].1 xs[i]):OneC ks:=by
 intro u hu
 obtain⟨k,hk,hu⟩:=List.mem_flatMap.1 hu
 obtain⟨i,hi,rfl⟩:=List.getElem_of_mem hk
 exact hR _ _ (h i hi (by omega)) u hu
theorem zrK {X:Nat->Prop} {w:World}:∀cs x,ClsC X w cs x->∀u∈cs,u.oneCell'=true:=fun cs x ⟨vf,vm,h,_,_,hf,hm⟩ u hu=>by
 obtain⟨A,c,rfl,_⟩:=hf.form
 obtain⟨A,c,rfl,_⟩:=hm.form
 subst h
 simp only[List.mem_cons,List.not_mem_nil,or_false] at hu
 rcases hu with rfl|rfl|rfl|rfl<;>rfl
theorem zrL {X:Nat->Prop} {w:World}:∀cs x,MthC X w cs x->∀u∈cs,u.oneCell'=true:=fun cs x ⟨va,vc,vm,h,_,_,ha,hc,hm⟩ u hu=>by
 obtain⟨A,c,rfl,_⟩:=ha.form
 obtain⟨A,c,rfl,_⟩:=hc.form
 obtain⟨A,c,rfl,_⟩:=hm.form
 subst h
 simp only[List.mem_cons,List.not_mem_nil,or_false] at hu
 rcases hu with rfl|rfl|rfl|rfl|rfl|rfl|rfl|rfl<;>rfl
theorem zrM {X:Nat->Prop} {w:World}:∀cs x,MapC X w cs x->∀u∈cs,u.oneCell'=true:=fun cs x ⟨va,vc,h,ha,hc⟩ u hu=>by
 obtain⟨A,c,rfl,_⟩:=ha.form
 obtain⟨A,c,rfl,_⟩:=hc.form
 subst h
 simp only[List.mem_cons,List.not_mem_nil,or_false] at hu
 rcases hu with rfl|rfl|rfl<;>rfl
theorem zrN {X:Nat->Prop} {w:World}:∀cs x,KprC X w cs x->∀u∈cs,u.oneCell'=true:=fun cs x ⟨va,vc,h,ha,hc⟩ u hu=>by
 obtain⟨A,c,rfl,_⟩:=ha.form
 obtain⟨A,c,rfl,_⟩:=hc.form
 subst h
 simp only[List.mem_cons,List.not_mem_nil,or_false] at hu
 rcases hu with rfl|rfl<;>rfl
theorem zrO:∀cs x,InsC cs x->∀u∈cs,u.oneCell'=true:=fun cs x ⟨h,_⟩ u hu=>by
 subst h
 simp only[List.mem_cons,List.not_mem_nil,or_false] at hu
 rcases hu with rfl|rfl|rfl|rfl<;>rfl
theorem zrP:∀cs x,FldC cs x->∀u∈cs,u.oneCell'=true:=fun cs x ⟨h,_⟩ u hu=>by
 subst h
 simp only[List.mem_cons,List.not_mem_nil,or_false] at hu
 rcases hu with rfl|rfl|rfl<;>rfl
theorem zrQ:∀cs x,AskC cs x->∀u∈cs,u.oneCell'=true:=fun cs x ⟨h,_⟩ u hu=>by
 subst h
 simp only[List.mem_cons,List.not_mem_nil,or_false] at hu
 rcases hu with rfl|rfl<;>rfl
theorem zrR:(Tryz.prog.info? 55).map (fun i=>(i.zero,i.size,i.bytes))=some (some (.agg #[.string ⟨#[]⟩,.string ⟨#[]⟩,.slice none 0 0,.slice none 0 0]),4,80):=by kernel_rfl
theorem zrS:ElT 87 55 4 80:=zqW Tryz.underlying87 zrR rfl (by decide) (by decide)
theorem zrT:(Tryz.prog.info? 125).map (fun i=>(i.zero,i.size,i.bytes))=some (some (.agg #[.string ⟨#[]⟩,.slice none 0 0,.int .i64 0,.string ⟨#[]⟩,.int .i64 0,.int .i64 0,.slice none 0 0,.slice none 0 0]),8,128):=by kernel_rfl
theorem zrU:ElT 53 125 8 128:=zqW Tryz.underlying53 zrT rfl (by decide) (by decide)
theorem zrV:(Tryz.prog.info? 281).map (fun i=>(i.zero,i.size,i.bytes))=some (some (.agg #[.int .i64 0,.slice none 0 0,.slice none 0 0]),3,56):=by kernel_rfl
theorem zrW:ElT 123 281 3 56:=zqW Tryz.underlying123 zrV rfl (by decide) (by decide)
theorem zrX:(Tryz.prog.info? 177).map (fun i=>(i.zero,i.size,i.bytes))=some (some (.agg #[.int .i64 0,.int .i64 0,.string ⟨#[]⟩,.string ⟨#[]⟩]),4,48):=by kernel_rfl
theorem zrY:ElT 122 177 4 48:=zqW Tryz.underlying122 zrX rfl (by decide) (by decide)
theorem zrZ:(Tryz.prog.info? 227).map (fun i=>(i.zero,i.size,i.bytes))=some (some (.agg #[.string ⟨#[]⟩,.int .i64 0,.string ⟨#[]⟩]),3,40):=by kernel_rfl
theorem zr0:ElT 52 227 3 40:=zqW Tryz.underlying52 zrZ rfl (by decide) (by decide)
theorem zr1:(Tryz.prog.info? 90).map (fun i=>(i.zero,i.size,i.bytes))=some (some (.agg #[.slice none 0 0,.slice none 0 0]),2,48):=by kernel_rfl
theorem zr2:ElT 23 90 2 48:=zqW Tryz.underlying23 zr1 rfl (by decide) (by decide)
theorem zr3:(Tryz.prog.info? 150).map (fun i=>(i.zero,i.size,i.bytes))=some (some (.agg #[.string ⟨#[]⟩,.int .i64 0]),2,24):=by kernel_rfl
theorem zr4:ElT 88 150 2 24:=zqW Tryz.underlying88 zr3 rfl (by decide) (by decide)
theorem Sl.pre {α:Type} {X:Nat->Prop} {w:World} {sz:Nat} {R:List Value->α->Prop} {A:Option Addr} {n c:Nat} {xs ys:List α} (h:Sl X w sz R (.slice A n c) (xs ++ ys)):Sl X w sz R (.slice A xs.length c) xs:=by
 obtain⟨A',c',he,h1,h2,h3⟩:=h
 simp only[Value.slice.injEq] at he
 obtain⟨rfl,rfl,rfl⟩:=he
 have hla:=@List.length_append _ xs ys
 refine⟨A,c,rfl,by omega,by omega,fun h0=>?_⟩
 obtain⟨b,off,hA,hX,hc⟩:=h3 (by omega)
 refine⟨b,off,hA,hX,fun k hk=>?_⟩
 obtain⟨cs,g1,g2,g3⟩:=hc k (by rw[List.length_append];omega)
 rw[List.getElem_append_left hk] at g1
 exact⟨cs,g1,g2,g3⟩
theorem Sl.wid {α:Type} {X Y:Nat->Prop} {w:World} {sz:Nat} {R R':List Value->α->Prop} {v:Value} {xs:List α} (h:Sl X w sz R v xs) (hsz:0<sz) (hYX:∀b,Y b->b<w.heap.size->X b) (hR:∀cs x,x∈xs->R cs x->R' cs x):Sl Y w sz R' v xs:=by
 obtain⟨A,cap,rfl,h1,h2,h3⟩:=h
 refine⟨A,cap,rfl,h1,h2,fun h0=>?_⟩
 obtain⟨b,off,rfl,hX,hc⟩:=h3 h0
 refine⟨b,off,rfl,fun hy=>hX (hYX b hy ?_),fun k hk=>?_⟩
 ·obtain⟨cs,_,hl,hcs⟩:=hc 0 h0
  have h9:=hcs 0 hsz
  rw[lz8 (by omega)] at h9
  exact lt_of_cell h9
 ·obtain⟨cs,hRc,hl,hcs⟩:=hc k hk
  exact⟨cs,hR cs _ (List.getElem_mem hk) hRc,hl,hcs⟩
theorem MapC.wid {X Y:Nat->Prop} {w:World} {cs:List Value} {m:Mp} (h:MapC X w cs m) (hYX:∀b,Y b->b<w.heap.size->X b):MapC Y w cs m:=by
 obtain⟨vl,vs,rfl,h1,h2⟩:=h
 exact⟨vl,vs,rfl,h1.wid (by omega) hYX (fun _ _ _ h=>h),h2.wid (by omega) hYX (fun _ _ _ h=>h)⟩
theorem MthC.wid {X Y:Nat->Prop} {w:World} {cs:List Value} {m:Mth} (h:MthC X w cs m) (hYX:∀b,Y b->b<w.heap.size->X b):MthC Y w cs m:=by
 obtain⟨va,vc,vm,rfl,h1,h2,h3,h4,h5⟩:=h
 exact⟨va,vc,vm,rfl,h1,h2,h3.wid (by omega) hYX (fun _ _ _ h=>h),h4.wid (by omega) hYX (fun _ _ _ h=>h),h5.wid (by omega) hYX (fun _ _ _ h=>h.wid hYX)⟩
theorem ClsC.wid {X Y:Nat->Prop} {w:World} {cs:List Value} {c:Cls} (h:ClsC X w cs c) (hYX:∀b,Y b->b<w.heap.size->X b):ClsC Y w cs c:=by
 obtain⟨vf,vm,rfl,h1,h2,h3,h4⟩:=h
 exact⟨vf,vm,rfl,h1,h2,h3.wid (by omega) hYX (fun _ _ _ h=>h),h4.wid (by omega) hYX (fun _ _ _ h=>h.wid hYX)⟩
theorem KprC.wid {X Y:Nat->Prop} {w:World} {cs:List Value} {k:Kpr} (h:KprC X w cs k) (hYX:∀b,Y b->b<w.heap.size->X b):KprC Y w cs k:=by
 obtain⟨vo,va,rfl,h1,h2⟩:=h
 exact⟨vo,va,rfl,h1.wid (by omega) hYX (fun _ _ _ h=>h.wid hYX),h2.wid (by omega) hYX (fun _ _ _ h=>h)⟩
def zr5 (lo X:Nat->Prop) (os:List Cls) (aks:List Ask) (va0:Value) (w:World) (e:Ending) (w':World):Prop:=∃vo va,e=.returned (.agg #[vo,va])∧RRow 55 4 (ClsC lo w) w' w.heap.size vo os∧Sl X w' 2 AskC va aks∧Fr No w w'∧va=va0
theorem zr6 (lo X:Nat->Prop) (aks:List Ask) (c c0:Cls) (os:List Cls) (vo va:Value) (ccs:List Value) (w:World) (hvo:Sl X w 4 (ClsC lo w) vo (os ++ [c0])) (hva:Sl X w 2 AskC va aks) (hl:os.length≤1000) (hc:ClsC lo w ccs c):
  Calls Tryz.prog 145 #[.agg #[vo,va],.agg ccs.toArray] w (zr5 lo X (os ++ [c]) aks va w):=by
 have hC9:=hc
 obtain⟨vf,vm,rfl,_,_,hf,hm⟩:=hc
 obtain⟨Af,cf,rfl,_,_⟩:=hf.form
 obtain⟨Am,cm,rfl,_,_⟩:=hm.form
 obtain⟨Ao,co,rfl,ho1,ho2⟩:=hvo.form
 obtain⟨Aa,ca,rfl,ha1,ha2⟩:=hva.form
 obtain⟨ks,hkl,hkR,hks⟩:=hvo.pre.raw
 have hone:=zrJ zrK hkl hkR
 rw[List.length_append] at ho1 ho2 ⊢
 simp only[List.length_cons,List.length_nil,Nat.zero_add] at ho1 ho2 ⊢
 unfold maxLen at ho2
 obtain⟨wA,hwA⟩:∃wA,wA=(((w.alloc (.cells #[.slice Ao (os.length+1) co,.slice Aa aks.length ca] 90)).alloc (.cells #[.string c.name,.string c.super,.slice Af c.fields.length cf,.slice Am c.methods.length cm] 55)).alloc (.cells #[.slice none 0 0,.slice none 0 0] 90)):=⟨_,rfl⟩
 have hfA:Fr No w wA:=hwA▸frc
 have B0:=(hwA▸bxc:Bx wA w.heap.size 90 #[.slice Ao (os.length+1) co,.slice Aa aks.length ca])
 have B1:=(hwA▸bxc:Bx wA (w.heap.size+1) 55 #[.string c.name,.string c.super,.slice Af c.fields.length cf,.slice Am c.methods.length cm])
 have B2:=(hwA▸bxc:Bx wA (w.heap.size+1+1) 90 #[.slice none 0 0,.slice none 0 0])
 have K0:=B0.r2
 have K1:=B1.r4
 have hksW:=fun W (hW:Fr No wA W)=>hks.rawKeep (hfA.trans0 hW) zN
 have hk9:ks.length≤100000:=by omega
 have hn1:((os.length+1:Nat):Int)=(os.length:Int)+1:=by omega
 have hn2:((os.length:Int)+1-1)=(os.length:Int):=by omega
 replace hksW:=Lib.hid hksW
 replace hkR:=Lib.hid hkR
 go_enter Tryz.func145,Tryz.ntmps145
 go_wp2_with fail
 rw[<-hwA]
 replace hwA:=Lib.hid hwA
 refine zn0 11 16 [mS 55 (#[]) 0 wA.heap.size,mV (.pointer (some ⟨w.heap.size,0,none⟩)),mV (.slice Ao (os.length+1) co),mV (.pointer (some ⟨w.heap.size,0,none⟩)),mV (.slice Ao (os.length+1) co),mV (.int .i64 ((os.length:Int)+1)),mV (.int .i64 (os.length:Int)),mV (.slice Ao os.length co),mC (cpP 55 ks wA.heap.size) (zrG _ _ _),mV (.agg #[.string c.name,.string c.super,.slice Af c.fields.length cf,.slice Am c.methods.length cm]),mS 55 (#[.string c.name,.string c.super,.slice Af c.fields.length cf,.slice Am c.methods.length cm]) 1 wA.heap.size] (by kernel_rfl) (by kernel_rfl) (by simp) ?_ ?_
 ·refine hc4 ?_ ?_ ?_ ?_ <| hc4 ?_ ?_ ?_ ?_ <| hopC ?_ <| hopC ?_ <| hopC ?_ <| hopZ
  all_goals (intro a' W hW hoff hdep;have hbs:=hW.size;have H2:=hoff 2 rfl;have H3:=hoff 3 rfl;refine nE rfl ?_)
  ·simp[execOp,go_sem,zaa];exact⟨(Fr.refl _ _).alloc _,⟨_,rfl,Bx.new_ rfl,hbs⟩,Nat.le_refl _⟩
  ·simp[execOp,Act.eval,H2,go_sem,zaa];exact fr1 rfl
  ·have D6:_=_:=hdep 1 6 rfl;clear hoff hdep;simp[execOp,Act.eval,go_sem,zaa, *];exact fr1 rfl
  ·simp[execOp,Act.eval,H2,go_sem,zaa];exact fr1 rfl
  ·have D8:_=_:=hdep 3 8 rfl;clear hoff hdep;simp[execOp,Act.eval,go_sem,zaa, *];exact fr1 rfl
  ·have D9:_=_:=hdep 4 9 rfl;simp[Act.eval,D9,go_sem,zaa];exact fr1 rfl
  ·have D10:_=_:=hdep 5 10 rfl;simp[execOp,Act.eval,D10,go_sem,zaa];exact fr1 (show Value.int .i64 _=_ by rw[IntWalk.i64_in _ (by omega)])
  ·have D7:_=_:=hdep 2 7 rfl;have D11:_=_:=hdep 6 11 rfl;clear hoff hdep;simp[execOp,Act.eval,go_sem,zaa,↓IntWalk.iteOmega, *];exact fr1 rfl
  ·obtain⟨b,D5,hb,hl⟩:(slB 55 #[] 0 wA.heap.size) _ W:=hdep 0 5 rfl
   have D12:_=_:=hdep 7 12 rfl
   exact zrH zrS rfl (hksW.out W hW) hk9 hone D5 D12 hbs
  ·exact gx0
  ·have D14:_=_:=hdep 9 14 rfl;simp at D14;simp[execOp,Act.eval,D14,go_sem,zaa];exact⟨(Fr.refl _ _).alloc _,⟨_,rfl,Bx.new_ rfl,hbs⟩,Nat.le_refl _⟩
 intro vs WR hWR hv hne
 obtain⟨b0,e0,hb0,hl0⟩:=hv 0 (by omega)
 obtain⟨A0R8,c0R8,e8,hA0R8,hq0R8⟩:=hv 8 (by omega)
 obtain⟨b10,e10,hb10,hl10⟩:=hv 10 (by omega)
 simp only[lz6,List.drop_zero,znM,znQ,znK,znR,Nat.zero_add,Nat.reduceAdd,e0,e8,e10]
 simp only[Act.put,lz0,lz1,lz2]
 clear e0 e8 e10 hv
 have hq9:∀q,zcP (.slice A0R8 ks.length c0R8)=some q->w.heap.size+1+1<q:=fun q hq=>by have:=hq0R8 q hq;have:=B2.lt;omega
 refine zqH zrS rfl _ _ rfl (.slice A0R8 ks.length c0R8) ks.length ks rfl rfl hA0R8 (by omega) b10 55 [.string c.name,.string c.super,.slice Af c.fields.length cf,.slice Am c.methods.length cm] rfl hb10 rfl (zrK _ _ hC9) ?_
 intro g c2 w5 hrow5 hcap hgf hor
 have hg:w.heap.size+1+1<g:=by
  rcases hor with h9|h9
  ·exact hq9 _ h9
  ·have:=hWR.size;have:=B2.lt;omega
 have D0:=(B0.keep hWR).keepX hgf (fun e=>by have:=hq9 _ e;omega)
 have D2:=(B2.keep hWR).keepX hgf (fun e=>by have:=hq9 _ e;omega)
 have hw5:Fr No w w5:=(hfA.trans0 hWR).trans hgf (fun b hb e=>by have:=hq9 _ e;omega)
 obtain⟨d0,d1⟩:=D0.c2
 obtain⟨f0,f1⟩:=D2.c2
 have dl:=D0.lt
 have fl:=D2.lt
 have df:=fun i=>D0.frozen i
 have ff:=fun i=>D2.frozen i
 have hfin:∀Wf,Fr (fun x=>x=w.heap.size∨x=w.heap.size+1+1) w5 Wf->zr5 lo X (os ++ [c]) aks (.slice Aa aks.length ca) w (.returned (.agg #[.slice (some ⟨g,0,none⟩) (ks.length+1) c2,.slice Aa aks.length ca])) Wf:=fun Wf hW=>by
  have hwf:Fr No w Wf:=hw5.trans hW (fun b hb e=>by omega)
  exact⟨_,_,rfl,RRow.snoc rfl hkl (fun i h1 h2=>hkR.out i h1 h2) hC9 (hrow5.keep hW (fun q hq e=>by rw[zcQ,if_neg (by omega)] at hq;cases hq;dsimp only at e;omega)) (by omega) hcap,hva.k0 hwf,hwf,rfl⟩
 replace hfin:=Lib.hid hfin
 clear hrow5 hgf hor hA0R8 hb10 D0 D2 K0 K1 hva hvo hks
 simp only[Act.put,lz0,lz1,lz2]
 go_wp2
 refine bodyPost_ret (v:=.agg #[.slice (some ⟨g,0,none⟩) (ks.length+1) c2,.slice Aa aks.length ca]) (by simp[results,Tryz.results145,go_sem, *]) rfl ?_
 refine hfin.out _ ?_
 repeat(first|(with_reducible exact Fr.refl _ _)|(with_reducible refine Fr.setCellXO (by first|exact .inl rfl|exact .inr rfl) ?_ _))
end Go.Proofs.YtmeaibjmnjcdfaaGreat
