/- The layout of a class: all its fields, those from above first (the program's own). -/
import Derived.Test.YtmeaibjmnjcdfaaGreatVHPvn1
set_option maxHeartbeats 8000000
set_option maxRecDepth 100000
namespace Go.Proofs.YtmeaibjmnjcdfaaGreat
open Go.RowKit Go.Shelf
def zj3 (f:LFld):List Value:=[.int .i64 f.of_.keeper,.string f.of_.name,.int .i64 f.at_,.int .i64 f.kind.kind,.string f.kind.name]
def zj5 (r:Ref) (acc:List LFld) (fs:List Fld):List LFld:=acc ++ zjH acc.length (fs.map (r,·))
theorem zj6 (r:Ref) (acc:List LFld) (f:Fld) (fs:List Fld):zj5 r acc (f :: fs)=zj5 r (acc ++ [⟨r,acc.length,f.kind⟩]) fs:=by
 unfold zj5
 rw[List.map_cons,zjH,List.append_assoc,List.length_append]
 rfl
theorem zj7 (r:Ref) (acc:List LFld):zj5 r acc []=acc:=by simp[zj5,zjH]
theorem zj8 {w:World} {base sz n b:Nat} {v:Value} {e t:TypeId} {xs:List Value} {cs:Array Value} (h:w.ownsRow base e sz v n xs) (hb:Bx w b t cs) (hne:e≠t):∀q,v.ownBlock=some q->q≠b:=by
 intro q hq
 obtain⟨A,m,c,rfl⟩:∃A m c,v=.slice A m c:=by
  obtain⟨_,⟨rfl,_⟩ | ⟨g,cap,cur,rfl,_⟩⟩:=h<;>exact⟨_,_,_,rfl⟩
 obtain⟨_,⟨h1,_⟩ | ⟨g',cap',cur,h1,_,h2,_⟩⟩:=h
 ·cases h1;cases hq
 ·cases h1
  cases hq
  rintro rfl
  unfold Bx at hb
  rw[h2] at hb
  simp at hb
  exact hne hb.2
theorem zj9:(Tryz.prog.info? 199).map (fun i=>(i.zero,i.size,i.bytes))=some (some (.agg #[.int .i64 0,.string ⟨#[]⟩,.int .i64 0,.int .i64 0,.string ⟨#[]⟩]),5,56):=by kernel_rfl
def zka (b base:Nat) (xs:List LFld) (w:World) (e:Ending) (w':World):Prop:=
 (∃v,e=.returned v)∧(∃v,Bx w' b 265 #[v]∧w'.ownsRow base 199 5 v xs.length (xs.flatMap zj3))∧Fr (fun x=>x=b∨base≤x) w w'
theorem zkc (Y:Nat->Prop) (b base:Nat) (r:Ref) (A:Option Addr) (cap:Nat) (fs:List Fld) (cur:List LFld) (v:Value) (w:World)
  (hb:Bx w b 265 #[v]) (hrow:w.ownsRow base 199 5 v cur.length (cur.flatMap zj3)) (hs:Sl Y w 3 FldC (.slice A fs.length cap) fs) (hY:∀x,(x=b∨base≤x)->Y x)
  (hbb:b<base) (hbase:base≤w.heap.size) (hlen:cur.length+fs.length≤1000):
  Calls Tryz.prog 155 #[.pointer (some ⟨b,0,none⟩),.agg #[.int .i64 r.keeper,.string r.name],.slice A fs.length cap] w (zka b base (zj5 r cur fs) w):=by
 obtain⟨i0,hi,hz0,hz1,hz2⟩:=info_parts zj9
 obtain⟨rk,rn⟩:=r
 obtain⟨wA,hwA⟩:∃wA,wA=(w.alloc (.cells #[.int .i64 rk,.string rn] 108)):=⟨_,rfl⟩
 have hfA:Fr (fun x=>x=b∨base≤x) w wA:=hwA▸(Fr.refl _ w).alloc _
 have B0:Bx wA w.heap.size 108 #[.int .i64 rk,.string rn]:=hwA▸Bx.new_ rfl
 have hbA:Bx wA b 265 #[v]:=hwA▸hb.alloc _
 have hrowA:wA.ownsRow base 199 5 v cur.length (cur.flatMap zj3):=hwA▸hrow.alloc _
 have hbl:=hb.lt
 clear hb hrow
 dsimp only
 replace hi:=Lib.hid hi
 replace hz0:=Lib.hid hz0
 replace hz1:=Lib.hid hz1
 replace hz2:=Lib.hid hz2
 go_enter Tryz.func155,Tryz.ntmps155
 go_wp2
 rw[<-hwA]
 replace hwA:=Lib.hid hwA
 go_loopw [10] (fun i wr=>∃(k:Nat) (xs:List LFld) (u:Value),k≤fs.length∧i=.int .i64 k∧Hid (zj5 ⟨rk,rn⟩ cur fs=zj5 ⟨rk,rn⟩ xs (fs.drop k))∧xs.length=cur.length+k∧Bx wr w.heap.size 108 #[.int .i64 rk,.string rn] ∧
  Bx wr b 265 #[u]∧wr.ownsRow base 199 5 u xs.length (xs.flatMap zj3)∧Fr (fun x=>x=b∨base≤x) w wr) (fun i _=>fs.length-(intOf i).toNat)
 case atStart=>exact⟨0,cur,v,Nat.zero_le _,rfl,rfl,rfl,B0,hbA,hrowA,hfA⟩
 case round=>
  clear B0 hbA hrowA hfA
  obtain⟨k,xs,u,hk,rfl,hd,hxl,hB0,hbr,hrow,hw⟩:=hrel
  by_cases hlt:k<fs.length
  ·obtain⟨b9,off,rfl,hX,q0,q1,q2,hz1',hz2'⟩:=(hs.keep (R':=FldC) hw hY (fun _ _ _ h=>h)).fld hlt
   have q0l:=lt_of_cell q0
   rw[List.drop_eq_getElem_cons hlt,zj6] at hd
   have hd:=Lib.hid hd
   clear hs
   generalize fs[k]=f at *
   obtain⟨Av,nv,cv,rfl⟩:∃A n c,u=Value.slice A n c:=by
    obtain⟨_,⟨rfl,_⟩ | ⟨g,cap,cur,rfl,_⟩⟩:=hrow<;>exact⟨_,_,_,rfl⟩
   have hnv:=zmq hrow
   dsimp only[sliceLen] at hnv
   subst hnv
   obtain⟨W0,hW0⟩:∃W0,W0=(wr.alloc (.cells #[.string f.name,.int .i64 f.kind.kind,.string f.kind.name] 227)):=⟨_,rfl⟩
   have hf0:Fr No wr W0:=hW0▸(Fr.refl No wr).alloc _
   have hF:Bx W0 wr.heap.size 227 #[.string f.name,.int .i64 f.kind.kind,.string f.kind.name]:=hW0▸Bx.new_ rfl
   have hR0:=hB0.keep hf0
   have hL0:=hbr.keep hf0
   have hrow0:W0.ownsRow base 199 5 (.slice Av xs.length cv) xs.length (xs.flatMap zj3):=hW0▸hrow.alloc _
   have KF:=hF.r3
   have KR:=hR0.r2
   have KL:=hL0.r1
   have hwl:=hw.size
   have hxm:xs.length≤1000:=by omega
   go_wp2_with fail
   rw[<-hW0]
   replace hW0:=Lib.hid hW0
   refine zn0 15 29 [mE (mV (.pointer (some ⟨b,0,none⟩))),mV (.pointer (some ⟨b,0,none⟩)),mV (.pointer (some ⟨b,0,none⟩)),mV (.pointer (some ⟨b,0,none⟩)),mV (.slice Av xs.length cv),mV (.agg #[.int .i64 rk,.string rn]),mV (.pointer (some ⟨b,0,none⟩)),mV (.pointer (some ⟨b,0,none⟩)),mV (.pointer (some ⟨b,0,none⟩)),mV (.slice Av xs.length cv),mV (.int .i64 xs.length),mV (.pointer (some ⟨wr.heap.size,1,none⟩)),mV (.agg #[.int .i64 f.kind.kind,.string f.kind.name]),mV (.agg #[.int .i64 rk,.string rn,.int .i64 xs.length,.int .i64 f.kind.kind,.string f.kind.name]),mS 199 (#[.int .i64 rk,.string rn,.int .i64 xs.length,.int .i64 f.kind.kind,.string f.kind.name]) 1 W0.heap.size] (by kernel_rfl) (by kernel_rfl) (by simp) ?_ ?_
   ·refine hc4 ?_ ?_ ?_ ?_ <| hc4 ?_ ?_ ?_ ?_ <| hc4 ?_ ?_ ?_ ?_ <| hopC ?_ <| hopC ?_ <| hopC ?_ <| hopZ
    all_goals (intro a' W hW hoff hdep;have hbs:=hW.size;have H0:=hoff 0 rfl;have H4:=hoff 4 rfl;have H7:=hoff 7 rfl)
    ·exact yE rfl ⟨.pointer (some ⟨b,0,none⟩),fun W=>by simp[execOp,Act.eval,H0,go_sem],rfl,rfl⟩
    ·refine nE rfl ?_;simp[execOp,Act.eval,H0,go_sem,zaa];exact fr1 rfl
    ·have D15:_=_:=hdep 1 15 rfl;refine nE rfl ?_;simp[execOp,Act.eval,D15,go_sem,zaa];exact fr1 rfl
    ·have D16:_=_:=hdep 2 16 rfl;refine nE rfl ?_;simp[execOp,Act.eval,D16,go_sem,zaa];exact fr1 rfl
    ·have D17:_=_:=hdep 3 17 rfl;refine nE rfl ?_;clear hoff hdep;simp[execOp,Act.eval,go_sem,zaa, *];exact fr1 rfl
    ·exact nE rfl gx0
    ·refine nE rfl ?_;simp[execOp,Act.eval,H0,go_sem,zaa];exact fr1 rfl
    ·have D20:_=_:=hdep 6 20 rfl;refine nE rfl ?_;simp[execOp,Act.eval,D20,go_sem,zaa];exact fr1 rfl
    ·have D21:_=_:=hdep 7 21 rfl;refine nE rfl ?_;simp[execOp,Act.eval,D21,go_sem,zaa];exact fr1 rfl
    ·have D22:_=_:=hdep 8 22 rfl;refine nE rfl ?_;clear hoff hdep;simp[execOp,Act.eval,go_sem,zaa, *];exact fr1 rfl
    ·have D23:_=_:=hdep 9 23 rfl;refine nE rfl ?_;simp[Act.eval,D23,go_sem,zaa];exact fr1 rfl
    ·refine nE rfl ?_;simp[execOp,Act.eval,H7,go_sem,zaa];exact fr1 rfl
    ·have D25:_=_:=hdep 11 25 rfl;refine nE rfl ?_;clear hoff hdep;simp[execOp,Act.eval,go_sem,zaa, *];exact fr1 rfl
    ·have D19:_=_:=hdep 5 19 rfl;have D24:_=_:=hdep 10 24 rfl;have D26:_=_:=hdep 12 26 rfl;simp at D19 D24 D26;refine nE rfl ?_;simp[execOp,Act.eval,D19,D24,D26,go_sem,zaa];exact fr1 rfl
    ·have D27:_=_:=hdep 13 27 rfl;simp at D27;refine nE rfl ?_;simp[execOp,Act.eval,D27,go_sem,zaa];exact⟨(Fr.refl _ _).alloc _,⟨_,rfl,Bx.new_ rfl,hbs⟩,Nat.le_refl _⟩
   intro vs WR hWR hv hne
   obtain⟨b14,e14,hb14,hl14⟩:=hv 14 (by omega)
   simp only[lz6,List.drop_zero,znL,znQ,znK,znR,Nat.zero_add,Nat.reduceAdd,e14]
   simp only[Act.put,lz0,lz1,lz2]
   clear e14 hv
   clear hne KF KR KL
   have hLR:=hL0.keep hWR
   have hrowR:=zms hrow0 hWR zN
   have hrl:=hrowR.lt
   have hfwR:Fr (fun x=>x=b∨base≤x) w WR:=(hw.trans0 hf0).trans0 hWR
   have hRR:=hR0.keep hWR
   have hs0:=hWR.size
   have hs1:=hf0.size
   clear hF hR0 hL0 hrow0 hrow hbr hB0 hw
   replace hrl:=Lib.hid hrl
   have hown:=zj8 hrowR hRR (by decide)
   replace hown:=Lib.hid hown
   replace hxl:=Lib.hid hxl
   have hsrc:Hid (∀(j:Nat) (u:Value),(zj3 ⟨⟨rk,rn⟩,xs.length,f.kind⟩)[j]? =some u->WR.cell? ((⟨b14,0,none⟩:Addr).add j)=some u):=fun j u h=>by
    rw[show((⟨b14,0,none⟩:Addr).add j)=⟨b14,j,none⟩ by simp[Addr.add];omega]
    rw[hb14.cell]
    simpa[zj3] using h
   go_wp2_with (at_builtin;refine wpList_append_own _ rfl _ _ 196 rfl base 199 i0 (.agg #[.int .i64 0,.string ⟨#[]⟩,.int .i64 0,.int .i64 0,.string ⟨#[]⟩]) 5 56 Tryz.underlying196 hi.out hz0.out hz1.out hz2.out rfl (by decide) _ _ _ rfl hrowR ⟨b14,0,none⟩ 1 1 (zj3 ⟨⟨rk,rn⟩,xs.length,f.kind⟩) rfl rfl hsrc.out (by simp[zj3,Value.oneCell']) (by unfold maxLen;omega) (by omega) (by omega) ?_;intro v' w1 hown' hgrow hnil;obtain⟨g',cap',rfl⟩:=ownsRow_succ hown';have hfg:Fr (fun x=>base≤x) WR w1:=(Fr.refl _ WR).grown hgrow (fun k e=>.inr (hrl.out k e).1);have hfo:Fr (fun x=>(Value.slice Av xs.length cv).ownBlock=some x) WR w1:=(Fr.refl _ WR).grown hgrow (fun k e=>.inr e);have p5:=hLR.keepX hfg (by first|omega|(dsimp only;omega));have e6:=p5.c1;have f6:=fun j=>p5.frozen j;have l7:=p5.lt)
   have hfs:Fr (fun x=>x=b) w1 (w1.setCell ⟨b,0,none⟩ (.slice (some ⟨g',0,none⟩) (xs.length+1) cap')):=Fr.setCellX (X:=fun x=>x=b) (p:=⟨b,0,none⟩) (Fr.refl _ w1) (by rfl) _
   have hfin:Fr (fun x=>x=b∨base≤x) w (w1.setCell ⟨b,0,none⟩ (.slice (some ⟨g',0,none⟩) (xs.length+1) cap')):=(hfwR.trans hfg (fun x _ hx=>.inr hx)).trans hfs (fun x _ hx=>.inl hx)
   have hr1:w1.ownsRow base 199 5 (.slice (some ⟨g',0,none⟩) (xs.length+1) cap') (xs ++ [(⟨⟨rk,rn⟩,xs.length,f.kind⟩:LFld)]).length ((xs ++ [(⟨⟨rk,rn⟩,xs.length,f.kind⟩:LFld)]).flatMap zj3):=by
    rw[List.flatMap_append,List.length_append]
    simpa using hown'
   have hr2:=zms hr1 hfs (fun x (hx:x=b)=>by omega)
   have hR2:=(hRR.keepX hfo (fun e=>hown.out _ e rfl)).keepX hfs (by first|omega|(dsimp only;omega))
   go_roundw
   case rel=>exact⟨k+1,xs ++ [⟨⟨rk,rn⟩,xs.length,f.kind⟩],_,by omega,by go_num,hd.out,by have:=hxl.out;simp;omega,hR2,p5.set_ 0 _,hr2,hfin⟩
   case measure=>simp[intOf];omega
  ·clear hs
   have HS:Hid (zj5 ⟨rk,rn⟩ cur fs=xs):=by have:=hd.out;rwa [List.drop_eq_nil_of_le (by omega),zj7] at this
   go_wp2
   go_end0
   exact⟨⟨_,rfl⟩,⟨u,hbr,by rw[HS.out];exact hrow⟩,hw⟩
attribute [local go_sem] Oper.semAt_some
def accJ (p:Plan) (rs:List Ref) (j:Nat):List LFld:=zjH 0 (zjB p (rs.reverse.take j))
theorem zkd (p:Plan) (rs:List Ref):accJ p rs 0=[]:=by simp[accJ,zjB,zjH]
theorem zke {xs:List Ref} {j:Nat} {x:Int×Ref} (h:bwOK xs j x):∃h:j<xs.reverse.length,xs.reverse[j]=x.2:=by
 obtain⟨h1,_,h3⟩:=h
 refine⟨by simpa using h1,?_⟩
 rw[List.getElem_reverse]
 rw[lz8 (by omega)] at h3
 exact Option.some.inj h3
theorem zkf (p:Plan) {rs:List Ref} {j:Nat} {x:Int×Ref} (h:bwOK rs j x):accJ p rs (j+1)=zj5 x.2 (accJ p rs j) (zbG p x.2).fields:=by
 obtain⟨hj,he⟩:=zke h
 unfold accJ zj5
 rw[List.take_succ_eq_append_getElem hj,he,zjD,zjI,zjJ,Nat.zero_add]
 simp[zjB]
theorem zkg (p:Plan) (rs:List Ref):accJ p rs rs.length=layL p rs:=by
 unfold accJ layL
 rw[List.take_of_length_le (by simp)]
theorem zkh {p:Plan} (hp:lodB p=true) {rs:List Ref} (h:zhb p rs) (j:Nat):(accJ p rs j).length≤3 * rs.length:=by
 unfold accJ
 rw[zjJ]
 have h1:=zjM hp (rs:=rs.reverse.take j) (fun x hx=>h x (by simpa using List.mem_of_mem_take hx))
 have h2:(rs.reverse.take j).length≤rs.length:=by simp;omega
 omega
theorem zki {w:World} {base sz n:Nat} {e:TypeId} {v:Value} {xs:List Value} (h:w.ownsRow base e sz v n xs):∃A c,v=.slice A n c:=by
 obtain⟨_,⟨rfl,rfl⟩ | ⟨g,cap,cur,rfl,_⟩⟩:=h<;>exact⟨_,_,rfl⟩
theorem zkj {w:World} {base base' sz n:Nat} {e:TypeId} {v:Value} {xs:List Value} (h:w.ownsRow base e sz v n xs) (hb:base'≤base):w.ownsRow base' e sz v n xs:=by
 obtain⟨h1,h2 | ⟨g,cap,cur,h2,h3,h4⟩⟩:=h
 ·exact⟨h1,.inl h2⟩
 ·exact⟨h1,.inr ⟨g,cap,cur,h2,Nat.le_trans hb h3,h4⟩⟩
def LayT (p:Plan) (rs:List Ref) (l c b lo base:Nat) (lb:Nat) (A:Option Addr) (cap:Nat) (w0:World) (j:Nat) (W:World):Prop:=
 Fr No w0 W∧Bx W c 180 #[.slice A rs.length cap]∧Sl (fun x=>x=b∨lo≤x) W 2 RefC (.slice A rs.length cap) rs∧Bx W lb 69 #[.pointer (some ⟨l,0,none⟩)] ∧
 ∃v,Bx W b 265 #[v]∧W.ownsRow base 199 5 v (accJ p rs j).length ((accJ p rs j).flatMap zj3)
theorem LayT.keepX {p:Plan} {rs:List Ref} {l c b lo base lb cap:Nat} {A:Option Addr} {w0 W W':World} {j:Nat} {X:Nat->Prop} (h:LayT p rs l c b lo base lb A cap w0 j W) (hf:Fr X W W')
  (hX:∀x,X x->w0.heap.size≤x∧x≠c∧x≠b∧x≠lb∧x<base∧lo≤x):LayT p rs l c b lo base lb A cap w0 j W':=by
 obtain⟨h1,h2,h3,h4,v,h5,h6⟩:=h
 exact⟨h1.trans hf (fun x hx hy=>by have:=hX x hy;omega),h2.keepX hf (fun hx=>(hX _ hx).2.1 rfl),h3.keep hf (fun x hx=>.inr (hX x hx).2.2.2.2.2) (fun _ _ _ h=>h),h4.keepX hf (fun hx=>(hX _ hx).2.2.2.1 rfl),v,h5.keepX hf (fun hx=>(hX _ hx).2.2.1 rfl),zms h6 hf (fun x hx=>(hX x hx).2.2.2.2.1)⟩
theorem LayT.keep {p:Plan} {rs:List Ref} {l c b lo base lb cap:Nat} {A:Option Addr} {w0 W W':World} {j:Nat} (h:LayT p rs l c b lo base lb A cap w0 j W) (hf:Fr No W W'):LayT p rs l c b lo base lb A cap w0 j W':=h.keepX hf zN
def zkk (L:List LFld) (p:Plan) (l bl n:Nat) (w:World) (e:Ending) (w':World):Prop:=
 ∃v,e=.returned v∧w'.ownsRow w.heap.size 199 5 v L.length (L.flatMap zj3)∧Fr (fun b=>b=bl) w w'∧Lg w' l bl n p
theorem zkl (l bl n:Nat) (p:Plan) (r:Ref) (w:World) (h:Lg w l bl n p) (hr:r.name.size≤maxLen) (wk:(Lit.int .i64 r.keeper).wf=true) (hn:n<1000000):
  Calls Tryz.prog 101 #[.pointer (some ⟨l,0,none⟩),.agg #[.int .i64 r.keeper,.string r.name]] w (zkk (layB p r) p l bl (n+1) w):=by
 obtain⟨rk,rn⟩:=r
 dsimp only at hr wk
 have hlt:=h.lt
 have h0:=h
 have hp:=h.ok
 obtain⟨wA,hwA⟩:∃wA,wA=((w.alloc (.cells #[.pointer (some ⟨l,0,none⟩)] 69)).alloc (.cells #[.int .i64 rk,.string rn] 108)):=⟨_,rfl⟩
 have hfA:Fr No w wA:=hwA▸frc
 have B0:Bx wA w.heap.size 69 #[.pointer (some ⟨l,0,none⟩)]:=hwA▸bxc
 have B1:Bx wA (w.heap.size+1) 108 #[.int .i64 rk,.string rn]:=hwA▸bxc
 have HC:=fun W (hW:Fr No wA W)=>zjo l bl n p ⟨rk,rn⟩ W ((h.keep hfA).keep hW) hr wk hn
 have hlay:layB p ⟨rk,rn⟩=if canB p ⟨rk,rn⟩ then layL p (zmF p ⟨rk,rn⟩) else []:=rfl
 have hall:=zhj hp ⟨rk,rn⟩
 have hlen:(zmF p ⟨rk,rn⟩).length≤6:=zhk hp _
 have HCH:=fun(g:Int->Str->Option Int) W (hW:zgF W l bl (n+1) p g)=>zmI l bl (n+1) p g ⟨rk,rn⟩ W hW hr
 generalize hL:layB p ⟨rk,rn⟩=L at *
 replace hL:=Lib.hid hL
 replace hlay:=Lib.hid hlay
 unfold zjn at HC
 have A0:=B0.c1
 obtain⟨A1,A2⟩:=B1.c2
 have L0:=B0.lt
 have L1:=B1.lt
 clear h
 refine(callsIn_wide (n:=4)).1 ?_
 refine callsIn_of_wp_marks Tryz.func101 rfl trivial ?_ rfl
 simp only[Tryz.ntmps101,List.size_toArray,List.length_cons,List.length_nil,Nat.reduceAdd,Nat.reduceSub,Array.replicate_succ,Array.replicate_zero,List.push_toArray,List.append_toArray,List.nil_append,List.cons_append]
 gi_wp2_with fail
 rw[<-hwA]
 replace hwA:=Lib.hid hwA
 refine⟨trivial,(callsIn_wide.2 (HC _ (Fr.refl _ _))).mono ?_⟩
 rintro e w1 ⟨rfl,hf1,hL1⟩
 have hw1:Fr (fun b=>b=bl) w w1:=hfA.of0.same hf1
 have hB0:=B0.keepX hf1 (by omega)
 have hB1:=B1.keepX hf1 (by omega)
 have hs1:=hf1.size
 obtain⟨g,hLo,hg⟩:=hL1
 clear A0 A1 A2 L0 L1 HC B0 B1
 cases hc:canB p ⟨rk,rn⟩
 ·have HS:Hid (L=[]):=hlay.out.trans (by rw[hc];rfl)
  clear hlay hall hlen HCH hL hc
  gi_wp2
  exact⟨.slice none 0 0,by simp[results,Tryz.results101,go_sem],_,rfl,by rw[HS.out];exact World.ownsRow_nil _ _ _ _,hw1,h0.over ⟨g,hLo,hg⟩ hw1 frx⟩
 ·have HS:Hid (L=layL p (zmF p ⟨rk,rn⟩)):=hlay.out.trans (by rw[hc];rfl)
  generalize zmF p ⟨rk,rn⟩=xs at *
  clear hlay hL hc
  obtain⟨x0,x1⟩:=hB1.c2
  have y0:=hB0.c1
  have hl0:=hB0.lt
  have hl1:=hB1.lt
  gi_wp2_with (first
   | (refine⟨trivial,?_⟩;gi_at_call 95;refine(callsIn_wide.2 (HCH g _ (hLo.keep frc))).mono ?_;rintro e w2 ⟨v2,rfl,hsl,hf2⟩;obtain⟨A2,c2,rfl,_,_⟩:=hsl.form)
   | (refine⟨trivial,?_⟩;gi_at_call 154;refine(callsIn_wide.2 (zaI _ _ _ _)).mono ?_;rintro e w' ⟨rfl,rfl⟩))
  have hbN:Bx w2 w1.heap.size 265 #[.slice none 0 0]:=(Bx.new_ rfl).keep hf2
  have hap:=zaJ hsl hbN
  have hsz2:=hf2.size
  simp at hsz2
  have hwl:=hl0
  obtain⟨W0,hW0⟩:∃W0,W0=w2.alloc (.cells #[.slice A2 xs.length c2] 180):=⟨_,rfl⟩
  have hfW:Fr No w1 W0:=hW0▸frc
  have hf20:Fr No w2 W0:=hW0▸frc
  have hsz:W0.heap.size=w2.heap.size+1:=by rw[hW0];simp
  have hT0:LayT p xs l w2.heap.size w1.heap.size w2.heap.size (W0.heap.size+2) w.heap.size A2 c2 w1 0 W0:=
   ⟨hfW,hW0▸Bx.new_ rfl,hap.k0 hf20,hB0.keep hfW,_,hbN.keep hf20,by rw[zkd];exact World.ownsRow_nil _ _ _ _⟩
  rw[<-hW0]
  clear hbN hap hW0 hfW hf20 hf2 hsl x0 x1 y0 hl0 hl1 HCH hB1
  refine zaG (n:=2) (fun x=>x=w1.heap.size∨w2.heap.size≤x) xs A2 c2 w2.heap.size (by omega) rfl rfl (LayT p xs l w2.heap.size w1.heap.size w2.heap.size (W0.heap.size+2) w.heap.size A2 c2 w1) (fun _=>False)
   (fun j W h=>⟨h.2.1,h.2.2.1⟩) (fun j W W' h hf=>h.keepX hf (fun x (hx:x=W0.heap.size+1)=>by omega)) (fun _ _ h _=>h) (fun o o'=>hT0.keep (((Fr.refl No _).alloc _).alloc _)) (by omega) ?round ?done (fun _ h _=>h.elim)
  case done=>
   rintro W hT hD
   obtain⟨q1,q2,q3,q4,v,q5,q6⟩:=hT
   obtain⟨Av,cv,rfl⟩:=zki q6
   have e5:=q5.c1
   have l5:=q5.lt
   rw[zkg] at q6 e5
   replace hD:=Lib.hid hD
   clear q5
   gi_wp2
   refine⟨by simp,.inl ⟨_,_,rfl,run_takeDeferred hD.out,?_⟩⟩
   have hfp:Fr (fun b=>b=W0.heap.size) W (W.putObj W0.heap.size (.deferred none)):=(Fr.refl _ W).putObj _ rfl
   have q7:=zms q6 hfp (fun x (hx:x=W0.heap.size)=>by omega)
   have hwf:Fr (fun b=>b=bl) w (W.putObj W0.heap.size (.deferred none)):=(hw1.trans0 q1).trans hfp (fun x hx (hy:x=W0.heap.size)=>by omega)
   have hf1p:Fr No w1 (W.putObj W0.heap.size (.deferred none)):=q1.trans hfp (fun x hx (hy:x=W0.heap.size)=>by omega)
   refine⟨.slice Av (layL p xs).length cv,by simp[results,Tryz.results101,go_sem],_,rfl,by rw[HS.out];exact zkj q7 (by omega),hwf,h0.over ⟨g,hLo.keep hf1p,hg⟩ hwf frx⟩
  case round=>
   intro j x W hT hO hlt
   have e:∀t:Array Value,((#[16,17]:Array Nat).zip (bwA x)).foldl (fun t x=>t.setIfInBounds x.1 x.2) t=(t.setIfInBounds 16 (.int .i64 x.1)).setIfInBounds 17 (.agg #[.int .i64 x.2.keeper,.string x.2.name]):=fun t=>by simp[bwA]
   simp only[e,lz0,lz2,lz1]
   clear e
   obtain⟨px,⟨kq,sq⟩⟩:=x
   gi_wp2
   refine⟨⟨Below.heap_alloc _ _ _ hlt,Below.heap_alloc _ _ _ (by omega)⟩,?_⟩
   intro W2 hf2
   have hT2:=(hT.keep ((Fr.refl No W).alloc (.cells #[.int .i64 kq,.string sq] 108))).keepX hf2 (fun x (hx:x=W0.heap.size+1)=>by omega)
   have hC2:=(Bx.new W 108 #[.int .i64 kq,.string sq]).keepX hf2 (by first|omega|(dsimp only;omega))
   obtain⟨_,kc,ix,hhr⟩:=hall _ (by obtain⟨_,_,h3⟩:=hO;exact List.mem_of_getElem? h3)
   obtain rfl:kq=(kc:Int):=hhr.1
   have hst:=zkf p hO
   have hl3:=zkh hp hall (j+1)
   rw[hst] at hl3
   obtain⟨q1,q2,q3,q4,v,q5,q6⟩:=hT2
   have hsq:sq.size≤maxLen:=(hall _ (by obtain⟨_,_,h3⟩:=hO;exact List.mem_of_getElem? h3)).1
   obtain⟨Af,cf,Am,cm,hR,HC1⟩:=zjq hLo hhr hsq
   have HCl:=fun W' (hW:Fr No W2 W')=>HC1 W' (q1.trans0 hW)
   have KC:=hC2.r2
   have KL:=q4.r1
   have hfl:Sl (fun b=>b=bl∨w1.heap.size≤b) W2 3 FldC (.slice Af (zbG p ⟨kc,sq⟩).fields.length cf) (zbG p ⟨kc,sq⟩).fields:=by obtain⟨_,_,he,_,_,h,_⟩:=hR;cases he;exact(h.oldX (by decide) (fun _ _ _ h=>h)).k0 q1
   gi_wp2_with fail
   refine zc5 5 [isV (.agg #[.int .i64 kc,.string sq]),isV (.pointer (some ⟨l,0,none⟩)),isV (.agg #[.int .i64 kc,.string sq]),isV (.agg #[.string (zbG p ⟨kc,sq⟩).name,.string (zbG p ⟨kc,sq⟩).super,.slice Af (zbG p ⟨kc,sq⟩).fields.length cf,.slice Am (zbG p ⟨kc,sq⟩).methods.length cm]),isV (.slice Af (zbG p ⟨kc,sq⟩).fields.length cf)] [false,false,false,false,false] [false,false,false,false,false] ?_ (by kernel_rfl) (by kernel_rfl) ?_ ?_ (by kernel_rfl) ?_ ?_
   ·intro x hx hb v W h
    simp only[List.zip_cons_cons,List.zip_nil_left,List.mem_cons,List.not_mem_nil,or_false] at hx
    rcases hx with rfl|rfl|rfl|rfl|rfl<;>first|(cases hb;done)|exact zaB h
   ·intro o ho d hd;simp only[lz7,List.take_zero,List.mem_cons,List.not_mem_nil,or_false] at ho;rcases ho with rfl|rfl|rfl|rfl|rfl<;>(cases hd;simp)
   ·intro x hx
    simp only[List.mem_cons,List.not_mem_nil,or_false] at hx
    rcases hx with rfl|rfl|rfl|rfl|rfl
    ·exact zaz _
    ·exact zaz _
    ·exact zaz _
    ·exact zaz _
    ·exact zaz _
   ·intro k o ho a' W hW hoff hdep
    have hbs:=hW.size
    have H7:=hoff 7 (by simp)
    have H2:=hoff 2 (by simp)
    simp only[Act.eval] at H7 H2
    simp only[lz7,List.take_zero] at ho hdep
    rcases k with _|_|_|_|_|k
    all_goals (first|(simp at ho;done)|skip)
    all_goals simp only[lz3,lz4,Option.some.injEq] at ho
    all_goals subst ho
    ·refine⟨fun h=>absurd h (by decide),fun _=>?_⟩
     unfold zab
     simp[execOp,Act.eval,go_sem,zaa, *]
     exact⟨Fr.refl _ _,rfl⟩
    ·refine⟨fun h=>absurd h (by decide),fun _=>?_⟩
     unfold zab
     simp[execOp,Act.eval,go_sem,zaa, *]
     exact⟨Fr.refl _ _,rfl⟩
    ·refine⟨fun h=>absurd h (by decide),fun _=>?_⟩
     unfold zab
     simp[execOp,Act.eval,go_sem,zaa, *]
     exact⟨Fr.refl _ _,rfl⟩
    ·have D19:a'.eval (.tmp 19)=.pointer (some ⟨l,0,none⟩):=hdep ⟨1,.data⟩ (by simp) rfl _ 19 rfl rfl
     have D20:a'.eval (.tmp 20)=.agg #[.int .i64 kc,.string sq]:=hdep ⟨2,.data⟩ (by simp) rfl _ 20 rfl rfl
     simp only[Act.eval] at D19 D20
     refine⟨fun h=>absurd h (by decide),fun _=>?_⟩
     unfold zab
     simp[Act.eval,D19,D20,go_sem,zaa]
     exact(HCl _ hW).mono fun e w' h=>⟨_,h.1,h.2,rfl⟩
    ·have D21:a'.eval (.tmp 21)=.agg #[.string (zbG p ⟨kc,sq⟩).name,.string (zbG p ⟨kc,sq⟩).super,.slice Af (zbG p ⟨kc,sq⟩).fields.length cf,.slice Am (zbG p ⟨kc,sq⟩).methods.length cm]:=hdep ⟨3,.data⟩ (by simp) rfl _ 21 rfl rfl
     simp only[Act.eval] at D21
     refine⟨fun h=>absurd h (by decide),fun _=>?_⟩
     unfold zab
     simp[execOp,Act.eval,D21,go_sem,zaa]
     exact⟨Fr.refl _ _,rfl⟩
   intro vs WR hWR hv hne
   have e0:vs 0=_:=hv 0 (by omega)
   have e1:vs 1=_:=hv 1 (by omega)
   have e2:vs 2=_:=hv 2 (by omega)
   have e3:vs 3=_:=hv 3 (by omega)
   have e4:vs 4=_:=hv 4 (by omega)
   simp only[lz7,List.take_zero,lz6,List.drop_zero,zad,if_true,Nat.zero_add,Nat.reduceAdd,e0,e1,e2,e3,e4]
   simp only[Act.put,lz0,lz1,lz2]
   clear e0 e1 e2 e3 e4 hv
   have q1R:=q1.trans0 hWR
   have hA:=zkc (fun x=>x=bl∨w1.heap.size≤x) w1.heap.size (W0.heap.size+2) ⟨kc,sq⟩ Af cf (zbG p ⟨kc,sq⟩).fields (accJ p xs j) v WR (q5.keep hWR) (zms q6 hWR zN) (hfl.k0 hWR) (fun x hx=>.inr (by omega)) (by omega) (by have:=hWR.size;have:=hf2.size;simp at *;omega) (by unfold zj5 at hl3;simp[zjJ] at hl3;omega)
   go_wp2_with (go_at_call 155;refine hA.mono ?_;rintro e w9 ⟨⟨v9,rfl⟩,⟨v',hb9,hr9⟩,hf9⟩)
   have hs2:=hf2.size
   have hsR:=hWR.size
   simp at hs2
   refine⟨⟨(hf9.block _ (by omega) (by first|omega|(dsimp only;omega))).trans (hWR.block _ (by omega) (fun h=>h)),(hf9.block _ (by omega) (by first|omega|(dsimp only;omega))).trans (hWR.block _ (by omega) (fun h=>h))⟩,?_⟩
   exact⟨q1R.trans hf9 (fun x hx hy=>by omega),(q2.keep hWR).keepX hf9 (by first|omega|(dsimp only;omega)),(q3.k0 hWR).keep hf9 (fun x hx=>by omega) (fun _ _ _ h=>h),(q4.keep hWR).keepX hf9 (by first|omega|(dsimp only;omega)),v',hb9,by rw[hst];exact hr9⟩
attribute [local go_sem] Oper.semAt_some
def FstT (p:Plan) (rs:List Ref) (q:Ref) (l c lb ob fb:Nat) (A:Option Addr) (cap:Nat) (w0:World) (j:Nat) (W:World):Prop:=
 Fr No w0 W∧Bx W c 180 #[.slice A rs.length cap]∧Sl (fun x=>x=fb∨c≤x) W 2 RefC (.slice A rs.length cap) rs∧Bx W lb 69 #[.pointer (some ⟨l,0,none⟩)]∧Bx W ob 108 #[.int .i64 q.keeper,.string q.name] ∧
 ∃n:Nat,Hid (zjE p rs.reverse q=n+zjE p (rs.reverse.drop j) q)∧n≤3 * j∧Bx W fb 3 #[.int .i64 n]
theorem FstT.keepX {p:Plan} {rs:List Ref} {q:Ref} {l c lb ob fb cap:Nat} {A:Option Addr} {w0 W W':World} {j:Nat} {X:Nat->Prop} (h:FstT p rs q l c lb ob fb A cap w0 j W) (hf:Fr X W W')
  (hX:∀x,X x->w0.heap.size≤x∧x≠c∧x≠lb∧x≠ob∧x≠fb) (hsl:Sl (fun x=>x=fb∨c≤x) W' 2 RefC (.slice A rs.length cap) rs):FstT p rs q l c lb ob fb A cap w0 j W':=by
 obtain⟨h1,h2,h3,h4,h5,n,h6,h7,h8⟩:=h
 exact⟨h1.trans hf (fun x hx hy=>(by have:=hX x hy;omega)),h2.keepX hf (fun hx=>(hX _ hx).2.1 rfl),hsl,h4.keepX hf (fun hx=>(hX _ hx).2.2.1 rfl),h5.keepX hf (fun hx=>(hX _ hx).2.2.2.1 rfl),n,h6,h7,h8.keepX hf (fun hx=>(hX _ hx).2.2.2.2 rfl)⟩
theorem zv6 (n:Int) (w:World):Calls Tryz.prog 25 #[.int .i64 n] w (zgm (numB n) w):=by
 go_enter Tryz.func25,Tryz.ntmps25
 by_cases h1:-9999≤n
 ·by_cases h2:n≤9999
  ·go_wp2
   go_ret
   exact .mk (by simp[numB,h1,h2]) (by exact frc)
  ·go_wp2
   go_ret
   exact .mk (by simp[numB,h2]) (by exact frc)
 ·go_wp2
  go_ret
  exact .mk (by unfold numB;rw[decide_eq_false (show ¬-9999≤n by omega)];rfl) (by exact frc)
def zo5 (b:Bool) (p:Plan) (l bl n:Nat) (w:World) (e:Ending) (w':World):Prop:=
 e=.returned (.bool b)∧Fr (fun b=>b=bl) w w'∧Lg w' l bl n p
theorem zo5.mk {b c:Bool} {p:Plan} {l bl n:Nat} {w w':World} (h:b=c) (hf:Fr (fun b=>b=bl) w w') (hl:Lg w' l bl n p):zo5 c p l bl n w (.returned (.bool b)) w':=⟨by rw[h],hf,hl⟩
def GotJ (p:Plan) (l bl n:Nat) (a:World) (j:Nat) (W:World):Prop:=Fr (fun b=>b=bl) a W∧Lg W l bl (n+j) p
theorem GotJ.to {p:Plan} {l bl n j:Nat} {a W W':World} (h:GotJ p l bl n a j W) (hf:Fr No W W'):GotJ p l bl n a j W':=⟨h.1.trans0 hf,h.2.keep hf⟩
abbrev tVal:TypeId:=32
def zv7 (v:Val):List Value:=[.int .i64 v.kind,.int .i64 v.n]
def zv8 (w:World) (v:Value) (xs:List Val):Prop:=RowV w tVal 2 v xs.length (xs.flatMap zv7)
theorem zv9 (v:Val):(zv7 v).length=2:=rfl
theorem zv8.keepB {X:Nat->Prop} {w w':World} {v:Value} {xs:List Val} (h:zv8 w v xs) (hf:Fr X w w') (hX:∀q∈rowB v,¬X q):zv8 w' v xs:=RowV.keepB h hf hX
theorem zv8.keep0 {w w':World} {v:Value} {xs:List Val} (h:zv8 w v xs) (hf:Fr No w w'):zv8 w' v xs:=RowV.keep0 h hf
theorem zv8.sl {X:Nat->Prop} {w:World} {v:Value} {xs:List Val} (h:zv8 w v xs) (hX:∀q,zcP v=some q->¬X q):Sl X w 2 ValC v xs:=
 RowV.slW zv9 h rfl (fun _ _ _=>rfl) hX
def zwa (x:Int):List Value:=[.int .i64 x]
theorem zwb (x:Int):(zwa x).length=1:=rfl
def zwc (w:World) (v:Value) (xs:List Int):Prop:=RowV w 3 1 v xs.length (xs.flatMap zwa)
theorem zwc.keepB {X:Nat->Prop} {w w':World} {v:Value} {xs:List Int} (h:zwc w v xs) (hf:Fr X w w') (hX:∀q∈rowB v,¬X q):zwc w' v xs:=RowV.keepB h hf hX
theorem zwc.sl {X:Nat->Prop} {w:World} {v:Value} {xs:List Int} (h:zwc w v xs) (hX:∀q,zcP v=some q->¬X q):Sl X w 1 OutC v xs:=
 RowV.slW zwb h rfl (fun _ _ _=>rfl) hX
theorem zwd:(Tryz.prog.info? 32).map (fun i=>(i.zero,i.size,i.bytes))=some (some (.agg #[.int .i64 0,.int .i64 0]),2,16):=by kernel_rfl
theorem Sl.newsW {β:Type} {X:Nat->Prop} {w:World} {b off n cap sz:Nat} {C:β->List Value} {R:List Value->β->Prop} {xs:List β} (h:Sl X w sz R (.slice (some ⟨b,off,none⟩) n cap) xs) (hsz:0<sz) (hC:∀x,(C x).length=sz) (hR:∀cs x,R cs x->cs=C x):
  ∀j u,(xs.flatMap C)[j]? =some u->w.cell? ((⟨b,off,none⟩:Addr).add j)=some u:=by
 intro j u hu
 have e:(⟨b,off,none⟩:Addr).add j=⟨b,off+j,none⟩:=by
  unfold Addr.add
  by_cases hj:j=0
  ·subst hj;rfl
  ·rw[if_neg hj]
 have hj:j<xs.length * sz:=by
  have:=(List.getElem?_eq_some_iff.1 hu).1
  rwa [zqA hC] at this
 have hk:j / sz<xs.length:=Nat.div_lt_of_lt_mul (by rw[Nat.mul_comm];exact hj)
 have hm:j % sz<sz:=Nat.mod_lt _ hsz
 obtain⟨b',off',cs,hA,_,hRc,hc⟩:=h.cells hk
 simp only[Option.some.injEq,Addr.mk.injEq,and_true] at hA
 obtain⟨rfl,rfl⟩:=hA
 have h2:=zqB hC xs (j / sz) hk (j % sz) hm
 have hdm:j / sz * sz+j % sz=j:=by rw[Nat.mul_comm];exact Nat.div_add_mod j sz
 rw[hdm] at h2
 rw[h2,<-hR _ _ hRc] at hu
 rw[e]
 have:=hc (j % sz) u hm hu
 rw[<-this]
 congr 2
 omega
theorem zwe {β:Type} {X:Nat->Prop} {w:World} {sz n c:Nat} {R:List Value->β->Prop} {xs:List β} (h:Sl X w sz R (.slice none n c) xs):xs=[]:=by
 obtain⟨A',cap',he,_,_,h3⟩:=h
 rcases Nat.eq_zero_or_pos xs.length with h0|h0
 ·exact List.eq_nil_of_length_eq_zero h0
 ·obtain⟨b,off,hA,_⟩:=h3 h0
  cases he
  cases hA
def zwf (xs:List Val) (w:World) (e:Ending) (w':World):Prop:=∃v,e=.returned v∧zv8 w' v xs∧(∀q,zcP v=some q->w.heap.size≤q∧0<xs.length)∧Fr No w w'
def zwg (xs:List Int) (w:World) (e:Ending) (w':World):Prop:=∃v,e=.returned v∧zwc w' v xs∧(∀q,zcP v=some q->w.heap.size≤q∧0<xs.length)∧Fr No w w'
theorem zwh (X:Nat->Prop) (v:Value) (xs:List Val) (w:World) (h:Sl X w 2 ValC v xs) (hl:xs.length≤1000):
  Calls Tryz.prog 107 #[v] w (zwf xs w):=by
 have hnil:∀(A:Option Addr) (n c:Nat) (w:World),(binOp .eql 132 (.slice A n c) (.slice none 0 0)).run Tryz.prog w=.ok (.bool A.isNone) w:=fun A n c w=>by
  simp[binOp,run_equal_slice_nil w 132 32 A n c Tryz.underlying132]
 obtain⟨A,cap,rfl,_,_⟩:=h.form
 cases A with
 | none=>
  obtain rfl:=zwe h
  go_enter Tryz.func107,Tryz.ntmps107
  go_wp2
  refine bodyPost_ret (v:=.slice none 0 0) (by simp[results,Tryz.results107,go_sem]) rfl ?_
  exact⟨_,rfl,RowV.nil _ _ _,(fun _ hq=>by cases hq),Fr.refl _ _⟩
 | some a=>
  obtain⟨i0,hi,hz0,hz1,hz2⟩:=info_parts zwd
  have hlen:xs.length=0∨0<xs.length:=by omega
  rcases hlen with h0|h0
  ·obtain rfl:=List.eq_nil_of_length_eq_zero h0
   have hrun:=fun(ty:TypeId) (w:World) (b:Addr) (c:Nat)=>zcT (P:=Tryz.prog) w 132 ty 32 i0 Tryz.underlying132 hi (some b) (some a) c
   go_enter Tryz.func107,Tryz.ntmps107
   go_wp2_with fail
   refine bodyPost_ret (v:=.slice (some ⟨w.heap.size,0,none⟩) 0 0) (by simp[results,Tryz.results107,go_sem]) rfl ?_
   exact⟨_,rfl,.inr ⟨rfl,rfl,_,rfl⟩,(fun _ hq=>by rw[zcQ,if_pos rfl] at hq;cases hq),frc⟩
  ·obtain⟨b,off,cs,hA,_,_,_⟩:=h.cells h0
   cases hA
   have hnews:=(h.keep (R':=ValC) (show Fr No w (w.alloc (.cells #[] 32)) from frc) zN (fun _ _ _ h=>h)).newsW (C:=zv7) (by decide) zv9 (fun _ _ h=>h)
   replace hi:=Lib.hid hi
   replace hz0:=Lib.hid hz0
   replace hz1:=Lib.hid hz1
   replace hz2:=Lib.hid hz2
   replace hnews:=Lib.hid hnews
   go_enter Tryz.func107,Tryz.ntmps107
   go_wp2_with (at_builtin;refine zcS _ rfl _ _ 132 rfl 32 i0 (.agg #[.int .i64 0,.int .i64 0]) 2 16 Tryz.underlying132 hi.out hz0.out hz1.out hz2.out rfl (by decide) (.slice (some ⟨w.heap.size,0,none⟩) 0 0) 0 [] rfl (.inr ⟨rfl,rfl,_,rfl⟩) ⟨b,off,none⟩ xs.length cap (xs.flatMap zv7) rfl (zqA zv9 xs) hnews.out (by intro u hu;obtain⟨t,_,ht⟩:=List.mem_flatMap.1 hu;simp only[zv7,List.mem_cons,List.not_mem_nil,or_false] at ht;rcases ht with rfl|rfl<;>rfl) h0 (by unfold maxLen;omega) (by omega) ?_;intro g' cap' w2 hrow hcap hgf hor)
   simp only[Nat.zero_add,List.nil_append] at hrow hcap
   have hor2:w.heap.size≤g':=by
    rcases hor with h9|h9
    ·rw[zcQ,if_pos rfl] at h9;cases h9
    ·rw[h9];simp
   have hgf2:Fr No w w2:=(show Fr No w (w.alloc (.cells #[] 32)) from frc).trans hgf (fun _ _ e=>by rw[zcQ,if_pos rfl] at e;cases e)
   refine bodyPost_ret (v:=.slice (some ⟨g',0,none⟩) xs.length cap') (by simp[results,Tryz.results107,go_sem, *]) rfl ?_
   exact⟨_,rfl,hrow,(fun q hq=>by rw[zcQ,if_neg (by omega)] at hq;cases hq;exact⟨hor2,h0⟩),hgf2⟩
theorem zwi (X:Nat->Prop) (v:Value) (xs:List Int) (w:World) (h:Sl X w 1 OutC v xs) (hl:xs.length≤1000):
  Calls Tryz.prog 106 #[v] w (zwg xs w):=by
 have hnil:∀(A:Option Addr) (n c:Nat) (w:World),(binOp .eql 26 (.slice A n c) (.slice none 0 0)).run Tryz.prog w=.ok (.bool A.isNone) w:=fun A n c w=>by
  simp[binOp,run_equal_slice_nil w 26 3 A n c Tryz.underlying26]
 obtain⟨A,cap,rfl,_,_⟩:=h.form
 cases A with
 | none=>
  obtain rfl:=zwe h
  go_enter Tryz.func106,Tryz.ntmps106
  go_wp2
  refine bodyPost_ret (v:=.slice none 0 0) (by simp[results,Tryz.results106,go_sem]) rfl ?_
  exact⟨_,rfl,RowV.nil _ _ _,(fun _ hq=>by cases hq),Fr.refl _ _⟩
 | some a=>
  obtain⟨i0,hi,hz0,hz1,hz2⟩:=info_parts zbb
  have hlen:xs.length=0∨0<xs.length:=by omega
  rcases hlen with h0|h0
  ·obtain rfl:=List.eq_nil_of_length_eq_zero h0
   have hrun:=fun(ty:TypeId) (w:World) (b:Addr) (c:Nat)=>zcT (P:=Tryz.prog) w 26 ty 3 i0 Tryz.underlying26 hi (some b) (some a) c
   go_enter Tryz.func106,Tryz.ntmps106
   go_wp2_with fail
   refine bodyPost_ret (v:=.slice (some ⟨w.heap.size,0,none⟩) 0 0) (by simp[results,Tryz.results106,go_sem]) rfl ?_
   exact⟨_,rfl,.inr ⟨rfl,rfl,_,rfl⟩,(fun _ hq=>by rw[zcQ,if_pos rfl] at hq;cases hq),frc⟩
  ·obtain⟨b,off,cs,hA,_,_,_⟩:=h.cells h0
   cases hA
   have hnews:=(h.keep (R':=OutC) (show Fr No w (w.alloc (.cells #[] 3)) from frc) zN (fun _ _ _ h=>h)).newsW (C:=zwa) (by decide) zwb (fun _ _ h=>h)
   replace hi:=Lib.hid hi
   replace hz0:=Lib.hid hz0
   replace hz1:=Lib.hid hz1
   replace hz2:=Lib.hid hz2
   replace hnews:=Lib.hid hnews
   go_enter Tryz.func106,Tryz.ntmps106
   go_wp2_with (at_builtin;refine zcS _ rfl _ _ 26 rfl 3 i0 (.int .i64 0) 1 8 Tryz.underlying26 hi.out hz0.out hz1.out hz2.out rfl (by decide) (.slice (some ⟨w.heap.size,0,none⟩) 0 0) 0 [] rfl (.inr ⟨rfl,rfl,_,rfl⟩) ⟨b,off,none⟩ xs.length cap (xs.flatMap zwa) rfl (zqA zwb xs) hnews.out (by intro u hu;obtain⟨t,_,ht⟩:=List.mem_flatMap.1 hu;simp only[zwa,List.mem_cons,List.not_mem_nil,or_false] at ht;subst ht;rfl) h0 (by unfold maxLen;omega) (by omega) ?_;intro g' cap' w2 hrow hcap hgf hor)
   simp only[Nat.zero_add,List.nil_append] at hrow hcap
   have hor2:w.heap.size≤g':=by
    rcases hor with h9|h9
    ·rw[zcQ,if_pos rfl] at h9;cases h9
    ·rw[h9];simp
   have hgf2:Fr No w w2:=(show Fr No w (w.alloc (.cells #[] 3)) from frc).trans hgf (fun _ _ e=>by rw[zcQ,if_pos rfl] at e;cases e)
   refine bodyPost_ret (v:=.slice (some ⟨g',0,none⟩) xs.length cap') (by simp[results,Tryz.results106,go_sem, *]) rfl ?_
   exact⟨_,rfl,hrow,(fun q hq=>by rw[zcQ,if_neg (by omega)] at hq;cases hq;exact⟨hor2,h0⟩),hgf2⟩
theorem zdP {P:Program} {f:FuncId} {args:Array Value} {w:World} {Q:Ending->World->Prop} (R:World->Prop) (h:R w) (k:∀W,R W->Calls P f args W Q):Calls P f args w Q:=k w h
def ErrV (c:Int) (v:Value) (w:World):Prop:=(c=1∧v=.nilIface)∨(c≠1∧∃b,v=.iface 189 (.pointer (some ⟨b,0,none⟩))∧Bx w b 191 #[.int .i64 c])
theorem ErrV.keep {c:Int} {v:Value} {w w':World} (h:ErrV c v w) (hf:Fr No w w'):ErrV c v w':=by
 rcases h with h | ⟨h,b,h1,h2⟩
 ·exact .inl h
 ·exact .inr ⟨h,b,h1,h2.keep hf⟩
theorem ErrV.mk {c:Int} {b:Nat} {w:World} (hc:c≠1) (h:Bx w b 191 #[.int .i64 c]):ErrV c (.iface 189 (.pointer (some ⟨b,0,none⟩))) w:=.inr ⟨hc,b,rfl,h⟩
theorem zdQ {l bl n:Nat} {p:Plan} {g:Int->Str->Option Int} {k i a:Nat} {s:Str} {w:World} (h:zgF w l bl n p g) (hh:Here p ⟨k,s⟩ k i) (hs:s.size≤maxLen) (ha:a<(zbG p ⟨k,s⟩).methods.length):
  ∃cs:List Value,MthC (fun b=>b=bl) w cs (zbG p ⟨k,s⟩).methods[a]∧∀W,Fr No w W->Calls Tryz.prog 54 #[.pointer (some ⟨l,0,none⟩),.agg #[.int .i64 k,.string s,.int .i64 a]] W (Gives (.agg cs.toArray) W):=by
 obtain⟨Af,cf,Am,cm,hR,HC⟩:=zjq h hh hs
 generalize zbG p ⟨k,s⟩=c at *
 obtain⟨vf,vm,he,_,_,_,hm⟩:=hR
 simp only[List.cons.injEq,true_and,and_true] at he
 obtain⟨rfl,rfl⟩:=he
 have hml:=hm.at_.2.2.1
 unfold maxLen at hml
 obtain⟨bm,om,Aa,ca,Ac,cc,Ax,cx,rfl,_,d0,d1,d2,d3,d4,d5,d6,d7,hr1,hr2,hr3,hr4,hr5,_,_,_,_,_,_⟩:=hm.mth ha
 refine⟨[.string c.methods[a].name,.slice Aa c.methods[a].args.length ca,.int .i64 c.methods[a].ret.kind,.string c.methods[a].ret.name,.int .i64 c.methods[a].locals,.int .i64 c.methods[a].stack,.slice Ac c.methods[a].code.length cc,.slice Ax c.methods[a].maps.length cx],⟨_,_,_,rfl,hr1,hr2,hr3,hr4,hr5⟩,fun w0 hW=>?_⟩
 clear hm hr1 hr2 hr3 hr4 hr5
 generalize c.methods[a]=m at *
 replace d0:=hW.keep0 d0
 replace d1:=hW.keep0 d1
 replace d2:=hW.keep0 d2
 replace d3:=hW.keep0 d3
 replace d4:=hW.keep0 d4
 replace d5:=hW.keep0 d5
 replace d6:=hW.keep0 d6
 replace d7:=hW.keep0 d7
 replace HC:=fun W' (h:Fr No w0 W')=>HC W' (hW.trans0 h)
 have hk0:(0:Int)≤(a:Int):=by omega
 have hka:(a:Int)<(c.methods.length:Int):=by omega
 clear hW h hh
 obtain⟨wA,hwA⟩:∃wA,wA=((w0.alloc (.cells #[.int .i64 k,.string s,.int .i64 a] 113)).alloc (.cells #[.string ⟨#[]⟩,.slice none 0 0,.int .i64 0,.string ⟨#[]⟩,.int .i64 0,.int .i64 0,.slice none 0 0,.slice none 0 0] 125)):=⟨_,rfl⟩
 have hfA:Fr No w0 wA:=hwA▸frc
 have B0:Bx wA w0.heap.size 113 #[.int .i64 k,.string s,.int .i64 a]:=hwA▸bxc
 have B1:Bx wA (w0.heap.size+1) 125 #[.string ⟨#[]⟩,.slice none 0 0,.int .i64 0,.string ⟨#[]⟩,.int .i64 0,.int .i64 0,.slice none 0 0,.slice none 0 0]:=hwA▸bxc
 replace d0:=cr (hfA.keep0 d0)
 replace d1:=cr (hfA.keep0 d1)
 replace d2:=cr (hfA.keep0 d2)
 replace d3:=cr (hfA.keep0 d3)
 replace d4:=cr (hfA.keep0 d4)
 replace d5:=cr (hfA.keep0 d5)
 replace d6:=cr (hfA.keep0 d6)
 replace d7:=cr (hfA.keep0 d7)
 have K0:=B0.r3
 go_enter Tryz.func54,Tryz.ntmps54
 go_wp2_with fail
 rw[<-hwA]
 clear hwA
 refine zn0 9 14 [mV (.pointer (some ⟨l,0,none⟩)),mV (.pointer (some ⟨w0.heap.size,0,none⟩)),mV (.agg #[.int .i64 k,.string s]),mV (.agg #[.string c.name,.string c.super,.slice Af c.fields.length cf,.slice (some ⟨bm,om,none⟩) c.methods.length cm]),mV (.slice (some ⟨bm,om,none⟩) c.methods.length cm),mV (.pointer (some ⟨w0.heap.size,2,none⟩)),mV (.int .i64 a),mV (.pointer (some ⟨bm,om+a * 8,none⟩)),mV (.agg #[.string m.name,.slice Aa m.args.length ca,.int .i64 m.ret.kind,.string m.ret.name,.int .i64 m.locals,.int .i64 m.stack,.slice Ac m.code.length cc,.slice Ax m.maps.length cx])] (by kernel_rfl) (by kernel_rfl) (by simp) ?_ ?_
 ·refine hc4 ?_ ?_ ?_ ?_ <| hc4 ?_ ?_ ?_ ?_ <| hopC ?_ <| hopZ
  all_goals (intro a' W hW hoff hdep;have hbs:=hW.size;have H0:=hoff 0 rfl;have H3:=hoff 3 rfl;refine nE rfl ?_)
  ·simp[execOp,Act.eval,H0,go_sem,zaa];exact fr1 rfl
  ·simp[execOp,Act.eval,H3,go_sem,zaa];exact fr1 rfl
  ·have D6:_=_:=hdep 1 6 rfl;clear hoff hdep;simp[execOp,Act.eval,go_sem,zaa, *];exact fr1 rfl
  ·have D5:_=_:=hdep 0 5 rfl;have D7:_=_:=hdep 2 7 rfl;simp[Act.eval,D5,D7,go_sem,zaa];exact(HC _ (hfA.trans0 hW)).mono fun e w'' h=>⟨_,h.1,h.2,rfl⟩
  ·have D8:_=_:=hdep 3 8 rfl;simp[execOp,Act.eval,D8,go_sem,zaa];exact fr1 rfl
  ·simp[execOp,Act.eval,H3,go_sem,zaa];exact fr1 rfl
  ·have D10:_=_:=hdep 5 10 rfl;clear hoff hdep;simp[execOp,Act.eval,go_sem,zaa, *];exact fr1 rfl
  ·have D9:_=_:=hdep 4 9 rfl;have D11:_=_:=hdep 6 11 rfl;clear hoff hdep;simp[execOp,Act.eval,go_sem,zaa, *];exact fr1 rfl
  ·have D12:_=_:=hdep 7 12 rfl;clear hoff hdep;simp[execOp,Act.eval,go_sem,zaa, *];exact fr1 rfl
 intro vs WR hWR hv hne
 simp only[lz6,List.drop_zero,znK,znR,Nat.zero_add,Nat.reduceAdd]
 simp only[Act.put,lz0,lz1,lz2]
 clear hv
 have q1:Fr No w0 WR:=hfA.trans0 hWR
 have B1':=B1.keep hWR
 obtain⟨z0,z1,z2,z3,z4,z5,z6,z7⟩:=B1'.c8
 have zf:=fun j=>B1'.frozen j
 have zl:=B1'.lt
 go_wp2
 refine bodyPost_ret (v:=.agg #[.string m.name,.slice Aa m.args.length ca,.int .i64 m.ret.kind,.string m.ret.name,.int .i64 m.locals,.int .i64 m.stack,.slice Ac m.code.length cc,.slice Ax m.maps.length cx]) (by simp[results,Tryz.results54,go_sem, *]) rfl ?_
 exact .mk1 rfl frc
def zdR (p:Plan) (k:Int) (s:Str):Ref×Int:=
 if (zmD p k s).2=1 then (if canB p (zmD p k s).1 then ((zmD p k s).1,1) else (zbH,4)) else (zbH,2)
def zdS (p:Plan) (k:Int) (s m:Str):Ref×Int:=if namB m then zdR p k s else (zbH,2)
theorem zdT {p:Plan} {k:Int} {s:Str} (h:zmD p k s=(zbH,2)):zdR p k s=(zbH,2):=by
 unfold zdR;rw[h];rfl
def zdU (q:Ref×Int) (p:Plan) (l bl n:Nat) (w:World) (e:Ending) (w':World):Prop:=
 ∃ev,e=.returned (.tuple #[.agg #[.int .i64 q.1.keeper,.string q.1.name],ev])∧ErrV q.2 ev w'∧Fr (fun b=>b=bl) w w'∧Lg w' l bl (n+1) p
theorem zdU.mk {q:Ref×Int} {p:Plan} {l bl n:Nat} {w w':World} {v ev:Value} {r:Ref} {c:Int} (hq:q=(r,c)) (hv:v=.tuple #[.agg #[.int .i64 r.keeper,.string r.name],ev]) (he:ErrV c ev w') (hf:Fr (fun b=>b=bl) w w') (hl:Lg w' l bl (n+1) p):zdU q p l bl n w (.returned v) w':=by
 subst hq;subst hv;exact⟨_,rfl,he,hf,hl⟩
theorem zdV {w:World} {l bl n:Nat} {p:Plan} (h:Lg w l bl n p) (k:Int):
  Calls Tryz.prog 23 #[.pointer (some ⟨l,0,none⟩),.int .i64 k] w (zgl (hasK p k) w):=by
 obtain⟨g,⟨hp,A,cap,bo,ba,hB,_⟩,_⟩:=h
 have h3:=zbM hp
 exact zgq l p.keepers.length cap A _ _ _ k w hB (by unfold maxLen;omega)
theorem zdW {k:Nat} (h:k<4):(Lit.int .i64 (k:Int)).wf=true:=by
 rcases k with _|_|_|_|k
 ·rfl
 ·rfl
 ·rfl
 ·rfl
 ·omega
theorem zdX (l bl n:Nat) (p:Plan) (k:Int) (s m:Str) (w:World) (h:Lg w l bl n p) (hs:s.size≤maxLen) (hm:m.size≤maxLen) (hn:n<1000000):
  Calls Tryz.prog 97 #[.pointer (some ⟨l,0,none⟩),.int .i64 k,.string s,.string m] w (zdU (zdS p k s m) p l bl n w):=by
 have hp:=h.ok
 have hlt:=h.lt
 have h0:=h
 have HH:=fun W (hW:Fr No w W)=>zdV (h.keep hW) k
 have HN:=fun W=>zeE s W hs
 have HM:=fun W=>zeE m W hm
 cases hk:hasK p k
 ·have HS:Hid (zdS p k s m=(zbH,2)):=by
   show zdS p k s m=_
   unfold zdS
   rw[zdT (zg9 hk)]
   cases namB m<;>rfl
  rw[hk] at HH
  clear hk h hp
  go_enter Tryz.func97,Tryz.ntmps97
  go_wp2_with (go_at_call 23;refine(HH _ frc).mono ?_;rintro e w' ⟨rfl,rfl⟩)
  refine bodyPost_ret (v:=.tuple #[.agg #[.int .i64 0,.string ⟨#[]⟩],.iface 189 (.pointer (some ⟨w.heap.size+1,0,none⟩))]) (by simp[results,Tryz.results97,go_sem, *]) rfl ?_
  exact .mk HS.out rfl (.mk (by decide) bxc) frc ((h0.keep frc).mono (by omega))
 rw[hk] at HH
 cases hns:namB s
 ·have HS:Hid (zdS p k s m=(zbH,2)):=by
   show zdS p k s m=_
   unfold zdS
   rw[zdT (zg8 hp hns)]
   cases namB m<;>rfl
  rw[hns] at HN
  clear hk h hp hns
  go_enter Tryz.func97,Tryz.ntmps97
  go_wp2_with (first
   | (go_at_call 23;refine(HH _ frc).mono ?_;rintro e w' ⟨rfl,rfl⟩)
   | (go_at_call 24;refine(HN _).mono ?_;rintro e w' ⟨rfl,rfl⟩))
  refine bodyPost_ret (v:=.tuple #[.agg #[.int .i64 0,.string ⟨#[]⟩],.iface 189 (.pointer (some ⟨w.heap.size+1,0,none⟩))]) (by simp[results,Tryz.results97,go_sem, *]) rfl ?_
  exact .mk HS.out rfl (.mk (by decide) bxc) frc ((h0.keep frc).mono (by omega))
 rw[hns] at HN
 cases hnm:namB m
 ·have HS:Hid (zdS p k s m=(zbH,2)):=by
   show zdS p k s m=_
   unfold zdS
   rw[hnm]
   rfl
  rw[hnm] at HM
  clear hk h hp hns hnm
  go_enter Tryz.func97,Tryz.ntmps97
  go_wp2_with (first
   | (go_at_call 23;refine(HH _ frc).mono ?_;rintro e w' ⟨rfl,rfl⟩)
   | (go_at_call 24;(first|refine(HN _).mono ?_|refine(HM _).mono ?_);rintro e w' ⟨rfl,rfl⟩))
  refine bodyPost_ret (v:=.tuple #[.agg #[.int .i64 0,.string ⟨#[]⟩],.iface 189 (.pointer (some ⟨w.heap.size+1,0,none⟩))]) (by simp[results,Tryz.results97,go_sem, *]) rfl ?_
  exact .mk HS.out rfl (.mk (by decide) bxc) frc ((h0.keep frc).mono (by omega))
 rw[hnm] at HM
 have hV:zdS p k s m=zdR p k s:=by unfold zdS;rw[hnm];rfl
 rw[hV]
 have B0:Bx (w.alloc (.cells #[.int .i64 0,.string ⟨#[]⟩] 108)) w.heap.size 108 #[.int .i64 0,.string ⟨#[]⟩]:=bxc
 obtain⟨g,hLo,hg⟩:=h
 have HF:=fun W (hW:Fr No w W)=>find_ok l bl n p g k s W (hLo.keep hW) hs
 clear hV hk hns hnm
 by_cases hc:(zmD p k s).2=1
 ·obtain⟨kc,i,pre,hq,hh,_⟩:=zmH hp hc
  have h3:=zbM hp
  have hkl:=hh.2.1
  have wk:=zdW (show kc<4 by omega)
  have HC:=fun W (hW:Lg W l bl n p)=>zjo l bl n p ⟨(kc:Int),s⟩ W hW hs wk hn
  have hV:zdR p k s=if canB p ⟨kc,s⟩ then (⟨kc,s⟩,1) else (zbH,4):=by
   unfold zdR
   rw[if_pos hc,hq]
  rw[hq] at HF
  unfold refV at HF
  unfold zjn at HC
  replace hV:=Lib.hid hV
  generalize zdR p k s=V at *
  clear hc hq hh hp h3 hkl wk
  dsimp only at HF HC
  generalize canB p ⟨kc,s⟩=cb at *
  go_enter Tryz.func97,Tryz.ntmps97
  go_wp2_with (first
   | (go_at_call 23;refine(HH _ frc).mono ?_;rintro e w' ⟨rfl,rfl⟩)
   | (go_at_call 24;(first|refine(HN _).mono ?_|refine(HM _).mono ?_);rintro e w' ⟨rfl,rfl⟩)
   | (go_at_call 50;refine(HF _ frc).mono ?_;rintro e w1 ⟨rfl,hf1⟩;have q1:Fr No w w1:=frc;have B1:=B0.keep hf1;have l1:=B1.lt))
  refine zdP (fun W=>Bx W w.heap.size 108 #[.int .i64 0,.string ⟨#[]⟩]∧Bx W w1.heap.size 108 #[.int .i64 kc,.string s]∧Fr No w W) ⟨bxc,bxc,frc⟩ ?_
  rintro Wz ⟨hB,hR,hwz⟩
  refine(HC Wz (h0.keep hwz)).mono ?_
  rintro e w2 ⟨rfl,hf2,hL2⟩
  have hw2:Fr (fun b=>b=bl) w w2:=hwz.of0.same hf2
  obtain⟨z0,z1⟩:=(hB.keepX hf2 (by omega)).c2
  have zf:=fun j=>(hB.keepX hf2 (by omega)).frozen j
  have zl:=(hB.keepX hf2 (by omega)).lt
  obtain⟨y0,y1⟩:=(hR.keepX hf2 (by omega)).c2
  have yl:=(hR.keepX hf2 (by omega)).lt
  clear hf1 q1 B0 B1 HH HN HM HF HC hf2 hB hR hwz
  cases cb
  ·go_wp2
   refine bodyPost_ret (v:=.tuple #[.agg #[.int .i64 0,.string ⟨#[]⟩],.iface 189 (.pointer (some ⟨w2.heap.size,0,none⟩))]) (by simp[results,Tryz.results97,go_sem, *]) rfl ?_
   exact .mk hV.out rfl (.mk (by decide) bxc) frc (h0.over hL2 hw2 frx)
  ·go_wp2
   refine bodyPost_ret (v:=.tuple #[.agg #[.int .i64 kc,.string s],.nilIface]) (by simp[results,Tryz.results97,go_sem, *]) rfl ?_
   exact .mk hV.out rfl (.inl ⟨rfl,rfl⟩) frc (h0.over hL2 hw2 frx)
 ·have HS:Hid (zdR p k s=(zbH,2)):=by
   show zdR p k s=_
   unfold zdR
   rw[if_neg hc]
  unfold refV at HF
  have hc':((zmD p k s).2 != 1)=true:=by simpa using hc
  generalize zmD p k s=q at *
  obtain⟨⟨kc,nm⟩,c⟩:=q
  dsimp only at *
  clear hc
  go_enter Tryz.func97,Tryz.ntmps97
  go_wp2_with (first
   | (go_at_call 23;refine(HH _ frc).mono ?_;rintro e w' ⟨rfl,rfl⟩)
   | (go_at_call 24;(first|refine(HN _).mono ?_|refine(HM _).mono ?_);rintro e w' ⟨rfl,rfl⟩)
   | (go_at_call 50;refine(HF _ frc).mono ?_;rintro e w1 ⟨rfl,hf1⟩;have q1:Fr No w w1:=frc;have B1:=B0.keep hf1;have l1:=B1.lt;have ⟨z0,z1⟩:=B1.c2;have zf:=(fun j=>B1.frozen j)))
  refine bodyPost_ret (v:=.tuple #[.agg #[.int .i64 0,.string ⟨#[]⟩],.iface 189 (.pointer (some ⟨w1.heap.size+1,0,none⟩))]) (by simp[results,Tryz.results97,go_sem, *]) rfl ?_
  exact .mk HS.out rfl (.mk (by decide) bxc) frc ((h0.keep frc).mono (by omega))
theorem ErrV.nil {v:Value} {w:World} (h:ErrV 1 v w):v=.nilIface:=by
 rcases h with ⟨_,h⟩ | ⟨h,_⟩
 ·exact h
 ·exact absurd rfl h
theorem ErrV.some {c:Int} {v:Value} {w:World} (hc:¬c=1) (h:ErrV c v w):∃b,v=.iface 189 (.pointer (some ⟨b,0,none⟩))∧Bx w b 191 #[.int .i64 c]:=by
 rcases h with ⟨h,_⟩ | ⟨_,h⟩
 ·exact absurd h hc
 ·exact h
theorem zdY {p:Plan} {s:Str}:∀(rs:List Ref) {q:Ref} {i:Int},zho p s rs=some (q,i)->q∈rs∧∃a:Nat,i=a∧a<(zbG p q).methods.length
 | [],_,_,h=>by cases h
 | r :: rs,q,i,h=>by
  unfold zho at h
  by_cases hx:ixOf (zeU s) (zbG p r).methods<0
  ·rw[if_pos hx] at h
   obtain⟨h1,h2⟩:=zdY rs h
   exact⟨List.mem_cons_of_mem _ h1,h2⟩
  ·rw[if_neg hx] at h
   have hr:=zeS (zeU s) (zbG p r).methods
   cases h
   exact⟨List.mem_cons_self ..,(ixOf (zeU s) (zbG p r).methods).toNat,by omega,by omega⟩
theorem zdZ {p:Plan} (hp:lodB p=true) {r q:Ref} {s:Str} {i:Int} (h:zhp p r s=some (q,i)):q.name.size≤maxLen∧∃k ix a:Nat,Here p q k ix∧i=a∧a<(zbG p q).methods.length:=by
 unfold zhp at h
 split at h
 ·obtain⟨h1,a,h2,h3⟩:=zdY _ h
  obtain⟨h4,k,ix,h5⟩:=zhj hp r q h1
  exact⟨h4,k,ix,a,h5,h2,h3⟩
 ·cases h
theorem zd0 {p:Plan} (hp:lodB p=true) {k:Int} {s:Str} {r:Ref} (h:zdR p k s=(r,1)):∃kc i:Nat,r=⟨kc,s⟩∧Here p ⟨kc,s⟩ kc i∧canB p ⟨kc,s⟩=true∧zmD p k s=(⟨kc,s⟩,1):=by
 unfold zdR at h
 by_cases hc:(zmD p k s).2=1
 ·obtain⟨kc,i,pre,hq,hh,_⟩:=zmH hp hc
  rw[if_pos hc,hq] at h
  cases hcb:canB p ⟨kc,s⟩
  ·dsimp only at h
   rw[hcb] at h
   cases h
  ·dsimp only at h
   rw[hcb] at h
   cases h
   exact⟨kc,i,rfl,hh,hcb,hq⟩
 ·rw[if_neg hc] at h
  cases h
theorem zd1 {p:Plan} (hp:lodB p=true) {k:Int} {s m:Str} {r:Ref} (h:zdS p k s m=(r,1)):∃kc i:Nat,r=⟨kc,s⟩∧Here p ⟨kc,s⟩ kc i:=by
 unfold zdS at h
 split at h
 ·obtain⟨kc,i,h1,h2,_⟩:=zd0 hp h
  exact⟨kc,i,h1,h2⟩
 ·cases h
def zd2:Mth:=⟨⟨#[]⟩,[],⟨0,⟨#[]⟩⟩,0,0,[],[]⟩
def zd3 (p:Plan) (k:Int) (m:Str) (rc:Ref×Int):(Ref×Int)×Int:=
 if rc.2=1 then
  match zhp p rc.1 m with
  | none=>((zbH,0),3)
  | some (q,a)=>if zgM p k q.keeper ((zbG p q).methods.getD a.toNat zd2) then ((q,a),1) else ((zbH,0),4)
 else ((zbH,0),rc.2)
def zd4 (p:Plan) (k:Int) (s m:Str):(Ref×Int)×Int:=zd3 p k m (zdS p k s m)
def zd6 (q:(Ref×Int)×Int) (p:Plan) (l bl n:Nat) (w:World) (e:Ending) (w':World):Prop:=
 ∃ev,e=.returned (.tuple #[.agg #[.int .i64 q.1.1.keeper,.string q.1.1.name,.int .i64 q.1.2],ev])∧ErrV q.2 ev w'∧Fr (fun b=>b=bl) w w'∧Lg w' l bl (n+2) p
theorem zd6.mk {q:(Ref×Int)×Int} {p:Plan} {l bl n:Nat} {w w':World} {v ev:Value} {r:Ref} {i c:Int} (hq:q=((r,i),c)) (hv:v=.tuple #[.agg #[.int .i64 r.keeper,.string r.name,.int .i64 i],ev]) (he:ErrV c ev w') (hf:Fr (fun b=>b=bl) w w') (hl:Lg w' l bl (n+2) p):zd6 q p l bl n w (.returned v) w':=by
 subst hq;subst hv;exact⟨_,rfl,he,hf,hl⟩
theorem zd7 (l bl n:Nat) (p:Plan) (k:Int) (s m:Str) (w:World) (h:Lg w l bl n p) (hs:s.size≤maxLen) (hm:m.size≤maxLen) (hn:n<999999):
  Calls Tryz.prog 52 #[.pointer (some ⟨l,0,none⟩),.int .i64 k,.string s,.string m] w (zd6 (zd4 p k s m) p l bl n w):=by
 have hp:=h.ok
 have hlt:=h.lt
 have h0:=h
 have B0:Bx (w.alloc (.cells #[.int .i64 0,.string ⟨#[]⟩,.int .i64 0] 113)) w.heap.size 113 #[.int .i64 0,.string ⟨#[]⟩,.int .i64 0]:=bxc
 have HK:=fun W (hW:Fr No w W)=>zdX l bl n p k s m W (h.keep hW) hs hm (by omega)
 obtain⟨q,hq⟩:∃q,q=zdS p k s m:=⟨_,rfl⟩
 have hV:zd4 p k s m=zd3 p k m q:=by unfold zd4;rw[hq]
 rw[<-hq] at HK
 generalize zd4 p k s m=V at *
 obtain⟨⟨rk,rn⟩,c⟩:=q
 unfold zdU at HK
 dsimp only at HK
 clear h
 by_cases hc:c=1
 ·subst hc
  obtain⟨kc,i,hr,hh⟩:=zd1 hp hq.symm
  obtain⟨rfl,rfl⟩:=Ref.mk.inj hr
  have h3:=zbM hp
  have hkl:=hh.2.1
  have wk:=zdW (show kc<4 by omega)
  have HP:=fun W (hW:Lg W l bl (n+1) p)=>zjs l bl (n+1) p ⟨(kc:Int),rn⟩ m W hW hs hm wk (by omega)
  unfold zjr at HP
  clear hq hr hh h3 hkl wk
  unfold zd3 at hV
  dsimp only at hV
  rw[if_pos rfl] at hV
  cases ho:zhp p ⟨(kc:Int),rn⟩ m with
  | none=>
   rw[ho] at HP hV
   dsimp only at hV
   replace hV:=Lib.hid hV
   unfold zku at HP
   clear ho
   go_enter Tryz.func52,Tryz.ntmps52
   go_wp2_with (go_at_call 97;refine(HK _ frc).mono ?_;rintro e w1 ⟨ev,rfl,he,hf1,hL1⟩;obtain rfl:=he.nil;clear he)
   have hw1:Fr (fun b=>b=bl) w w1:=(show Fr No w (w.alloc (.cells #[.int .i64 0,.string ⟨#[]⟩,.int .i64 0] 113)) from frc).of0.same hf1
   have B1:=B0.keepX hf1 (by omega)
   have l1:=B1.lt
   clear HK B0
   go_wp2_with fail
   refine zdP (fun W=>Bx W w.heap.size 113 #[.int .i64 0,.string ⟨#[]⟩,.int .i64 0]∧Bx W w1.heap.size 108 #[.int .i64 kc,.string rn]∧Fr No w1 W) ⟨bxc,bxc,frc⟩ ?_
   rintro Wz ⟨hB,hR,hwz⟩
   refine(HP Wz (hL1.keep hwz)).mono ?_
   rintro e w2 ⟨rfl,hf2,hL2⟩
   have hw2:Fr (fun b=>b=bl) w w2:=(hw1.trans0 hwz).same hf2
   obtain⟨z0,z1,z2⟩:=(hB.keepX hf2 (by omega)).c3
   have zf:=fun j=>(hB.keepX hf2 (by omega)).frozen j
   have zl:=(hB.keepX hf2 (by omega)).lt
   clear hf1 B1 l1 hB hR hwz hf2 HP
   go_wp2
   refine bodyPost_ret (v:=.tuple #[.agg #[.int .i64 0,.string ⟨#[]⟩,.int .i64 0],.iface 189 (.pointer (some ⟨w2.heap.size+1,0,none⟩))]) (by simp[results,Tryz.results52,go_sem, *]) rfl ?_
   exact .mk hV.out rfl (.mk (by decide) bxc) frc (h0.over hL2 hw2 frx)
  | some qa=>
   obtain⟨⟨qk,qn⟩,a'⟩:=qa
   obtain⟨hqs,kq,ix,a,hh,rfl,ha⟩:=zdZ hp ho
   obtain rfl:qk=(kq:Int):=hh.1
   dsimp only at hqs
   rw[ho] at HP hV
   unfold zku at HP
   dsimp only at HP hV
   have hmt:(zbG p ⟨(kq:Int),qn⟩).methods.getD ((a:Int)).toNat zd2=(zbG p ⟨(kq:Int),qn⟩).methods[a]:=by simp[List.getD,lz8 ha]
   rw[hmt] at hV
   clear ho hmt
   have HMV:=fun W (g:Int->Str->Option Int) (hW:zgF W l bl (n+2) p g)=>zdQ hW hh hqs ha
   clear hh
   generalize(zbG p ⟨(kq:Int),qn⟩).methods[a]=mt at *
   clear ha
   replace hV:=Lib.hid hV
   go_enter Tryz.func52,Tryz.ntmps52
   go_wp2_with (go_at_call 97;refine(HK _ frc).mono ?_;rintro e w1 ⟨ev,rfl,he,hf1,hL1⟩;obtain rfl:=he.nil;clear he)
   have hw1:Fr (fun b=>b=bl) w w1:=(show Fr No w (w.alloc (.cells #[.int .i64 0,.string ⟨#[]⟩,.int .i64 0] 113)) from frc).of0.same hf1
   have B1:=B0.keepX hf1 (by omega)
   have l1:=B1.lt
   clear HK B0
   go_wp2_with fail
   refine zdP (fun W=>Bx W w.heap.size 113 #[.int .i64 0,.string ⟨#[]⟩,.int .i64 0]∧Bx W w1.heap.size 108 #[.int .i64 kc,.string rn]∧Fr No w1 W) ⟨bxc,bxc,frc⟩ ?_
   rintro Wz ⟨hB,hR,hwz⟩
   refine(HP Wz (hL1.keep hwz)).mono ?_
   rintro e w2 ⟨rfl,hf2,hL2⟩
   have hw2:Fr (fun b=>b=bl) w w2:=(hw1.trans0 hwz).same hf2
   have hB2:=hB.keepX hf2 (by omega)
   have l2:=hB2.lt
   clear hf1 B1 l1 hB hR hwz hf2 HP
   go_wp2_with fail
   refine zaE (fun W=>Bx W w.heap.size 113 #[.int .i64 0,.string ⟨#[]⟩,.int .i64 0]∧Bx W w2.heap.size 113 #[.int .i64 kq,.string qn,.int .i64 a]∧Fr No w2 W) ⟨bxc,bxc,frc⟩ ?_
   rintro wA ⟨hB,hR,hwz⟩
   obtain⟨g2,hLo2,hg2⟩:=hL2
   obtain⟨cs,hM,HMe⟩:=HMV wA g2 (hLo2.keep hwz)
   have HA:=fun W (hW:Fr No wA W)=>zgN _ l bl (n+2) p g2 k kq mt cs W ((hLo2.keep hwz).keep hW) (hM.keep hW zN)
   have K0:=hR.r3
   clear hM HMV hB2
   generalize zgM p k kq mt=ag at *
   refine zn0 9 48 [mV (.pointer (some ⟨l,0,none⟩)),mV (.int .i64 k),mV (.pointer (some ⟨w2.heap.size,0,none⟩)),mV (.pointer (some ⟨w2.heap.size,0,none⟩)),mV (.int .i64 kq),mV (.pointer (some ⟨l,0,none⟩)),mV (.agg #[.int .i64 kq,.string qn,.int .i64 a]),mV (.agg cs.toArray),mV (.bool ag)] (by kernel_rfl) (by kernel_rfl) (by simp) ?_ ?_
   ·refine hc4 ?_ ?_ ?_ ?_ <| hc4 ?_ ?_ ?_ ?_ <| hopC ?_ <| hopZ
    all_goals (intro a' W hW hoff hdep;have hbs:=hW.size;have H0:=hoff 0 rfl;have H1:=hoff 1 rfl;have H12:=hoff 12 rfl;refine nE rfl ?_)
    ·simp[execOp,Act.eval,H0,go_sem,zaa];exact fr1 rfl
    ·simp[execOp,Act.eval,H1,go_sem,zaa];exact fr1 rfl
    ·simp[execOp,Act.eval,H12,go_sem,zaa];exact fr1 rfl
    ·have D41:_=_:=hdep 2 41 rfl;simp[execOp,Act.eval,D41,go_sem,zaa];exact fr1 rfl
    ·have D42:_=_:=hdep 3 42 rfl;clear hoff hdep;simp[execOp,Act.eval,go_sem,zaa, *];exact fr1 rfl
    ·simp[execOp,Act.eval,H0,go_sem,zaa];exact fr1 rfl
    ·exact gx0
    ·have D44:_=_:=hdep 5 44 rfl;have D45:_=_:=hdep 6 45 rfl;simp[Act.eval,D44,D45,go_sem,zaa];exact(HMe _ hW).mono fun e w'' h=>⟨_,h.1,h.2,rfl⟩
    ·have D39:_=_:=hdep 0 39 rfl;have D40:_=_:=hdep 1 40 rfl;have D43:_=_:=hdep 4 43 rfl;have D46:_=_:=hdep 7 46 rfl;simp[Act.eval,D39,D40,D43,D46,go_sem,zaa];exact(HA _ hW).mono fun e w'' h=>⟨_,h.1,h.2,rfl⟩
   intro vs WR hWR hv hne
   simp only[lz6,List.drop_zero,znK,znR,Nat.zero_add,Nat.reduceAdd]
   simp only[Act.put,lz0,lz1,lz2]
   clear hv
   have hL3:Lg WR l bl (n+2) p:=⟨g2,(hLo2.keep hwz).keep hWR,hg2⟩
   have hw3:Fr (fun b=>b=bl) w WR:=(hw2.trans0 hwz).trans0 hWR
   have BZ:=hB.keep hWR
   have BR:=hR.keep hWR
   obtain⟨z0,z1,z2⟩:=BZ.c3
   have zf:=fun j=>BZ.frozen j
   have zl:=BZ.lt
   obtain⟨y0,y1,y2⟩:=BR.c3
   have yl:=BR.lt
   clear hB hR hwz K0 HA HMe hLo2 hg2
   cases ag
   ·go_wp2
    refine bodyPost_ret (v:=.tuple #[.agg #[.int .i64 0,.string ⟨#[]⟩,.int .i64 0],.iface 189 (.pointer (some ⟨WR.heap.size,0,none⟩))]) (by simp[results,Tryz.results52,go_sem, *]) rfl ?_
    exact .mk hV.out rfl (.mk (by decide) bxc) frc (h0.over hL3 hw3 frx)
   ·go_wp2
    refine bodyPost_ret (v:=.tuple #[.agg #[.int .i64 kq,.string qn,.int .i64 a],.nilIface]) (by simp[results,Tryz.results52,go_sem, *]) rfl ?_
    exact .mk hV.out rfl (.inl ⟨rfl,rfl⟩) frc (h0.over hL3 hw3 frx)
 ·unfold zd3 at hV
  dsimp only at hV
  rw[if_neg hc] at hV
  replace hV:=Lib.hid hV
  go_enter Tryz.func52,Tryz.ntmps52
  go_wp2_with (go_at_call 97;refine(HK _ frc).mono ?_;rintro e w1 ⟨ev,rfl,he,hf1,hL1⟩;obtain⟨eb,rfl,heb⟩:=he.some hc;clear he;have hw1:Fr (fun b=>b=bl) w w1:=(show Fr No w (w.alloc (.cells #[.int .i64 0,.string ⟨#[]⟩,.int .i64 0] 113)) from frc).of0.same hf1;have B1:=B0.keepX hf1 (by omega);have ⟨z0,z1,z2⟩:=B1.c3;have zf:=(fun j=>B1.frozen j);have zl:=B1.lt)
  have hne:eb≠w.heap.size:=by
   intro h9
   rw[h9] at heb
   unfold Bx at heb B1
   rw[heb] at B1
   simp at B1
  clear HK B0
  refine bodyPost_ret (v:=.tuple #[.agg #[.int .i64 0,.string ⟨#[]⟩,.int .i64 0],.iface 189 (.pointer (some ⟨eb,0,none⟩))]) (by simp[results,Tryz.results52,go_sem, *]) rfl ?_
  exact .mk hV.out rfl (.inr ⟨hc,eb,rfl,bxc⟩) frc ((h0.over hL1 hw1 frx).mono (by omega))
def lfV (f:LFld):Value:=.agg #[.int .i64 f.of_.keeper,.string f.of_.name,.int .i64 f.at_,.int .i64 f.kind.kind,.string f.kind.name]
def zd9 (q:LFld×Int) (p:Plan) (l bl n:Nat) (w:World) (e:Ending) (w':World):Prop:=
 ∃ev,e=.returned (.tuple #[lfV q.1,ev])∧ErrV q.2 ev w'∧Fr (fun b=>b=bl) w w'∧Lg w' l bl (n+2) p
theorem zd9.mk {q:LFld×Int} {p:Plan} {l bl n:Nat} {w w':World} {v ev:Value} {f:LFld} {c:Int} (hq:q=(f,c)) (hv:v=.tuple #[lfV f,ev]) (he:ErrV c ev w') (hf:Fr (fun b=>b=bl) w w') (hl:Lg w' l bl (n+2) p):zd9 q p l bl n w (.returned v) w':=by
 subst hq;subst hv;exact⟨_,rfl,he,hf,hl⟩
structure Frm where
 locals:List Tag
 stack:List Tag
def zcD (st:List Tag):Option (Tag×List Tag):=match st.getLast? with
 | none=>none
 | some x=>some (x,st.dropLast)
def zcG (p:Plan) (q:Ref×Int):Mth:=(zbG p q.1).methods.getD q.2.toNat zd2
def zwj:Val:=⟨0,0⟩
def St.ends (s:St) (c:Int):St:=⟨c,[],s.heap,s.outs,s.back⟩
def St.goes (s:St) (fs:List Cal):St:=⟨1,fs,s.heap,s.outs,s.back⟩
def Cal.left (f:Cal) (st:List Val):Cal:=⟨f.of_,f.pc,f.locals,st⟩
def zwk (p:Plan) (k:Int) (s:Str):Option Ref:=if (zmD p k s).2=1 then (if canB p (zmD p k s).1 then some (zmD p k s).1 else none) else none
def zwl (p:Plan) (r:Ref):List Val:=(layB p r).map fun f=>if f.kind.kind=1 then ⟨1,0⟩ else ⟨3,0⟩
def zwm (p:Plan) (of_:LMth) (h:List Obj) (vs:List Val):Bool:=
 (vs.zip (⟨2,of_.of_.name⟩ :: (zo3 p of_).args)).all fun x=>hasB p of_.of_.keeper h x.1 x.2
def zwn (m:Mth) (args:List Int):Bool:=decide (m.args.length=args.length)&&m.args.all fun k=>decide (k.kind=1)
def opsL:List Int:=[1,2,3,4,5,6,7,8,9,10,11,12,13,14,15]
def zn3 (c:List Ins):Prop:=∀i∈c,opsL.contains i.op=true
end Go.Proofs.YtmeaibjmnjcdfaaGreat
