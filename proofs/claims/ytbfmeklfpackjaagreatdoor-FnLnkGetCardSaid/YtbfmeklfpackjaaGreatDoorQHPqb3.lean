/- The layout of a class: all its fields, those from above first (the program's own). -/
import Derived.Test.YtbfmeklfpackjaaGreatDoorQHPqbE
import Derived.Test.YtbfmeklfpackjaaGreatDoorQHPqb2
set_option maxHeartbeats 8000000
set_option maxRecDepth 100000
namespace Go.Proofs.YtbfmeklfpackjaaGreatDoor
open Go.RowKit Go.Shelf
def zj3 (f:LFld):List Value:=[.int .i64 f.of_.keeper,.string f.of_.name,.int .i64 f.at_,.int .i64 f.kind.kind,.string f.kind.name]
def zj4 (cs:List Value) (f:LFld):Prop:=cs=zj3 f∧f.of_.name.size≤maxLen∧f.kind.name.size≤maxLen
def zj5 (r:Ref) (acc:List LFld) (fs:List Fld):List LFld:=acc ++ zjH acc.length (fs.map (r,·))
theorem zj6 (r:Ref) (acc:List LFld) (f:Fld) (fs:List Fld):zj5 r acc (f :: fs)=zj5 r (acc ++ [⟨r,acc.length,f.kind⟩]) fs:=by
 unfold zj5
 rw[List.map_cons,zjH,List.append_assoc,List.length_append]
 rfl
theorem zj7 (r:Ref) (acc:List LFld):zj5 r acc []=acc:=by simp[zj5,zjH]
theorem zj8 {w:World} {base sz n b:Nat} {v:Value} {e t:TypeId} {xs:List Value} {cs:Array Value} (h:w.ownsRow base e sz v n xs) (hb:Bx w b t cs) (hne:e≠t):∀q,v.ownBlock=some q->q≠b:=by
 intro q hq
 obtain⟨A,m,c,rfl⟩:∃A m c,v=.slice A m c:=by
  obtain⟨_,⟨rfl,_⟩ | ⟨g,cap,cur,rfl,_⟩⟩:=h<;>exact⟨_,_,_,rfl⟩
 obtain⟨_,⟨h1,_⟩ | ⟨g',cap',cur,h1,_,h2,_⟩⟩:=h
 ·cases h1;cases hq
 ·cases h1
  cases hq
  rintro rfl
  unfold Bx at hb
  rw[h2] at hb
  simp at hb
  exact hne hb.2
theorem zj9:(Tryz.prog.info? 53).map (fun i=>(i.zero,i.size,i.bytes))=some (some (.agg #[.int .i64 0,.string ⟨#[]⟩,.int .i64 0,.int .i64 0,.string ⟨#[]⟩]),5,56):=by kernel_rfl
def zka (b base:Nat) (xs:List LFld) (w:World) (e:Ending) (w':World):Prop:=
 (∃v,e=.returned v)∧(∃v,Bx w' b 130 #[v]∧w'.ownsRow base 53 5 v xs.length (xs.flatMap zj3))∧Fr (fun x=>x=b∨base≤x) w w'
theorem zkc (Y:Nat->Prop) (b base:Nat) (r:Ref) (A:Option Addr) (cap:Nat) (fs:List Fld) (cur:List LFld) (v:Value) (w:World)
  (hb:Bx w b 130 #[v]) (hrow:w.ownsRow base 53 5 v cur.length (cur.flatMap zj3)) (hs:Sl Y w 3 FldC (.slice A fs.length cap) fs) (hY:∀x,(x=b∨base≤x)->Y x)
  (hbb:b<base) (hbase:base≤w.heap.size) (hlen:cur.length+fs.length≤1000):
  Calls Tryz.prog 68 #[.pointer (some ⟨b,0,none⟩),.agg #[.int .i64 r.keeper,.string r.name],.slice A fs.length cap] w (zka b base (zj5 r cur fs) w):=by
 obtain⟨i0,hi,hz0,hz1,hz2⟩:=info_parts zj9
 obtain⟨rk,rn⟩:=r
 obtain⟨wA,hwA⟩:∃wA,wA=(w.alloc (.cells #[.int .i64 rk,.string rn] 29)):=⟨_,rfl⟩
 have hfA:Fr (fun x=>x=b∨base≤x) w wA:=hwA▸(Fr.refl _ w).alloc _
 have B0:Bx wA w.heap.size 29 #[.int .i64 rk,.string rn]:=hwA▸Bx.new_ rfl
 have hbA:Bx wA b 130 #[v]:=hwA▸hb.alloc _
 have hrowA:wA.ownsRow base 53 5 v cur.length (cur.flatMap zj3):=hwA▸hrow.alloc _
 have hbl:=hb.lt
 clear hb hrow
 dsimp only
 replace hi:=Lib.hid hi
 replace hz0:=Lib.hid hz0
 replace hz1:=Lib.hid hz1
 replace hz2:=Lib.hid hz2
 go_enter Tryz.func68,Tryz.ntmps68
 go_wp2
 rw[<-hwA]
 replace hwA:=Lib.hid hwA
 go_loopw [10] (fun i wr=>∃(k:Nat) (xs:List LFld) (u:Value),k≤fs.length∧i=.int .i64 k∧Hid (zj5 ⟨rk,rn⟩ cur fs=zj5 ⟨rk,rn⟩ xs (fs.drop k))∧xs.length=cur.length+k∧Bx wr w.heap.size 29 #[.int .i64 rk,.string rn] ∧
  Bx wr b 130 #[u]∧wr.ownsRow base 53 5 u xs.length (xs.flatMap zj3)∧Fr (fun x=>x=b∨base≤x) w wr) (fun i _=>fs.length-(intOf i).toNat)
 case atStart=>exact⟨0,cur,v,Nat.zero_le _,rfl,rfl,rfl,B0,hbA,hrowA,hfA⟩
 case round=>
  clear B0 hbA hrowA hfA
  obtain⟨k,xs,u,hk,rfl,hd,hxl,hB0,hbr,hrow,hw⟩:=hrel
  by_cases hlt:k<fs.length
  ·obtain⟨b9,off,rfl,hX,q0,q1,q2,hz1',hz2'⟩:=(hs.keep (R':=FldC) hw hY (fun _ _ _ h=>h)).fld hlt
   have q0l:=lt_of_cell q0
   rw[List.drop_eq_getElem_cons hlt,zj6] at hd
   have hd:=Lib.hid hd
   clear hs
   generalize fs[k]=f at *
   obtain⟨Av,nv,cv,rfl⟩:∃A n c,u=Value.slice A n c:=by
    obtain⟨_,⟨rfl,_⟩ | ⟨g,cap,cur,rfl,_⟩⟩:=hrow<;>exact⟨_,_,_,rfl⟩
   have hnv:=zmq hrow
   dsimp only[sliceLen] at hnv
   subst hnv
   obtain⟨W0,hW0⟩:∃W0,W0=(wr.alloc (.cells #[.string f.name,.int .i64 f.kind.kind,.string f.kind.name] 64)):=⟨_,rfl⟩
   have hf0:Fr No wr W0:=hW0▸(Fr.refl No wr).alloc _
   have hF:Bx W0 wr.heap.size 64 #[.string f.name,.int .i64 f.kind.kind,.string f.kind.name]:=hW0▸Bx.new_ rfl
   have hR0:=hB0.keep hf0
   have hL0:=hbr.keep hf0
   have hrow0:W0.ownsRow base 53 5 (.slice Av xs.length cv) xs.length (xs.flatMap zj3):=hW0▸hrow.alloc _
   have KF:=hF.r3
   have KR:=hR0.r2
   have KL:=hL0.r1
   have hwl:=hw.size
   have hxm:xs.length≤1000:=by omega
   go_wp2_with fail
   rw[<-hW0]
   replace hW0:=Lib.hid hW0
   refine zn0 15 29 [mE (mV (.pointer (some ⟨b,0,none⟩))),mV (.pointer (some ⟨b,0,none⟩)),mV (.pointer (some ⟨b,0,none⟩)),mV (.pointer (some ⟨b,0,none⟩)),mV (.slice Av xs.length cv),mV (.agg #[.int .i64 rk,.string rn]),mV (.pointer (some ⟨b,0,none⟩)),mV (.pointer (some ⟨b,0,none⟩)),mV (.pointer (some ⟨b,0,none⟩)),mV (.slice Av xs.length cv),mV (.int .i64 xs.length),mV (.pointer (some ⟨wr.heap.size,1,none⟩)),mV (.agg #[.int .i64 f.kind.kind,.string f.kind.name]),mV (.agg #[.int .i64 rk,.string rn,.int .i64 xs.length,.int .i64 f.kind.kind,.string f.kind.name]),mS 53 (#[.int .i64 rk,.string rn,.int .i64 xs.length,.int .i64 f.kind.kind,.string f.kind.name]) 1 W0.heap.size] (by kernel_rfl) (by kernel_rfl) (by simp) ?_ ?_
   ·refine hc4 ?_ ?_ ?_ ?_ <| hc4 ?_ ?_ ?_ ?_ <| hc4 ?_ ?_ ?_ ?_ <| hopC ?_ <| hopC ?_ <| hopC ?_ <| hopZ
    all_goals (intro a' W hW hoff hdep;have hbs:=hW.size;have H0:=hoff 0 rfl;have H4:=hoff 4 rfl;have H7:=hoff 7 rfl)
    ·exact yE rfl ⟨.pointer (some ⟨b,0,none⟩),fun W=>by simp[execOp,Act.eval,H0,go_sem],rfl,rfl⟩
    ·refine nE rfl ?_;simp[execOp,Act.eval,H0,go_sem,zaa];exact fr1 rfl
    ·have D15:_=_:=hdep 1 15 rfl;refine nE rfl ?_;simp[execOp,Act.eval,D15,go_sem,zaa];exact fr1 rfl
    ·have D16:_=_:=hdep 2 16 rfl;refine nE rfl ?_;simp[execOp,Act.eval,D16,go_sem,zaa];exact fr1 rfl
    ·have D17:_=_:=hdep 3 17 rfl;refine nE rfl ?_;clear hoff hdep;simp[execOp,Act.eval,go_sem,zaa, *];exact fr1 rfl
    ·exact nE rfl gx0
    ·refine nE rfl ?_;simp[execOp,Act.eval,H0,go_sem,zaa];exact fr1 rfl
    ·have D20:_=_:=hdep 6 20 rfl;refine nE rfl ?_;simp[execOp,Act.eval,D20,go_sem,zaa];exact fr1 rfl
    ·have D21:_=_:=hdep 7 21 rfl;refine nE rfl ?_;simp[execOp,Act.eval,D21,go_sem,zaa];exact fr1 rfl
    ·have D22:_=_:=hdep 8 22 rfl;refine nE rfl ?_;clear hoff hdep;simp[execOp,Act.eval,go_sem,zaa, *];exact fr1 rfl
    ·have D23:_=_:=hdep 9 23 rfl;refine nE rfl ?_;simp[Act.eval,D23,go_sem,zaa];exact fr1 rfl
    ·refine nE rfl ?_;simp[execOp,Act.eval,H7,go_sem,zaa];exact fr1 rfl
    ·have D25:_=_:=hdep 11 25 rfl;refine nE rfl ?_;clear hoff hdep;simp[execOp,Act.eval,go_sem,zaa, *];exact fr1 rfl
    ·have D19:_=_:=hdep 5 19 rfl;have D24:_=_:=hdep 10 24 rfl;have D26:_=_:=hdep 12 26 rfl;simp at D19 D24 D26;refine nE rfl ?_;simp[execOp,Act.eval,D19,D24,D26,go_sem,zaa];exact fr1 rfl
    ·have D27:_=_:=hdep 13 27 rfl;simp at D27;refine nE rfl ?_;simp[execOp,Act.eval,D27,go_sem,zaa];exact⟨(Fr.refl _ _).alloc _,⟨_,rfl,Bx.new_ rfl,hbs⟩,Nat.le_refl _⟩
   intro vs WR hWR hv hne
   obtain⟨b14,e14,hb14,hl14⟩:=hv 14 (by omega)
   simp only[lz6,List.drop_zero,znL,znQ,znK,znR,Nat.zero_add,Nat.reduceAdd,e14]
   simp only[Act.put,lz0,lz1,lz2]
   clear e14 hv
   clear hne KF KR KL
   have hLR:=hL0.keep hWR
   have hrowR:=zms hrow0 hWR zN
   have hrl:=hrowR.lt
   have hfwR:Fr (fun x=>x=b∨base≤x) w WR:=(hw.trans0 hf0).trans0 hWR
   have hRR:=hR0.keep hWR
   have hs0:=hWR.size
   have hs1:=hf0.size
   clear hF hR0 hL0 hrow0 hrow hbr hB0 hw
   replace hrl:=Lib.hid hrl
   have hown:=zj8 hrowR hRR (by decide)
   replace hown:=Lib.hid hown
   replace hxl:=Lib.hid hxl
   have hsrc:Hid (∀(j:Nat) (u:Value),(zj3 ⟨⟨rk,rn⟩,xs.length,f.kind⟩)[j]? =some u->WR.cell? ((⟨b14,0,none⟩:Addr).add j)=some u):=fun j u h=>by
    rw[show((⟨b14,0,none⟩:Addr).add j)=⟨b14,j,none⟩ by simp[Addr.add];omega]
    rw[hb14.cell]
    simpa[zj3] using h
   go_wp2_with (at_builtin;refine wpList_append_own _ rfl _ _ 56 rfl base 53 i0 (.agg #[.int .i64 0,.string ⟨#[]⟩,.int .i64 0,.int .i64 0,.string ⟨#[]⟩]) 5 56 Tryz.underlying56 hi.out hz0.out hz1.out hz2.out rfl (by decide) _ _ _ rfl hrowR ⟨b14,0,none⟩ 1 1 (zj3 ⟨⟨rk,rn⟩,xs.length,f.kind⟩) rfl rfl hsrc.out (by simp[zj3,Value.oneCell']) (by unfold maxLen;omega) (by omega) (by omega) ?_;intro v' w1 hown' hgrow hnil;obtain⟨g',cap',rfl⟩:=ownsRow_succ hown';have hfg:Fr (fun x=>base≤x) WR w1:=(Fr.refl _ WR).grown hgrow (fun k e=>.inr (hrl.out k e).1);have hfo:Fr (fun x=>(Value.slice Av xs.length cv).ownBlock=some x) WR w1:=(Fr.refl _ WR).grown hgrow (fun k e=>.inr e);have p5:=hLR.keepX hfg (by first|omega|(dsimp only;omega));have e6:=p5.c1;have f6:=fun j=>p5.frozen j;have l7:=p5.lt)
   have hfs:Fr (fun x=>x=b) w1 (w1.setCell ⟨b,0,none⟩ (.slice (some ⟨g',0,none⟩) (xs.length+1) cap')):=Fr.setCellX (X:=fun x=>x=b) (p:=⟨b,0,none⟩) (Fr.refl _ w1) (by rfl) _
   have hfin:Fr (fun x=>x=b∨base≤x) w (w1.setCell ⟨b,0,none⟩ (.slice (some ⟨g',0,none⟩) (xs.length+1) cap')):=(hfwR.trans hfg (fun x _ hx=>.inr hx)).trans hfs (fun x _ hx=>.inl hx)
   have hr1:w1.ownsRow base 53 5 (.slice (some ⟨g',0,none⟩) (xs.length+1) cap') (xs ++ [(⟨⟨rk,rn⟩,xs.length,f.kind⟩:LFld)]).length ((xs ++ [(⟨⟨rk,rn⟩,xs.length,f.kind⟩:LFld)]).flatMap zj3):=by
    rw[List.flatMap_append,List.length_append]
    simpa using hown'
   have hr2:=zms hr1 hfs (fun x (hx:x=b)=>by omega)
   have hR2:=(hRR.keepX hfo (fun e=>hown.out _ e rfl)).keepX hfs (by first|omega|(dsimp only;omega))
   go_roundw
   case rel=>exact⟨k+1,xs ++ [⟨⟨rk,rn⟩,xs.length,f.kind⟩],_,by omega,by go_num,hd.out,by have:=hxl.out;simp;omega,hR2,p5.set_ 0 _,hr2,hfin⟩
   case measure=>simp[intOf];omega
  ·clear hs
   have HS:Hid (zj5 ⟨rk,rn⟩ cur fs=xs):=by have:=hd.out;rwa [List.drop_eq_nil_of_le (by omega),zj7] at this
   go_wp2
   go_end0
   exact⟨⟨_,rfl⟩,⟨u,hbr,by rw[HS.out];exact hrow⟩,hw⟩
attribute [local go_sem] Oper.semAt_some
def accJ (p:Plan) (rs:List Ref) (j:Nat):List LFld:=zjH 0 (zjB p (rs.reverse.take j))
theorem zkd (p:Plan) (rs:List Ref):accJ p rs 0=[]:=by simp[accJ,zjB,zjH]
theorem zke {xs:List Ref} {j:Nat} {x:Int×Ref} (h:bwOK xs j x):∃h:j<xs.reverse.length,xs.reverse[j]=x.2:=by
 obtain⟨h1,_,h3⟩:=h
 refine⟨by simpa using h1,?_⟩
 rw[List.getElem_reverse]
 rw[lz8 (by omega)] at h3
 exact Option.some.inj h3
theorem zkf (p:Plan) {rs:List Ref} {j:Nat} {x:Int×Ref} (h:bwOK rs j x):accJ p rs (j+1)=zj5 x.2 (accJ p rs j) (zbG p x.2).fields:=by
 obtain⟨hj,he⟩:=zke h
 unfold accJ zj5
 rw[List.take_succ_eq_append_getElem hj,he,zjD,zjI,zjJ,Nat.zero_add]
 simp[zjB]
theorem zkg (p:Plan) (rs:List Ref):accJ p rs rs.length=layL p rs:=by
 unfold accJ layL
 rw[List.take_of_length_le (by simp)]
theorem zkh {p:Plan} (hp:lodB p=true) {rs:List Ref} (h:zhb p rs) (j:Nat):(accJ p rs j).length≤3 * rs.length:=by
 unfold accJ
 rw[zjJ]
 have h1:=zjM hp (rs:=rs.reverse.take j) (fun x hx=>h x (by simpa using List.mem_of_mem_take hx))
 have h2:(rs.reverse.take j).length≤rs.length:=by simp;omega
 omega
theorem zki {w:World} {base sz n:Nat} {e:TypeId} {v:Value} {xs:List Value} (h:w.ownsRow base e sz v n xs):∃A c,v=.slice A n c:=by
 obtain⟨_,⟨rfl,rfl⟩ | ⟨g,cap,cur,rfl,_⟩⟩:=h<;>exact⟨_,_,rfl⟩
theorem zkj {w:World} {base base' sz n:Nat} {e:TypeId} {v:Value} {xs:List Value} (h:w.ownsRow base e sz v n xs) (hb:base'≤base):w.ownsRow base' e sz v n xs:=by
 obtain⟨h1,h2 | ⟨g,cap,cur,h2,h3,h4⟩⟩:=h
 ·exact⟨h1,.inl h2⟩
 ·exact⟨h1,.inr ⟨g,cap,cur,h2,Nat.le_trans hb h3,h4⟩⟩
def LayT (p:Plan) (rs:List Ref) (l c b lo base:Nat) (lb:Nat) (A:Option Addr) (cap:Nat) (w0:World) (j:Nat) (W:World):Prop:=
 Fr No w0 W∧Bx W c 59 #[.slice A rs.length cap]∧Sl (fun x=>x=b∨lo≤x) W 2 RefC (.slice A rs.length cap) rs∧Bx W lb 72 #[.pointer (some ⟨l,0,none⟩)] ∧
 ∃v,Bx W b 130 #[v]∧W.ownsRow base 53 5 v (accJ p rs j).length ((accJ p rs j).flatMap zj3)
theorem LayT.keepX {p:Plan} {rs:List Ref} {l c b lo base lb cap:Nat} {A:Option Addr} {w0 W W':World} {j:Nat} {X:Nat->Prop} (h:LayT p rs l c b lo base lb A cap w0 j W) (hf:Fr X W W')
  (hX:∀x,X x->w0.heap.size≤x∧x≠c∧x≠b∧x≠lb∧x<base∧lo≤x):LayT p rs l c b lo base lb A cap w0 j W':=by
 obtain⟨h1,h2,h3,h4,v,h5,h6⟩:=h
 exact⟨h1.trans hf (fun x hx hy=>by have:=hX x hy;omega),h2.keepX hf (fun hx=>(hX _ hx).2.1 rfl),h3.keep hf (fun x hx=>.inr (hX x hx).2.2.2.2.2) (fun _ _ _ h=>h),h4.keepX hf (fun hx=>(hX _ hx).2.2.2.1 rfl),v,h5.keepX hf (fun hx=>(hX _ hx).2.2.1 rfl),zms h6 hf (fun x hx=>(hX x hx).2.2.2.2.1)⟩
theorem LayT.keep {p:Plan} {rs:List Ref} {l c b lo base lb cap:Nat} {A:Option Addr} {w0 W W':World} {j:Nat} (h:LayT p rs l c b lo base lb A cap w0 j W) (hf:Fr No W W'):LayT p rs l c b lo base lb A cap w0 j W':=h.keepX hf zN
def zkk (L:List LFld) (p:Plan) (l bl n:Nat) (w:World) (e:Ending) (w':World):Prop:=
 ∃v,e=.returned v∧w'.ownsRow w.heap.size 53 5 v L.length (L.flatMap zj3)∧Fr (fun b=>b=bl) w w'∧Lg w' l bl n p
theorem zkl (l bl n:Nat) (p:Plan) (r:Ref) (w:World) (h:Lg w l bl n p) (hr:r.name.size≤maxLen) (wk:(Lit.int .i64 r.keeper).wf=true) (hn:n<1000000):
  Calls Tryz.prog 39 #[.pointer (some ⟨l,0,none⟩),.agg #[.int .i64 r.keeper,.string r.name]] w (zkk (layB p r) p l bl (n+1) w):=by
 obtain⟨rk,rn⟩:=r
 dsimp only at hr wk
 have hlt:=h.lt
 have h0:=h
 have hp:=h.ok
 obtain⟨wA,hwA⟩:∃wA,wA=((w.alloc (.cells #[.pointer (some ⟨l,0,none⟩)] 72)).alloc (.cells #[.int .i64 rk,.string rn] 29)):=⟨_,rfl⟩
 have hfA:Fr No w wA:=hwA▸frc
 have B0:Bx wA w.heap.size 72 #[.pointer (some ⟨l,0,none⟩)]:=hwA▸bxc
 have B1:Bx wA (w.heap.size+1) 29 #[.int .i64 rk,.string rn]:=hwA▸bxc
 have HC:=fun W (hW:Fr No wA W)=>zjo l bl n p ⟨rk,rn⟩ W ((h.keep hfA).keep hW) hr wk hn
 have hlay:layB p ⟨rk,rn⟩=if canB p ⟨rk,rn⟩ then layL p (zmF p ⟨rk,rn⟩) else []:=rfl
 have hall:=zhj hp ⟨rk,rn⟩
 have hlen:(zmF p ⟨rk,rn⟩).length≤6:=zhk hp _
 have HCH:=fun(g:Int->Str->Option Int) W (hW:zgF W l bl (n+1) p g)=>zmI l bl (n+1) p g ⟨rk,rn⟩ W hW hr
 generalize hL:layB p ⟨rk,rn⟩=L at *
 replace hL:=Lib.hid hL
 replace hlay:=Lib.hid hlay
 unfold zjn at HC
 have A0:=B0.c1
 obtain⟨A1,A2⟩:=B1.c2
 have L0:=B0.lt
 have L1:=B1.lt
 clear h
 refine(callsIn_wide (n:=4)).1 ?_
 refine callsIn_of_wp_marks Tryz.func39 rfl trivial ?_ rfl
 simp only[Tryz.ntmps39,List.size_toArray,List.length_cons,List.length_nil,Nat.reduceAdd,Nat.reduceSub,Array.replicate_succ,Array.replicate_zero,List.push_toArray,List.append_toArray,List.nil_append,List.cons_append]
 gi_wp2_with fail
 rw[<-hwA]
 replace hwA:=Lib.hid hwA
 refine⟨trivial,(callsIn_wide.2 (HC _ (Fr.refl _ _))).mono ?_⟩
 rintro e w1 ⟨rfl,hf1,hL1⟩
 have hw1:Fr (fun b=>b=bl) w w1:=hfA.of0.same hf1
 have hB0:=B0.keepX hf1 (by omega)
 have hB1:=B1.keepX hf1 (by omega)
 have hs1:=hf1.size
 obtain⟨g,hLo,hg⟩:=hL1
 clear A0 A1 A2 L0 L1 HC B0 B1
 cases hc:canB p ⟨rk,rn⟩
 ·have HS:Hid (L=[]):=hlay.out.trans (by rw[hc];rfl)
  clear hlay hall hlen HCH hL hc
  gi_wp2
  exact⟨.slice none 0 0,by simp[results,Tryz.results39,go_sem],_,rfl,by rw[HS.out];exact World.ownsRow_nil _ _ _ _,hw1,h0.over ⟨g,hLo,hg⟩ hw1 frx⟩
 ·have HS:Hid (L=layL p (zmF p ⟨rk,rn⟩)):=hlay.out.trans (by rw[hc];rfl)
  generalize zmF p ⟨rk,rn⟩=xs at *
  clear hlay hL hc
  obtain⟨x0,x1⟩:=hB1.c2
  have y0:=hB0.c1
  have hl0:=hB0.lt
  have hl1:=hB1.lt
  gi_wp2_with (first
   | (refine⟨trivial,?_⟩;gi_at_call 43;refine(callsIn_wide.2 (HCH g _ (hLo.keep frc))).mono ?_;rintro e w2 ⟨v2,rfl,hsl,hf2⟩;obtain⟨A2,c2,rfl,_,_⟩:=hsl.form)
   | (refine⟨trivial,?_⟩;gi_at_call 67;refine(callsIn_wide.2 (zaI _ _ _ _)).mono ?_;rintro e w' ⟨rfl,rfl⟩))
  have hbN:Bx w2 w1.heap.size 130 #[.slice none 0 0]:=(Bx.new_ rfl).keep hf2
  have hap:=zaJ hsl hbN
  have hsz2:=hf2.size
  simp at hsz2
  have hwl:=hl0
  obtain⟨W0,hW0⟩:∃W0,W0=w2.alloc (.cells #[.slice A2 xs.length c2] 59):=⟨_,rfl⟩
  have hfW:Fr No w1 W0:=hW0▸frc
  have hf20:Fr No w2 W0:=hW0▸frc
  have hsz:W0.heap.size=w2.heap.size+1:=by rw[hW0];simp
  have hT0:LayT p xs l w2.heap.size w1.heap.size w2.heap.size (W0.heap.size+2) w.heap.size A2 c2 w1 0 W0:=
   ⟨hfW,hW0▸Bx.new_ rfl,hap.k0 hf20,hB0.keep hfW,_,hbN.keep hf20,by rw[zkd];exact World.ownsRow_nil _ _ _ _⟩
  rw[<-hW0]
  clear hbN hap hW0 hfW hf20 hf2 hsl x0 x1 y0 hl0 hl1 HCH hB1
  refine zaG (n:=2) (fun x=>x=w1.heap.size∨w2.heap.size≤x) xs A2 c2 w2.heap.size (by omega) rfl rfl (LayT p xs l w2.heap.size w1.heap.size w2.heap.size (W0.heap.size+2) w.heap.size A2 c2 w1) (fun _=>False)
   (fun j W h=>⟨h.2.1,h.2.2.1⟩) (fun j W W' h hf=>h.keepX hf (fun x (hx:x=W0.heap.size+1)=>by omega)) (fun _ _ h _=>h) (fun o o'=>hT0.keep (((Fr.refl No _).alloc _).alloc _)) (by omega) ?round ?done (fun _ h _=>h.elim)
  case done=>
   rintro W hT hD
   obtain⟨q1,q2,q3,q4,v,q5,q6⟩:=hT
   obtain⟨Av,cv,rfl⟩:=zki q6
   have e5:=q5.c1
   have l5:=q5.lt
   rw[zkg] at q6 e5
   replace hD:=Lib.hid hD
   clear q5
   gi_wp2
   refine⟨by simp,.inl ⟨_,_,rfl,run_takeDeferred hD.out,?_⟩⟩
   have hfp:Fr (fun b=>b=W0.heap.size) W (W.putObj W0.heap.size (.deferred none)):=(Fr.refl _ W).putObj _ rfl
   have q7:=zms q6 hfp (fun x (hx:x=W0.heap.size)=>by omega)
   have hwf:Fr (fun b=>b=bl) w (W.putObj W0.heap.size (.deferred none)):=(hw1.trans0 q1).trans hfp (fun x hx (hy:x=W0.heap.size)=>by omega)
   have hf1p:Fr No w1 (W.putObj W0.heap.size (.deferred none)):=q1.trans hfp (fun x hx (hy:x=W0.heap.size)=>by omega)
   refine⟨.slice Av (layL p xs).length cv,by simp[results,Tryz.results39,go_sem],_,rfl,by rw[HS.out];exact zkj q7 (by omega),hwf,h0.over ⟨g,hLo.keep hf1p,hg⟩ hwf frx⟩
  case round=>
   intro j x W hT hO hlt
   have e:∀t:Array Value,((#[16,17]:Array Nat).zip (bwA x)).foldl (fun t x=>t.setIfInBounds x.1 x.2) t=(t.setIfInBounds 16 (.int .i64 x.1)).setIfInBounds 17 (.agg #[.int .i64 x.2.keeper,.string x.2.name]):=fun t=>by simp[bwA]
   simp only[e,lz0,lz2,lz1]
   clear e
   obtain⟨px,⟨kq,sq⟩⟩:=x
   gi_wp2
   refine⟨⟨Below.heap_alloc _ _ _ hlt,Below.heap_alloc _ _ _ (by omega)⟩,?_⟩
   intro W2 hf2
   have hT2:=(hT.keep ((Fr.refl No W).alloc (.cells #[.int .i64 kq,.string sq] 29))).keepX hf2 (fun x (hx:x=W0.heap.size+1)=>by omega)
   have hC2:=(Bx.new W 29 #[.int .i64 kq,.string sq]).keepX hf2 (by first|omega|(dsimp only;omega))
   obtain⟨_,kc,ix,hhr⟩:=hall _ (by obtain⟨_,_,h3⟩:=hO;exact List.mem_of_getElem? h3)
   obtain rfl:kq=(kc:Int):=hhr.1
   have hst:=zkf p hO
   have hl3:=zkh hp hall (j+1)
   rw[hst] at hl3
   obtain⟨q1,q2,q3,q4,v,q5,q6⟩:=hT2
   have hsq:sq.size≤maxLen:=(hall _ (by obtain⟨_,_,h3⟩:=hO;exact List.mem_of_getElem? h3)).1
   obtain⟨Af,cf,Am,cm,hR,HC1⟩:=zjq hLo hhr hsq
   have HCl:=fun W' (hW:Fr No W2 W')=>HC1 W' (q1.trans0 hW)
   have KC:=hC2.r2
   have KL:=q4.r1
   have hfl:Sl (fun b=>b=bl∨w1.heap.size≤b) W2 3 FldC (.slice Af (zbG p ⟨kc,sq⟩).fields.length cf) (zbG p ⟨kc,sq⟩).fields:=by obtain⟨_,_,he,_,_,h,_⟩:=hR;cases he;exact(h.oldX (by decide) (fun _ _ _ h=>h)).k0 q1
   gi_wp2_with fail
   refine zc5 5 [isV (.agg #[.int .i64 kc,.string sq]),isV (.pointer (some ⟨l,0,none⟩)),isV (.agg #[.int .i64 kc,.string sq]),isV (.agg #[.string (zbG p ⟨kc,sq⟩).name,.string (zbG p ⟨kc,sq⟩).super,.slice Af (zbG p ⟨kc,sq⟩).fields.length cf,.slice Am (zbG p ⟨kc,sq⟩).methods.length cm]),isV (.slice Af (zbG p ⟨kc,sq⟩).fields.length cf)] [false,false,false,false,false] [false,false,false,false,false] ?_ (by kernel_rfl) (by kernel_rfl) ?_ ?_ (by kernel_rfl) ?_ ?_
   ·intro x hx hb v W h
    simp only[List.zip_cons_cons,List.zip_nil_left,List.mem_cons,List.not_mem_nil,or_false] at hx
    rcases hx with rfl|rfl|rfl|rfl|rfl<;>first|(cases hb;done)|exact zaB h
   ·intro o ho d hd;simp only[lz7,List.take_zero,List.mem_cons,List.not_mem_nil,or_false] at ho;rcases ho with rfl|rfl|rfl|rfl|rfl<;>(cases hd;simp)
   ·intro x hx
    simp only[List.mem_cons,List.not_mem_nil,or_false] at hx
    rcases hx with rfl|rfl|rfl|rfl|rfl
    ·exact zaz _
    ·exact zaz _
    ·exact zaz _
    ·exact zaz _
    ·exact zaz _
   ·intro k o ho a' W hW hoff hdep
    have hbs:=hW.size
    have H7:=hoff 7 (by simp)
    have H2:=hoff 2 (by simp)
    simp only[Act.eval] at H7 H2
    simp only[lz7,List.take_zero] at ho hdep
    rcases k with _|_|_|_|_|k
    all_goals (first|(simp at ho;done)|skip)
    all_goals simp only[lz3,lz4,Option.some.injEq] at ho
    all_goals subst ho
    ·refine⟨fun h=>absurd h (by decide),fun _=>?_⟩
     unfold zab
     simp[execOp,Act.eval,go_sem,zaa, *]
     exact⟨Fr.refl _ _,rfl⟩
    ·refine⟨fun h=>absurd h (by decide),fun _=>?_⟩
     unfold zab
     simp[execOp,Act.eval,go_sem,zaa, *]
     exact⟨Fr.refl _ _,rfl⟩
    ·refine⟨fun h=>absurd h (by decide),fun _=>?_⟩
     unfold zab
     simp[execOp,Act.eval,go_sem,zaa, *]
     exact⟨Fr.refl _ _,rfl⟩
    ·have D19:a'.eval (.tmp 19)=.pointer (some ⟨l,0,none⟩):=hdep ⟨1,.data⟩ (by simp) rfl _ 19 rfl rfl
     have D20:a'.eval (.tmp 20)=.agg #[.int .i64 kc,.string sq]:=hdep ⟨2,.data⟩ (by simp) rfl _ 20 rfl rfl
     simp only[Act.eval] at D19 D20
     refine⟨fun h=>absurd h (by decide),fun _=>?_⟩
     unfold zab
     simp[Act.eval,D19,D20,go_sem,zaa]
     exact(HCl _ hW).mono fun e w' h=>⟨_,h.1,h.2,rfl⟩
    ·have D21:a'.eval (.tmp 21)=.agg #[.string (zbG p ⟨kc,sq⟩).name,.string (zbG p ⟨kc,sq⟩).super,.slice Af (zbG p ⟨kc,sq⟩).fields.length cf,.slice Am (zbG p ⟨kc,sq⟩).methods.length cm]:=hdep ⟨3,.data⟩ (by simp) rfl _ 21 rfl rfl
     simp only[Act.eval] at D21
     refine⟨fun h=>absurd h (by decide),fun _=>?_⟩
     unfold zab
     simp[execOp,Act.eval,D21,go_sem,zaa]
     exact⟨Fr.refl _ _,rfl⟩
   intro vs WR hWR hv hne
   have e0:vs 0=_:=hv 0 (by omega)
   have e1:vs 1=_:=hv 1 (by omega)
   have e2:vs 2=_:=hv 2 (by omega)
   have e3:vs 3=_:=hv 3 (by omega)
   have e4:vs 4=_:=hv 4 (by omega)
   simp only[lz7,List.take_zero,lz6,List.drop_zero,zad,if_true,Nat.zero_add,Nat.reduceAdd,e0,e1,e2,e3,e4]
   simp only[Act.put,lz0,lz1,lz2]
   clear e0 e1 e2 e3 e4 hv
   have q1R:=q1.trans0 hWR
   have hA:=zkc (fun x=>x=bl∨w1.heap.size≤x) w1.heap.size (W0.heap.size+2) ⟨kc,sq⟩ Af cf (zbG p ⟨kc,sq⟩).fields (accJ p xs j) v WR (q5.keep hWR) (zms q6 hWR zN) (hfl.k0 hWR) (fun x hx=>.inr (by omega)) (by omega) (by have:=hWR.size;have:=hf2.size;simp at *;omega) (by unfold zj5 at hl3;simp[zjJ] at hl3;omega)
   go_wp2_with (go_at_call 68;refine hA.mono ?_;rintro e w9 ⟨⟨v9,rfl⟩,⟨v',hb9,hr9⟩,hf9⟩)
   have hs2:=hf2.size
   have hsR:=hWR.size
   simp at hs2
   refine⟨⟨(hf9.block _ (by omega) (by first|omega|(dsimp only;omega))).trans (hWR.block _ (by omega) (fun h=>h)),(hf9.block _ (by omega) (by first|omega|(dsimp only;omega))).trans (hWR.block _ (by omega) (fun h=>h))⟩,?_⟩
   exact⟨q1R.trans hf9 (fun x hx hy=>by omega),(q2.keep hWR).keepX hf9 (by first|omega|(dsimp only;omega)),(q3.k0 hWR).keep hf9 (fun x hx=>by omega) (fun _ _ _ h=>h),(q4.keep hWR).keepX hf9 (by first|omega|(dsimp only;omega)),v',hb9,by rw[hst];exact hr9⟩
attribute [local go_sem] Oper.semAt_some
theorem zkm {w:World} {v u:Value} {rs:List Ref} {b:Nat} {t:TypeId} (h:Sl No w 2 RefC v rs) (hb:Bx w b t #[u]):Sl (fun x=>x=b∨w.heap.size≤x) w 2 RefC v rs:=by
 obtain⟨A',cap,rfl,h1,h2,h3⟩:=h
 refine⟨A',cap,rfl,h1,h2,fun h0=>?_⟩
 obtain⟨g,off,rfl,hX,hc⟩:=h3 h0
 refine⟨g,off,rfl,?_,hc⟩
 obtain⟨cs,⟨rfl,_⟩,_,hcs⟩:=hc 0 h0
 have c0:=hcs 1 (by decide)
 simp only[Nat.zero_mul,Nat.add_zero,lz4,lz3] at c0
 have hl:=lt_of_cell c0
 rintro(rfl|h)
 ·rw[hb.cell] at c0
  simp at c0
 ·omega
def FstT (p:Plan) (rs:List Ref) (q:Ref) (l c lb ob fb:Nat) (A:Option Addr) (cap:Nat) (w0:World) (j:Nat) (W:World):Prop:=
 Fr No w0 W∧Bx W c 59 #[.slice A rs.length cap]∧Sl (fun x=>x=fb∨c≤x) W 2 RefC (.slice A rs.length cap) rs∧Bx W lb 72 #[.pointer (some ⟨l,0,none⟩)]∧Bx W ob 29 #[.int .i64 q.keeper,.string q.name] ∧
 ∃n:Nat,Hid (zjE p rs.reverse q=n+zjE p (rs.reverse.drop j) q)∧n≤3 * j∧Bx W fb 3 #[.int .i64 n]
theorem FstT.keepX {p:Plan} {rs:List Ref} {q:Ref} {l c lb ob fb cap:Nat} {A:Option Addr} {w0 W W':World} {j:Nat} {X:Nat->Prop} (h:FstT p rs q l c lb ob fb A cap w0 j W) (hf:Fr X W W')
  (hX:∀x,X x->w0.heap.size≤x∧x≠c∧x≠lb∧x≠ob∧x≠fb) (hsl:Sl (fun x=>x=fb∨c≤x) W' 2 RefC (.slice A rs.length cap) rs):FstT p rs q l c lb ob fb A cap w0 j W':=by
 obtain⟨h1,h2,h3,h4,h5,n,h6,h7,h8⟩:=h
 exact⟨h1.trans hf (fun x hx hy=>(by have:=hX x hy;omega)),h2.keepX hf (fun hx=>(hX _ hx).2.1 rfl),hsl,h4.keepX hf (fun hx=>(hX _ hx).2.2.1 rfl),h5.keepX hf (fun hx=>(hX _ hx).2.2.2.1 rfl),n,h6,h7,h8.keepX hf (fun hx=>(hX _ hx).2.2.2.2 rfl)⟩
theorem zkn (l bl nn:Nat) (p:Plan) (g:Int->Str->Option Int) (q r:Ref) (w:World) (h:zgF w l bl nn p g) (hr:r.name.size≤maxLen) (hq:q.name.size≤maxLen):
  Calls Tryz.prog 63 #[.pointer (some ⟨l,0,none⟩),.agg #[.int .i64 q.keeper,.string q.name],.agg #[.int .i64 r.keeper,.string r.name]] w (Gives (.int .i64 (zjE p (zmF p r).reverse q)) w):=by
 obtain⟨rk,rn⟩:=r
 obtain⟨qk,qn⟩:=q
 dsimp only at hr hq
 have hp:=h.1
 have hall:=zhj hp ⟨rk,rn⟩
 have hlen:(zmF p ⟨rk,rn⟩).length≤6:=zhk hp _
 have HCH:=fun W (hW:Fr No w W)=>zmI l bl nn p g ⟨rk,rn⟩ W (h.keep hW) hr
 generalize zmF p ⟨rk,rn⟩=xs at *
 refine(callsIn_wide (n:=4)).1 ?_
 refine callsIn_of_wp_marks Tryz.func63 rfl trivial ?_ rfl
 simp only[Tryz.ntmps63,List.size_toArray,List.length_cons,List.length_nil,Nat.reduceAdd,Nat.reduceSub,Array.replicate_succ,Array.replicate_zero,List.push_toArray,List.append_toArray,List.nil_append,List.cons_append]
 gi_wp2_with (first
   | (refine⟨trivial,?_⟩;gi_at_call 43;refine(callsIn_wide.2 (HCH _ frc)).mono ?_;rintro e w2 ⟨v2,rfl,hsl,hf2⟩;obtain⟨A2,c2,rfl,_,_⟩:=hsl.form)
   | (refine⟨trivial,?_⟩;gi_at_call 67;refine(callsIn_wide.2 (zaI _ _ _ _)).mono ?_;rintro e w' ⟨rfl,rfl⟩))
 obtain⟨wB,hwB⟩:∃wB,wB=((((w.alloc (.cells #[.pointer (some ⟨l,0,none⟩)] 72)).alloc (.cells #[.int .i64 qk,.string qn] 29)).alloc (.cells #[.int .i64 rk,.string rn] 29)).alloc (.cells #[.int .i64 0] 3)):=⟨_,rfl⟩
 have hfB:Fr No w wB:=hwB▸frc
 have b0:Bx wB w.heap.size 72 #[.pointer (some ⟨l,0,none⟩)]:=hwB▸bxc
 have b1:Bx wB (w.heap.size+1) 29 #[.int .i64 qk,.string qn]:=hwB▸bxc
 have b3:Bx wB (w.heap.size+1+1+1) 3 #[.int .i64 0]:=hwB▸bxc
 have hszB:wB.heap.size=w.heap.size+4:=by rw[hwB];simp
 rw[<-hwB] at hf2
 have hs2:=hf2.size
 obtain⟨W0,hW0⟩:∃W0,W0=w2.alloc (.cells #[.slice A2 xs.length c2] 59):=⟨_,rfl⟩
 have hf20:Fr No w2 W0:=hW0▸frc
 have hsz:W0.heap.size=w2.heap.size+1:=by rw[hW0];simp
 have hT0:FstT p xs ⟨qk,qn⟩ l w2.heap.size w.heap.size (w.heap.size+1) (w.heap.size+1+1+1) A2 c2 w 0 W0:=
  ⟨(hfB.trans0 hf2).trans0 hf20,hW0▸Bx.new_ rfl,(zkm hsl (b3.keep hf2)).k0 hf20,(b0.keep hf2).keep hf20,(b1.keep hf2).keep hf20,0,by rw[List.drop_zero,Nat.zero_add];exact rfl,by omega,(b3.keep hf2).keep hf20⟩
 rw[<-hW0]
 clear hwB hW0 hf20 hf2 hsl b0 b1 b3 hfB
 have hkeep:∀j W W',FstT p xs ⟨qk,qn⟩ l w2.heap.size w.heap.size (w.heap.size+1) (w.heap.size+1+1+1) A2 c2 w j W->∀X:Nat->Prop,Fr X W W'->(∀x,X x->W0.heap.size≤x)->FstT p xs ⟨qk,qn⟩ l w2.heap.size w.heap.size (w.heap.size+1) (w.heap.size+1+1+1) A2 c2 w j W':=fun j W W' h X hf hX=>by
  exact h.keepX hf (fun x hx=>by have:=hX x hx;omega) (h.2.2.1.keep hf (fun x hx=>.inr (by have:=hX x hx;omega)) (fun _ _ _ h=>h))
 refine zaH 0 (n:=2) (fun x=>x=w.heap.size+1+1+1∨w2.heap.size≤x) xs A2 c2 w2.heap.size (by omega) rfl rfl (FstT p xs ⟨qk,qn⟩ l w2.heap.size w.heap.size (w.heap.size+1) (w.heap.size+1+1+1) A2 c2 w)
  (fun W=>Fr No w W∧Bx W (w.heap.size+1+1+1) 3 #[.int .i64 (zjE p xs.reverse ⟨qk,qn⟩)])
  (fun j W h=>⟨h.2.1,h.2.2.1⟩) (fun j W W' h hf=>hkeep j W W' h _ hf (fun x (hx:x=W0.heap.size+1)=>by omega)) (fun W W' h hf=>⟨h.1.trans hf (fun x hx (hy:x=W0.heap.size+1)=>by omega),h.2.keepX hf (by first|omega|(dsimp only;omega))⟩) (fun o o'=>hkeep 0 _ _ hT0 _ (((Fr.refl No _).alloc _).alloc _) zN) (by omega) ?round ?done ?stop
 case done=>
  rintro W hT hD
  obtain⟨q1,q2,q3,q4,q5,n,q6,q7,q8⟩:=hT
  have q6':Hid (zjE p xs.reverse ⟨qk,qn⟩=n):=by
   have:=q6.out
   rwa [List.drop_of_length_le (by simp),zjE,Nat.add_zero] at this
  have e5:=q8.c1
  have l5:=q8.lt
  replace hD:=Lib.hid hD
  clear q6 q2 q3 q4 q5 hT0
  gi_wp2
  refine⟨by simp,.inl ⟨_,_,rfl,run_takeDeferred hD.out,?_⟩⟩
  have hfp:Fr (fun b=>b=W0.heap.size) W (W.putObj W0.heap.size (.deferred none)):=(Fr.refl _ W).putObj _ rfl
  exact⟨.int .i64 n,by simp[results,Tryz.results63,go_sem],by rw[q6'.out],q1.trans hfp (fun x hx (hy:x=W0.heap.size)=>by omega)⟩
 case stop=>
  rintro W ⟨hf,hb⟩ hD
  have e5:=hb.c1
  have l5:=hb.lt
  generalize zjE p xs.reverse ⟨qk,qn⟩=n at *
  replace hD:=Lib.hid hD
  clear hb hT0
  gi_wp2
  refine⟨by simp,.inl ⟨_,_,rfl,run_takeDeferred hD.out,?_⟩⟩
  have hfp:Fr (fun b=>b=W0.heap.size) W (W.putObj W0.heap.size (.deferred none)):=(Fr.refl _ W).putObj _ rfl
  exact⟨.int .i64 n,by simp[results,Tryz.results63,go_sem],rfl,hf.trans hfp (fun x hx (hy:x=W0.heap.size)=>by omega)⟩
 case round=>
  intro j x W hT hO hlt
  have e:∀t:Array Value,((#[14,15]:Array Nat).zip (bwA x)).foldl (fun t x=>t.setIfInBounds x.1 x.2) t=(t.setIfInBounds 14 (.int .i64 x.1)).setIfInBounds 15 (.agg #[.int .i64 x.2.keeper,.string x.2.name]):=fun t=>by simp[bwA]
  simp only[e,lz0,lz2,lz1]
  clear e
  obtain⟨px,⟨kq,sq⟩⟩:=x
  gi_wp2
  refine⟨⟨Below.heap_alloc _ _ _ hlt,Below.heap_alloc _ _ _ (by omega)⟩,?_⟩
  intro W2 hf2
  have hT2:=hkeep j _ _ (hkeep j _ _ hT No ((Fr.refl No W).alloc (.cells #[.int .i64 kq,.string sq] 29)) zN) _ hf2 (fun x (hx:x=W0.heap.size+1)=>by omega)
  have hC2:=(Bx.new W 29 #[.int .i64 kq,.string sq]).keepX hf2 (by first|omega|(dsimp only;omega))
  obtain⟨_,kc,ix,hhr⟩:=hall _ (by obtain⟨_,_,h3⟩:=hO;exact List.mem_of_getElem? h3)
  obtain rfl:kq=(kc:Int):=hhr.1
  obtain⟨hj,hje⟩:=zke hO
  have hsq:sq.size≤maxLen:=(hall _ (by obtain⟨_,_,h3⟩:=hO;exact List.mem_of_getElem? h3)).1
  obtain⟨q1,q2,q3,q4,q5,n,q6,q7,q8⟩:=hT2
  rw[List.drop_eq_getElem_cons hj,hje,zjE] at q6
  obtain⟨Af,cf,Am,cm,hR,HCl⟩:=zjq (h.keep q1) hhr hsq
  have hfl:(zbG p ⟨kc,sq⟩).fields.length≤3:=zjL (Here.clsB hp hhr)
  have KC:=hC2.r2
  have KL:=q4.r1
  have KF:=q8.r1
  obtain⟨x0,x1⟩:=hC2.c2
  obtain⟨y0,y1⟩:=q5.c2
  have lC:=hC2.lt
  have lO:=q5.lt
  replace hsz:=Lib.hid hsz
  cases hc:zjt ⟨kc,sq⟩ ⟨qk,qn⟩
  ·have hcase:(¬(kc:Int)=qk)∨((kc:Int)=qk∧¬sq.toList=qn.toList):=by
    unfold zjt at hc
    by_cases hk:(kc:Int)=qk
    ·exact .inr ⟨hk,by simpa[hk] using hc⟩
    ·exact .inl hk
   have q6n:Hid (zjE p xs.reverse ⟨qk,qn⟩=n+((zbG p ⟨kc,sq⟩).fields.length+zjE p (xs.reverse.drop (j+1)) ⟨qk,qn⟩)):=q6.out.trans (by rw[hc];rfl)
   replace q6n:=Lib.hid q6n
   clear q6
   clear hc
   have hj6:j<6:=by simp at hj;omega
   have wl:IntKind.i64.wrap ((n:Int)+(zbG p ⟨kc,sq⟩).fields.length)=(n:Int)+(zbG p ⟨kc,sq⟩).fields.length:=IntWalk.i64_in _ (by omega)
   rcases hcase with hk | ⟨rfl,hk⟩
   all_goals gi_wp2_with fail
   all_goals clear x0 x1 y0 y1
   all_goals
    refine zc5 7 [isV (.int .i64 n),isV (.pointer (some ⟨l,0,none⟩)),isV (.agg #[.int .i64 kc,.string sq]),isV (.agg #[.string (zbG p ⟨kc,sq⟩).name,.string (zbG p ⟨kc,sq⟩).super,.slice Af (zbG p ⟨kc,sq⟩).fields.length cf,.slice Am (zbG p ⟨kc,sq⟩).methods.length cm]),isV (.slice Af (zbG p ⟨kc,sq⟩).fields.length cf),isV (.int .i64 (zbG p ⟨kc,sq⟩).fields.length),isV (.int .i64 ((n:Int)+(zbG p ⟨kc,sq⟩).fields.length))] [false,false,false,false,false,false,false] [false,false,false,false,false,false,false] ?_ (by kernel_rfl) (by kernel_rfl) ?_ ?_ (by kernel_rfl) ?_ ?_
    ·intro x hx hb v W h
     simp only[List.zip_cons_cons,List.zip_nil_left,List.mem_cons,List.not_mem_nil,or_false] at hx
     rcases hx with rfl|rfl|rfl|rfl|rfl|rfl|rfl<;>first|(cases hb;done)|exact zaB h
    ·intro o ho d hd;simp only[lz7,List.take_zero,List.mem_cons,List.not_mem_nil,or_false] at ho;rcases ho with rfl|rfl|rfl|rfl|rfl|rfl|rfl<;>(cases hd;simp)
    ·intro x hx
     simp only[List.mem_cons,List.not_mem_nil,or_false] at hx
     rcases hx with rfl|rfl|rfl|rfl|rfl|rfl|rfl
     ·exact zaz _
     ·exact zaz _
     ·exact zaz _
     ·exact zaz _
     ·exact zaz _
     ·exact zaz _
     ·exact zaz _
    ·intro k o ho a' W hW hoff hdep
     have hbs:=hW.size
     have H7:=hoff 7 (by simp)
     have H3:=hoff 3 (by simp)
     have H9:=hoff 9 (by simp)
     simp only[Act.eval] at H7 H3 H9
     simp only[lz7,List.take_zero] at ho hdep
     rcases k with _|_|_|_|_|_|_|k
     all_goals (first|(simp at ho;done)|skip)
     all_goals simp only[lz3,lz4,Option.some.injEq] at ho
     all_goals subst ho
     ·refine⟨fun h=>absurd h (by decide),fun _=>?_⟩
      unfold zab
      simp[execOp,Act.eval,go_sem,zaa, *]
      exact⟨Fr.refl _ _,rfl⟩
     ·refine⟨fun h=>absurd h (by decide),fun _=>?_⟩
      unfold zab
      simp[execOp,Act.eval,go_sem,zaa, *]
      exact⟨Fr.refl _ _,rfl⟩
     ·refine⟨fun h=>absurd h (by decide),fun _=>?_⟩
      unfold zab
      simp[execOp,Act.eval,go_sem,zaa, *]
      exact⟨Fr.refl _ _,rfl⟩
     ·have D20:a'.eval (.tmp 20)=.pointer (some ⟨l,0,none⟩):=hdep ⟨1,.data⟩ (by simp) rfl _ 20 rfl rfl
      have D21:a'.eval (.tmp 21)=.agg #[.int .i64 kc,.string sq]:=hdep ⟨2,.data⟩ (by simp) rfl _ 21 rfl rfl
      simp only[Act.eval] at D20 D21
      refine⟨fun h=>absurd h (by decide),fun _=>?_⟩
      unfold zab
      simp[Act.eval,D20,D21,go_sem,zaa]
      exact(HCl _ hW).mono fun e w' h=>⟨_,h.1,h.2,rfl⟩
     ·have D22:a'.eval (.tmp 22)=.agg #[.string (zbG p ⟨kc,sq⟩).name,.string (zbG p ⟨kc,sq⟩).super,.slice Af (zbG p ⟨kc,sq⟩).fields.length cf,.slice Am (zbG p ⟨kc,sq⟩).methods.length cm]:=hdep ⟨3,.data⟩ (by simp) rfl _ 22 rfl rfl
      simp only[Act.eval] at D22
      refine⟨fun h=>absurd h (by decide),fun _=>?_⟩
      unfold zab
      simp[execOp,Act.eval,D22,go_sem,zaa]
      exact⟨Fr.refl _ _,rfl⟩
     ·have D23:a'.eval (.tmp 23)=.slice Af (zbG p ⟨kc,sq⟩).fields.length cf:=hdep ⟨4,.data⟩ (by simp) rfl _ 23 rfl rfl
      simp only[Act.eval] at D23
      refine⟨fun h=>absurd h (by decide),fun _=>?_⟩
      unfold zab
      simp[Act.eval,D23,go_sem,zaa]
      exact⟨Fr.refl _ _,rfl⟩
     ·have D19:a'.eval (.tmp 19)=.int .i64 n:=hdep ⟨0,.data⟩ (by simp) rfl _ 19 rfl rfl
      have D24:a'.eval (.tmp 24)=.int .i64 (zbG p ⟨kc,sq⟩).fields.length:=hdep ⟨5,.data⟩ (by simp) rfl _ 24 rfl rfl
      simp only[Act.eval] at D19 D24
      refine⟨fun h=>absurd h (by decide),fun _=>?_⟩
      unfold zab
      simp[execOp,Act.eval,D19,D24,go_sem,zaa]
      exact⟨Fr.refl _ _,by show Value.int _ _=_;rw[wl]⟩
    intro vs WR hWR hv hne
    have e0:vs 0=_:=hv 0 (by omega)
    have e1:vs 1=_:=hv 1 (by omega)
    have e2:vs 2=_:=hv 2 (by omega)
    have e3:vs 3=_:=hv 3 (by omega)
    have e4:vs 4=_:=hv 4 (by omega)
    have e5:vs 5=_:=hv 5 (by omega)
    have e6:vs 6=_:=hv 6 (by omega)
    simp only[lz7,List.take_zero,lz6,List.drop_zero,zad,if_true,Nat.zero_add,Nat.reduceAdd,e0,e1,e2,e3,e4,e5,e6]
    simp only[Act.put,lz0,lz1,lz2]
    clear e0 e1 e2 e3 e4 e5 e6 hv
    have hR8:=q8.keep hWR
    have e8:=hR8.c1
    have f8:=fun j=>hR8.frozen j
    have l8:=hR8.lt
    have hs2':=hf2.size
    have hsR:=hWR.size
    have hs0:=hsz.out
    simp at hs2'
    replace hs0:=Lib.hid hs0
    clear KC KL KF
    go_wp2
    have hs0:=hs0.out
    have hfs:Fr (fun x=>x=w.heap.size+1+1+1) WR (WR.setCell ⟨w.heap.size+1+1+1,0,none⟩ (.int .i64 ((n:Int)+(zbG p ⟨kc,sq⟩).fields.length))):=Fr.setCellX (X:=fun x=>x=w.heap.size+1+1+1) (p:=⟨w.heap.size+1+1+1,0,none⟩) (Fr.refl _ WR) (by rfl) _
    refine⟨⟨(hfs.block _ (by omega) (by first|omega|(dsimp only;omega))).trans (hWR.block _ (by omega) (fun h=>h)),(hfs.block _ (by omega) (by first|omega|(dsimp only;omega))).trans (hWR.block _ (by omega) (fun h=>h))⟩,?_⟩
    exact⟨(q1.trans0 hWR).trans hfs (fun x hx hy=>by omega),(q2.keep hWR).keepX hfs (by first|omega|(dsimp only;omega)),(q3.k0 hWR).keep hfs (fun x hx=>.inl hx) (fun _ _ _ h=>h),(q4.keep hWR).keepX hfs (by first|omega|(dsimp only;omega)),(q5.keep hWR).keepX hfs (by first|omega|(dsimp only;omega)),n+(zbG p ⟨kc,sq⟩).fields.length,q6n.out.out.trans (Nat.add_assoc _ _ _).symm,by omega,by have:=hR8.set_ 0 (.int .i64 ((n:Int)+(zbG p ⟨kc,sq⟩).fields.length));simpa using this⟩
  ·have q6n:Hid (zjE p xs.reverse ⟨qk,qn⟩=n):=q6.out.trans (by rw[hc];rfl)
   replace q6n:=Lib.hid q6n
   clear q6
   have he:=zju.1 hc
   rw[Ref.mk.injEq] at he
   obtain⟨rfl,rfl⟩:=he
   clear hc
   gi_wp2_with fail
   refine⟨rfl,⟨rfl,rfl⟩,q1,?_⟩
   rw[q6n.out.out]
   exact q8
theorem zdN:∀(pre:List LFld) (k:Nat) (hk:k<pre.length) (j:Nat),j<5->(pre.flatMap zj3)[k * 5+j]? =(zj3 pre[k])[j]?
 | a :: pre,0,_,j,hj=>by
  rw[List.flatMap_cons,List.getElem?_append_left (by simp[zj3];omega)]
  simp
 | a :: pre,k+1,hk,j,hj=>by
  rw[List.flatMap_cons,List.getElem?_append_right (by simp[zj3];omega)]
  have:=zdN pre k (by simpa using hk) j hj
  have e:(k+1) * 5+j-(zj3 a).length=k * 5+j:=by simp[zj3];omega
  rw[e,this]
  simp
theorem zdO {w:World} {base:Nat} {v:Value} {pre:List LFld} (h:w.ownsRow base 53 5 v pre.length (pre.flatMap zj3)) (hn:∀x∈pre,x.of_.name.size≤maxLen∧x.kind.name.size≤maxLen):Sl (fun b=>b<base) w 5 zj4 v pre:=by
 obtain⟨_,⟨rfl,h0⟩ | ⟨g,cap,cur,rfl,hg,hb,h1,h2,h3,h4⟩⟩:=h
 ·obtain rfl:=List.length_eq_zero_iff.1 h0
  exact Sl.nil _ _ _ _
 ·have hb':Bx w g 53 cur:=hb
  refine⟨_,cap,rfl,h1,by omega,fun _=>⟨g,0,rfl,by omega,fun k hk=>⟨zj3 pre[k],⟨rfl,hn _ (List.getElem_mem hk)⟩,rfl,fun j hj=>?_⟩⟩⟩
  rw[hb'.cell,<-zdN pre k hk j hj,<-h4,List.getElem?_take,if_pos (by omega)]
  simp
theorem Sl.lfld {X:Nat->Prop} {w:World} {A:Option Addr} {n cap:Nat} {xs:List LFld} (h:Sl X w 5 zj4 (.slice A n cap) xs) {k:Nat} (hk:k<xs.length):
  ∃b off,A=some ⟨b,off,none⟩∧¬X b∧w.cell? ⟨b,off+k * 5,none⟩=some (.int .i64 xs[k].of_.keeper)∧w.cell? ⟨b,off+k * 5+1,none⟩=some (.string xs[k].of_.name)∧w.cell? ⟨b,off+k * 5+2,none⟩=some (.int .i64 xs[k].at_) ∧
   w.cell? ⟨b,off+k * 5+3,none⟩=some (.int .i64 xs[k].kind.kind)∧w.cell? ⟨b,off+k * 5+4,none⟩=some (.string xs[k].kind.name)∧xs[k].of_.name.size≤maxLen∧xs[k].kind.name.size≤maxLen:=by
 obtain⟨b,off,cs,hA,hX,⟨rfl,hsz⟩,hc⟩:=h.cells hk
 exact⟨b,off,hA,hX,hc 0 _ (by decide) rfl,hc 1 _ (by decide) rfl,hc 2 _ (by decide) rfl,hc 3 _ (by decide) rfl,hc 4 _ (by decide) rfl,hsz⟩
def zd8:LFld:=⟨zbH,0,⟨0,⟨#[]⟩⟩⟩
def getG (p:Plan) (k:Int) (m:Str) (rc:Ref×Int):LFld×Int:=
 if rc.2=1 then zjN p k m 0 (zjB p (zmF p rc.1).reverse) else (zd8,rc.2)
def getB (p:Plan) (k:Int) (s m:Str):LFld×Int:=getG p k m (zdS p k s m)
def getS (p:Plan) (k:Int) (s m:Str):LFld×Int:=if lodB p then getB p k s m else (zd8,2)
def lfV (f:LFld):Value:=.agg #[.int .i64 f.of_.keeper,.string f.of_.name,.int .i64 f.at_,.int .i64 f.kind.kind,.string f.kind.name]
def getV (q:LFld×Int):Value:=.tuple #[lfV q.1,.int .i64 q.2]
def zd9 (q:LFld×Int) (p:Plan) (l bl n:Nat) (w:World) (e:Ending) (w':World):Prop:=
 ∃ev,e=.returned (.tuple #[lfV q.1,ev])∧ErrV q.2 ev w'∧Fr (fun b=>b=bl) w w'∧Lg w' l bl (n+2) p
theorem zd9.mk {q:LFld×Int} {p:Plan} {l bl n:Nat} {w w':World} {v ev:Value} {f:LFld} {c:Int} (hq:q=(f,c)) (hv:v=.tuple #[lfV f,ev]) (he:ErrV c ev w') (hf:Fr (fun b=>b=bl) w w') (hl:Lg w' l bl (n+2) p):zd9 q p l bl n w (.returned v) w':=by
 subst hq;subst hv;exact⟨_,rfl,he,hf,hl⟩
theorem set5 {X:Nat->Prop} {a w:World} {g:Nat} {c0 c1 c2 c3 c4:Value} {o:Go.Obj} (h:Fr X a w) (hg:a.heap.size≤g):Fr X a ((((((w.setCell ⟨g,0,none⟩ c0).setCell ⟨g,1,none⟩ c1).setCell ⟨g,2,none⟩ c2).setCell ⟨g,3,none⟩ c3).setCell ⟨g,4,none⟩ c4).alloc o):=
 (((((h.setCell hg c0).setCell (p:=⟨g,1,none⟩) hg c1).setCell (p:=⟨g,2,none⟩) hg c2).setCell (p:=⟨g,3,none⟩) hg c3).setCell (p:=⟨g,4,none⟩) hg c4).alloc o
theorem zea {n:Nat} {a w:World} {g:Nat} {c0 c1 c2 c3 c4:Value} {o:Go.Obj} (h:Fr (fun b=>n≤b) a w) (hg:n≤g):Fr (fun b=>n≤b) a ((((((w.setCell ⟨g,0,none⟩ c0).setCell ⟨g,1,none⟩ c1).setCell ⟨g,2,none⟩ c2).setCell ⟨g,3,none⟩ c3).setCell ⟨g,4,none⟩ c4).alloc o):=
 (((((h.setCellX (p:=⟨g,0,none⟩) hg c0).setCellX (p:=⟨g,1,none⟩) hg c1).setCellX (p:=⟨g,2,none⟩) hg c2).setCellX (p:=⟨g,3,none⟩) hg c3).setCellX (p:=⟨g,4,none⟩) hg c4).alloc o
theorem zeb {X:Nat->Prop} {a w:World} {g:Nat} {c0 c1 c2 c3 c4:Value} (h:Fr X a w) (hg:a.heap.size≤g):Fr X a (((((w.setCell ⟨g,0,none⟩ c0).setCell ⟨g,1,none⟩ c1).setCell ⟨g,2,none⟩ c2).setCell ⟨g,3,none⟩ c3).setCell ⟨g,4,none⟩ c4):=
 ((((h.setCell hg c0).setCell (p:=⟨g,1,none⟩) hg c1).setCell (p:=⟨g,2,none⟩) hg c2).setCell (p:=⟨g,3,none⟩) hg c3).setCell (p:=⟨g,4,none⟩) hg c4
theorem zec {n:Nat} {a w:World} {g:Nat} {c0 c1 c2 c3 c4:Value} (h:Fr (fun b=>n≤b) a w) (hg:n≤g):Fr (fun b=>n≤b) a (((((w.setCell ⟨g,0,none⟩ c0).setCell ⟨g,1,none⟩ c1).setCell ⟨g,2,none⟩ c2).setCell ⟨g,3,none⟩ c3).setCell ⟨g,4,none⟩ c4):=
 ((((h.setCellX (p:=⟨g,0,none⟩) hg c0).setCellX (p:=⟨g,1,none⟩) hg c1).setCellX (p:=⟨g,2,none⟩) hg c2).setCellX (p:=⟨g,3,none⟩) hg c3).setCellX (p:=⟨g,4,none⟩) hg c4
theorem bx5 {w:World} {g:Nat} {t:TypeId} {cs:Array Value} {c0 c1 c2 c3 c4:Value}:Bx ((((((w.setCell ⟨g,0,none⟩ c0).setCell ⟨g,1,none⟩ c1).setCell ⟨g,2,none⟩ c2).setCell ⟨g,3,none⟩ c3).setCell ⟨g,4,none⟩ c4).alloc (.cells cs t)) w.heap.size t cs:=Bx.new_ (by simp)
theorem zed:∀{xs:List Ref},xs.Nodup->xs.reverse.Nodup
 | [],_=>by simp
 | x :: xs,h=>by
  rw[List.nodup_cons] at h
  rw[List.reverse_cons,List.nodup_append]
  refine⟨zed h.2,by simp,fun a ha b hb=>?_⟩
  obtain rfl:b=x:=by simpa using hb
  rintro rfl
  exact h.1 (by simpa using ha)
theorem zee {k:Knd} (h:kndB k=true):k.name.size≤maxLen:=by
 unfold kndB at h
 simp only[Bool.or_eq_true,lz5] at h
 rcases h with h|h
 ·have h1:k.name.toList=[]:=by simpa using h.2
  rw[toList_data] at h1
  have:k.name.size=0:=by
   show k.name.data.size=0
   rw[<-Array.length_toList,h1];rfl
  omega
 ·exact zhe h.2
theorem zef {p:Plan} (hp:lodB p=true) {r:Ref} {k i:Nat} (hh:Here p r k i):∀f∈(zbG p r).fields,f.name.size≤maxLen∧f.kind.name.size≤maxLen:=fun f hf=>by
 have:=zg2 (Here.clsB hp hh) f hf
 exact⟨zhe this.1,zee this.2⟩
theorem zeg {p:Plan} (hp:lodB p=true) {k:Int} {s m:Str} {r:Ref} (h:zdS p k s m=(r,1)):canB p r=true:=by
 unfold zdS at h
 split at h
 ·obtain⟨kc,i,rfl,_,h2,_⟩:=zd0 hp h
  exact h2
 ·cases h
theorem zeh {p:Plan} (hp:lodB p=true) {rs:List Ref} (h:zhb p rs) (i:Nat):∀x∈zjH i (zjB p rs),x.of_.name.size≤maxLen∧x.kind.name.size≤maxLen:=fun x hx=>by
 obtain⟨k,hk,he⟩:=List.getElem_of_mem hx
 rw[zjJ] at hk
 rw[zjK _ _ _ hk] at he
 subst he
 obtain⟨h1,h2⟩:=zjF (List.getElem_mem hk)
 obtain⟨h3,_,_,hh⟩:=h _ h1
 exact⟨h3,(zef hp hh _ h2).2⟩
def zem (p:Plan) (low top:Ref):Bool:=(zmF p low).any (fun r=>zjt r top)
end Go.Proofs.YtbfmeklfpackjaaGreatDoor
