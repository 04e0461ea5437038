/- The law's walk: the program's PlanTurn is the reference's, in its own memory, and the arguments stay as they were. -/
import Derived.Test.YtpghfhjhjlmljaaGreatPG42
import Derived.Test.YtpghfhjhjlmljaaGreatPG43
set_option maxHeartbeats 8000000
set_option maxRecDepth 100000
namespace Go.Proofs.YtpghfhjhjlmljaaGreat
open Go.RowKit
abbrev chgL (c:Chg) (vf vm:Value):List Value:=[.int .i64 c.kind,.int .i64 c.keeper,.string c.name,.int .i64 c.tq,.string c.cls.name,.string c.cls.super,vf,vm]
def chgT (c:Chg) (base:Nat):Value->World->Prop:=fun v W=>∃vf vm,v=.agg (chgL c vf vm).toArray∧ChgC (fun b=>b<base) W (chgL c vf vm) c
theorem zCA (c:Chg) (base:Nat):MonP (chgT c base):=fun _ _ _ ⟨vf,vm,h1,h2⟩ hf=>⟨vf,vm,h1,ChgC.keep h2 hf zN⟩
theorem zCB {c:Chg} {W w':World} {e:Ending} {base:Nat} (h:zgn ChgC c W e w') (hb:base≤W.heap.size):∃v,e=.returned v∧Fr No W w'∧chgT c base v w':=by
 obtain⟨cs,rfl,h,hf⟩:=h
 obtain⟨vf,vm,e1,_⟩:=id h
 subst e1
 exact⟨_,rfl,hf,vf,vm,rfl,ChgC.weaken h (fun b (hb':b<base)=>Nat.lt_of_lt_of_le hb' hb)⟩
def ptT (p:Plan) (c:Chg):Value->World->Prop:=fun v W=>∃A k,v=.tuple #[.agg #[.slice A (zA5 p c).length k],.bool (zA4 p c)]∧Sl No W 2 (KprC No W) (.slice A (zA5 p c).length k) (zA5 p c)
theorem zCC (p:Plan) (c:Chg):MonP (ptT p c):=fun _ _ _ ⟨A,k,h1,h2⟩ hf=>⟨A,k,h1,h2.keep hf zN (fun _ _ _ h=>KprC.keep h hf zN)⟩
def pt0 (p:Plan) (c:Chg):Value->World->Prop:=fun v W=>∃A k,v=.agg #[.slice A (zA5 p c).length k]∧Sl No W 2 (KprC No W) (.slice A (zA5 p c).length k) (zA5 p c)
theorem zCD (p:Plan) (c:Chg):MonP (pt0 p c):=fun _ _ _ ⟨A,k,h1,h2⟩ hf=>⟨A,k,h1,h2.keep hf zN (fun _ _ _ h=>KprC.keep h hf zN)⟩
theorem ptS {p:Plan} {c:Chg} {w:World} {e:Ending} {w':World} (h:SPtP p c w e w'):∃v,e=.returned v∧Fr No w w'∧ptT p c v w':=by
 obtain⟨v,rfl,hS,hf⟩:=h
 obtain⟨A,k,rfl,_,_⟩:=hS.form
 exact⟨_,rfl,hf,A,k,rfl,hS⟩
theorem ptI {p:Plan} {c:Chg} {w:World} {e:Ending} {w':World} (h:zBm p c w e w'):∃v,e=.returned v∧Fr No w w'∧ptT p c v w':=by
 obtain⟨v,rfl,hT,hf⟩:=h
 have hS:=OwnL.kprs (X:=No) hT (fun _ _ _ h=>h)
 obtain⟨A,k,rfl,_,_⟩:=hS.form
 exact⟨_,rfl,hf,A,k,rfl,hS⟩
theorem ChgC.oldX {X:Nat->Prop} {w:World} {cs:List Value} {c:Chg} (h:ChgC X w cs c):ChgC (fun b=>X b∨w.heap.size≤b) w cs c:=by
 obtain⟨vf,vm,rfl,h1,h2,h3,hf,hm⟩:=h
 exact⟨vf,vm,rfl,h1,h2,h3,hf.oldX (by decide) (fun _ _ _ h=>h),hm.oldX (by decide) (fun _ _ _ h=>h.oldX)⟩
theorem zCE (p:Plan) (c:Chg) (cs cs1:List Value) (w:World) (h:zf9 No w cs p) (h1:ChgC No w cs1 c):
  Calls Tryz.prog 3 #[.agg cs.toArray,.agg cs1.toArray] w (zgm true w):=by
 have hpk:=fun W (hW:Fr No w W)=>(by obtain⟨vk,rfl,h⟩:=h;exact⟨vk,rfl,h.keep hW zN (fun _ _ _ h=>h.keep hW zN)⟩:zf9 No W cs p)
 have hck:=fun W (hW:Fr No w W)=>ChgC.keep h1 hW zN
 have HZ:=fun W (hW:Fr No w W)=>zcc No p cs 1048576 W (hpk W hW) (by omega) (by omega)
 have HN:=fun W (hW:Fr No w W) (hs:zcb p≤1048576)=>zjk No p cs W (hpk W hW) hs
 have HZC:=fun left W (hW:Fr No w W) (h0:0≤left) (h1:left≤1048576)=>zAX No c cs1 left W (hck W hW) h0 h1
 have HNC:=fun W (hW:Fr No w W) (hs:zAW c≤1048576)=>zCz No c cs1 W (hck W hW) hs
 clear hpk hck
 obtain⟨pvk,rfl,hk⟩:=h
 obtain⟨A,cap,rfl,_,_⟩:=hk.form
 obtain⟨vf,vm,rfl,_,_,_,hf,hm⟩:=h1
 obtain⟨Af,cf,rfl,_,_⟩:=hf.form
 obtain⟨Am,cm,rfl,_,_⟩:=hm.form
 clear hk hf hm
 obtain⟨wA,hwA⟩:∃wA,wA=((w.alloc (.cells #[.slice A p.keepers.length cap] 24)).alloc (.cells #[.int .i64 c.kind,.int .i64 c.keeper,.string c.name,.int .i64 c.tq,.string c.cls.name,.string c.cls.super,.slice Af c.cls.fields.length cf,.slice Am c.cls.methods.length cm] 30)):=⟨_,rfl⟩
 have hfA:Fr No w wA:=hwA▸frc
 have K0:=(hwA▸bxc:Bx wA w.heap.size 24 #[.slice A p.keepers.length cap]).r1
 have K1:=(hwA▸bxc:Bx wA (w.heap.size+1) 30 #[.int .i64 c.kind,.int .i64 c.keeper,.string c.name,.int .i64 c.tq,.string c.cls.name,.string c.cls.super,.slice Af c.cls.fields.length cf,.slice Am c.cls.methods.length cm]).r8
 go_enter Tryz.func3,Tryz.ntmps3
 go_wp2_with fail
 rw[<-hwA]
 replace hwA:=Lib.hid hwA
 refine(HZ _ hfA).mono ?_
 rintro e w1 ⟨n1,rfl,hn1,hf1⟩
 have q1:Fr No wA w1:=frc
 by_cases hneg:n1<0
 ·go_wp2
  go_ret
  exact .mk rfl frc
 have hn1':=hn1.out
 have x0:=K1 _ q1
 go_wp2_with fail
 refine(HZC n1 w1 (hfA.trans0 q1) (by omega) (by omega)).mono ?_
 rintro e w2 ⟨n2,rfl,hn2,hf2⟩
 have q2:Fr No wA w2:=frc
 clear x0
 by_cases hneg2:n2<0
 ·go_wp2
  go_ret
  exact .mk rfl frc
 have hn2':=hn2.out
 have hsz:zcb p≤1048576:=by omega
 have hszc:zAW c≤1048576:=by omega
 have hwt:=zCt p c hsz (by unfold zAW at hszc;omega)
 have hsc:zhR c.cls≤1048576:=by unfold zAW at hszc;omega
 have HN:=fun W hW=>HN W hW hsz
 have HNC:=fun W hW=>HNC W hW hszc
 have HT:=fun W hW=>(HN W hW).mono (R':=zgn zf9 p W) fun _ _ ⟨x,h1,h2,h3,_⟩=>⟨x,h1,h2,h3⟩
 have HTC:=fun W hW=>(HNC W hW).mono (R':=zgn ChgC c W) fun _ _ ⟨x,h1,h2,h3,_⟩=>⟨x,h1,h2,h3⟩
 have HS:=fun pv ccs W h1 h2=>zBP p pv c ccs W h1 h2
 have HI:=fun pv ccs W h1 h2=>zBn p pv c ccs W h1 h2
 clear hn1 hn2 hn1' hn2' HZ HZC hf1 hf2 q1
 have K0':=fun W (h:Fr No w2 W)=>K0 W (q2.trans0 h)
 have K1':=fun W (h:Fr No w2 W)=>K1 W (q2.trans0 h)
 go_wp2_with fail
 refine zn0 9 35 [mV (.agg #[.slice A p.keepers.length cap]),mC (zhw p w2.heap.size) (zhx _ _),mV (.agg #[.int .i64 c.kind,.int .i64 c.keeper,.string c.name,.int .i64 c.tq,.string c.cls.name,.string c.cls.super,.slice Af c.cls.fields.length cf,.slice Am c.cls.methods.length cm]),mC (chgT c w2.heap.size) (zCA _ _),mC (ptT p c) (zCC _ _),mC (ptT p c) (zCC _ _),mC (pt0 p c) (zCD _ _),mE (mV (.bool (zA4 p c))),mB 35 (#[.slice none 0 0]) w2.heap.size] (by kernel_rfl) (by kernel_rfl) (by simp) ?_ ?_
 ·refine hc4 ?_ ?_ ?_ ?_ <| hc4 ?_ ?_ ?_ ?_ <| hopC ?_ <| hopZ
  all_goals (intro a' W hW hoff hdep;have hbs:=hW.size;have H2:=hoff 2 rfl;have H3:=hoff 3 rfl)
  ·exact nE rfl gx0
  ·have D28:_=_:=hdep 0 28 rfl;refine nE rfl ?_;simp[Act.eval,D28,go_sem,zaa];exact(HT _ (hfA.trans0 (q2.trans0 hW))).mono fun e w' h=>let ⟨v,h1,h2,h3⟩:=zhy h hbs;⟨v,h1,h2,h3⟩
  ·exact nE rfl gx0
  ·have D30:_=_:=hdep 2 30 rfl;refine nE rfl ?_;simp[Act.eval,D30,go_sem,zaa];exact(HTC _ (hfA.trans0 (q2.trans0 hW))).mono fun e w' h=>let ⟨v,h1,h2,h3⟩:=zCB h hbs;⟨v,h1,h2,h3⟩
  ·obtain⟨vkp,D29,hk⟩:(zhw p w2.heap.size) _ W:=hdep 1 29 rfl;obtain⟨vf9,vm9,D31,hc⟩:(chgT c w2.heap.size) _ W:=hdep 3 31 rfl;refine nE rfl ?_;simp[Act.eval,D29,D31,go_sem,zaa];exact(HS _ _ _ (hk.weaken zN (fun _ _ _ h=>h.weaken zN)) (hc.weaken zN)).mono fun e w' h=>(let ⟨v,h1,h2,h3⟩:=ptS h;⟨v,h1,h2,h3⟩)
  ·obtain⟨A9,k9,D32,hS⟩:(ptT p c) _ W:=hdep 4 32 rfl;refine nE rfl ?_;simp[execOp,Act.eval,D32,go_sem,zaa];exact⟨Fr.refl _ _,A9,k9,rfl,hS⟩
  ·obtain⟨A9,k9,D27,hS⟩:(ptT p c) _ W:=hdep 5 27 rfl;refine nE rfl ?_;simp[execOp,Act.eval,D27,go_sem,zaa];exact⟨Fr.refl _ _,A9,k9,rfl,hS⟩
  ·obtain⟨A9,k9,D27,hS⟩:(ptT p c) _ W:=hdep 5 27 rfl;exact yE rfl ⟨.bool (zA4 p c),fun W=>by simp[execOp,Act.eval,D27,go_sem],rfl,rfl⟩
  ·refine nE rfl ?_;simp[execOp,go_sem,zaa];exact⟨(Fr.refl _ _).alloc _,⟨_,rfl,Bx.new_ rfl,hbs⟩,Nat.le_refl _⟩
 intro vs W3 hW3 hv hne
 obtain⟨vkpR1,e1,hkR1⟩:=hv 1 (by omega)
 obtain⟨vf9R3,vm9R3,e3,hcR3⟩:=hv 3 (by omega)
 obtain⟨A9R4,k9R4,e4,hSR4⟩:=hv 4 (by omega)
 obtain⟨A9R5,k9R5,e5,hSR5⟩:=hv 5 (by omega)
 obtain⟨A9R6,k9R6,e6,hSR6⟩:=hv 6 (by omega)
 obtain⟨b8,e8,hb8,hl8⟩:=hv 8 (by omega)
 simp only[lz6,List.drop_zero,znP,znM,znL,znK,znR,Nat.zero_add,Nat.reduceAdd,e1,e3,e4,e5,e6,e8]
 simp only[Act.put,lz0,lz1,lz2]
 clear e1 e3 e4 e5 e6 e8 hv
 have hsep:∀o,W3.cell? ⟨b8,o+1,none⟩=none:=fun o=>by rw[hb8.cell];simp
 have hS3:=hSR6.sep (R':=KprC (fun b=>No b∨b=b8) W3) (by omega) hsep (fun _ _ _ h=>KprC.sep h hsep)
 clear hSR5 hSR6 hcR3 hkR1 hsep hne K0' K1'
 have m0:=hb8.c1
 have ml:=hb8.lt
 have mf:=hb8.frozen
 go_upto_region 9 with (fail)
 obtain⟨W4,hW4⟩:∃W4,W4=W3.setCell ⟨b8,0,none⟩ (.slice A9R6 (zA5 p c).length k9R6):=⟨_,rfl⟩
 rw[<-hW4]
 have hst4:Fr (fun q=>q=b8) W3 W4:=hW4▸Fr.cell1 _ _ _ _
 have B6:Bx W4 b8 35 #[.slice A9R6 (zA5 p c).length k9R6]:=hW4▸hb8.setc rfl
 have hS4:=(hS3.keep (R':=KprC (fun b=>No b∨b=b8) W4) hst4 (fun b e=>.inr e) (fun _ _ _ h=>KprC.keep h hst4 (fun b e=>.inr e))).weaken (Y:=No) (R':=KprC No W4) zN (fun _ _ _ h=>KprC.weaken h zN)
 have hw2s:=q2.size
 have q4:Fr No wA W4:=(q2.trans0 hW3).trans hst4 (fun b hb e=>by omega)
 replace hW4:=Lib.hid hW4
 clear hS3 hst4 m0 ml mf hb8 hW3
 have K6:=B6.r1
 have K0':=fun W (h:Fr No W4 W)=>K0 W (q4.trans0 h)
 have K1':=fun W (h:Fr No W4 W)=>K1 W (q4.trans0 h)
 obtain⟨xx0,_,xx1⟩:=K0' _ (Fr.refl No W4)
 go_wp2_with fail
 refine(HN _ (hfA.trans0 q4)).mono ?_
 rintro e w5 ⟨cs5,rfl,⟨vx,rfl,hx⟩,hf5,hnf⟩
 obtain⟨Ax,cx,rfl,_,_⟩:=hx.form
 have q5:Fr No wA w5:=q4.trans0 hf5
 obtain⟨w6,hw6⟩:∃w6,w6=w5.alloc (.cells #[.slice Ax p.keepers.length cx] 35):=⟨_,rfl⟩
 have hf6:Fr No w5 w6:=hw6▸(Fr.refl No w5).alloc _
 have B8:Bx w6 w5.heap.size 35 #[.slice Ax p.keepers.length cx]:=hw6▸Bx.new_ rfl
 have hs6:w6.heap.size=w5.heap.size+1:=by rw[hw6];simp
 have q6:Fr No wA w6:=q5.trans0 hf6
 have t6:Fr No W4 w6:=hf5.trans0 hf6
 clear xx0 xx1
 obtain⟨y0,y1,y2,y3,y4,y5,y6,y7,_,yl⟩:=K1' _ t6
 have s4:=q4.size
 go_upto_region 10 with (fail)
 rw[<-hw6]
 replace hw6:=Lib.hid hw6
 go_wp2_with fail
 refine(HNC _ (hfA.trans0 q6)).mono ?_
 rintro e w7 ⟨cs7,rfl,hxc,hf7,hnfc⟩
 obtain⟨vf7,vm7,rfl,_,_,_,hff,hmm⟩:=id hxc
 obtain⟨Bf,bf,rfl,_,_⟩:=hff.form
 obtain⟨Bm,bm,rfl,_,_⟩:=hmm.form
 clear hff hmm y0 y1 y2 y3 y4 y5 y6 y7 yl
 obtain⟨w8,hw8⟩:∃w8,w8=w7.alloc (.cells #[.int .i64 c.kind,.int .i64 c.keeper,.string c.name,.int .i64 c.tq,.string c.cls.name,.string c.cls.super,.slice Bf c.cls.fields.length bf,.slice Bm c.cls.methods.length bm] 44):=⟨_,rfl⟩
 have hf8:Fr No w7 w8:=hw8▸(Fr.refl No w7).alloc _
 have B9:Bx w8 w7.heap.size 44 #[.int .i64 c.kind,.int .i64 c.keeper,.string c.name,.int .i64 c.tq,.string c.cls.name,.string c.cls.super,.slice Bf c.cls.fields.length bf,.slice Bm c.cls.methods.length bm]:=hw8▸Bx.new_ rfl
 have f68:=hf7.trans0 hf8
 have f58:=hf6.trans0 f68
 have t8:Fr No W4 w8:=t6.trans0 f68
 have q8:Fr No wA w8:=q6.trans0 f68
 have s5:=hf5.size
 have s7:=hf7.size
 have s8:w7.heap.size≤w8.heap.size:=hf8.size
 have hxN:=(hx.weaken (Y:=No) zN (fun _ _ _ h=>h.weaken zN)).keep (R':=KprC No w8) f58 zN (fun _ _ _ h=>h.keep f58 zN)
 have hcN:=ChgC.keep (ChgC.weaken (Y:=No) hxc zN) hf8 zN
 have hxP:=((hx.oldX (R':=KprC (fun b=>b<W4.heap.size∨w5.heap.size≤b) w5) (by decide) (fun _ _ _ h=>h.oldX)).weaken (Y:=fun b=>b<W4.heap.size∨w7.heap.size≤b) (R':=KprC (fun b=>b<W4.heap.size∨w7.heap.size≤b) w5) (fun b h=>h.imp id (fun e=>by omega)) (fun _ _ _ h=>h.weaken (fun b h=>h.imp id (fun e=>by omega)))).keep (R':=KprC (fun b=>b<W4.heap.size∨w7.heap.size≤b) w8) f58 zN (fun _ _ _ h=>h.keep f58 zN)
 have hcP:ChgC (fun b=>b<W4.heap.size∨w7.heap.size≤b) w8 _ c:=ChgC.keep (ChgC.weaken (ChgC.oldX hxc) (fun b h=>h.imp (fun e=>by show b<w6.heap.size;omega) id)) hf8 zN
 have hun:Unf W4.heap.size w7.heap.size w8:=⟨s8,fun b o h1 h2=>by
  rw[hf8.frozen o h2]
  rcases Nat.lt_or_ge b w5.heap.size with h9|h9
  ·rw[hf7.frozen o (by omega),hf6.frozen o h9];exact hnf.free b o h1
  ·rcases Nat.lt_or_ge b w6.heap.size with h8|h8
   ·obtain rfl:b=w5.heap.size:=by omega
    rw[hf7.frozen o h8];exact B8.frozen o
   ·exact hnfc.free b o h8⟩
 have B8:=B8.keep f68
 clear hx hxc hnf hnfc
 have K8:=B8.r1
 have K9:=B9.r8
 obtain⟨xx0,_,xx1⟩:=K8 _ (Fr.refl No w8)
 obtain⟨y0,y1,y2,y3,y4,y5,y6,y7,_,yl⟩:=K9 _ (Fr.refl No w8)
 go_upto_region 11 with (fail)
 rw[<-hw8]
 replace hw8:=Lib.hid hw8
 go_wp2_with fail
 refine(HI _ _ _ hxN hcN).mono ?_
 rintro e w9 ⟨v9,rfl,hT9,hf9⟩
 obtain⟨Ag,kg,rfl,_,_⟩:=OwnL.form hT9
 clear xx0 xx1 y0 y1 y2 y3 y4 y5 y6 y7 yl
 go_upto_region 12 with (fail)
 obtain⟨w10,hw10⟩:∃w10,w10=w9.alloc (.cells #[.slice Ag (zA5 p c).length kg] 35):=⟨_,rfl⟩
 rw[<-hw10]
 have hf10:Fr No w9 w10:=hw10▸(Fr.refl No w9).alloc _
 have B10:Bx w10 w9.heap.size 35 #[.slice Ag (zA5 p c).length kg]:=hw10▸Bx.new_ rfl
 have s9:=hf9.size
 have hT10:zzE w10 (fun b=>w8.heap.size≤b∧b<w9.heap.size) _ (zA5 p c):=(OwnL.wid hT9 (fun b h1 h2=>⟨h1,h2⟩)).keep zzK hf10 (fun _ _ _ h=>h)
 have f810:=hf9.trans0 hf10
 have t10:Fr No W4 w10:=t8.trans0 f810
 have q10:Fr No wA w10:=q8.trans0 f810
 replace hw10:=Lib.hid hw10
 have s10:w9.heap.size<w10.heap.size:=B10.lt
 clear hT9 hf9 hf10
 have K10:=B10.r1
 have hbb:(zA4 p c != zA4 p c)=false:=by simp
 have EQ:=fun W (u:Value) (hu:Sl No W 2 (KprC No W) u (zA5 p c)) (ht:Fr No W4 W)=>zhv No No ⟨zA5 p c⟩ [u] [.slice A9R6 (zA5 p c).length k9R6] W ⟨_,rfl,hu⟩ ⟨_,rfl,hS4.keep (R':=KprC No W) ht zN (fun _ _ _ h=>KprC.keep h ht zN)⟩
 obtain⟨xx0,_,xx1⟩:=K10 _ (Fr.refl No w10)
 obtain⟨zz0,_,zz1⟩:=K6 _ t10
 go_wp2_with fail
 refine(EQ _ _ (OwnL.kprs hT10 (fun _ _ _ h=>h)) t10).mono ?_
 rintro e w11 ⟨rfl,hf11⟩
 have t11:Fr No W4 w11:=t10.trans0 hf11
 have q11:Fr No wA w11:=q10.trans0 hf11
 have f811:=f810.trans0 hf11
 have hT11:=OwnL.keep zzK hT10 hf11 (fun _ _ _ h=>h)
 have KL:=fun W (h:Fr No w11 W)=>K0' W (t11.trans0 h)
 have KC:=fun W (h:Fr No w11 W)=>K1' W (t11.trans0 h)
 have KX:=fun W (h:Fr No w11 W)=>K8 W (f811.trans0 h)
 clear xx0 xx1 zz0 zz1 hT10
 go_wp2_with fail
 refine zn0 4 58 [mV (.agg #[.slice Ax p.keepers.length cx]),mV (.agg #[.slice A p.keepers.length cap]),mC (zhw p w11.heap.size) (zhx _ _),mV (.bool true)] (by kernel_rfl) (by kernel_rfl) (by simp) ?_ ?_
 ·refine hc4 ?_ ?_ ?_ ?_ <| hopZ
  all_goals (intro a' W hW hoff hdep;have hbs:=hW.size;have H8:=hoff 8 rfl;have H2:=hoff 2 rfl;refine nE rfl ?_)
  ·exact gx0
  ·exact gx0
  ·have D55:_=_:=hdep 1 55 rfl;simp[Act.eval,D55,go_sem,zaa];exact(HT _ (hfA.trans0 (q11.trans0 hW))).mono fun e w' h=>let ⟨v,h1,h2,h3⟩:=zhy h hbs;⟨v,h1,h2,h3⟩
  ·have D54:_=_:=hdep 0 54 rfl;obtain⟨vkp,D56,hk⟩:(zhw p w11.heap.size) _ W:=hdep 2 56 rfl;simp[Act.eval,D54,D56,go_sem,zaa];exact(zhv _ _ p _ _ W ⟨_,rfl,hxN.keep (R':=KprC No W) (f811.trans0 hW) zN (fun _ _ _ h=>h.keep (f811.trans0 hW) zN)⟩ ⟨_,rfl,hk⟩).mono fun e w' h=>⟨_,h.1,h.2,rfl⟩
 intro vs W12 hW12 hv hne
 obtain⟨vkpR2,e2,hkR2⟩:=hv 2 (by omega)
 simp only[lz6,List.drop_zero,znM,znK,znR,Nat.zero_add,Nat.reduceAdd,e2]
 simp only[Act.put,lz0,lz1,lz2]
 clear e2 hv
 clear hne hkR2 KL KC KX
 have t12:Fr No W4 W12:=t11.trans0 hW12
 have q12:Fr No wA W12:=q11.trans0 hW12
 have f812:=f811.trans0 hW12
 have hT12:=OwnL.keep zzK hT11 hW12 (fun _ _ _ h=>h)
 have KC:=fun W (h:Fr No W12 W)=>K1' W (t12.trans0 h)
 have KX:=fun W (h:Fr No W12 W)=>K9 W (f812.trans0 h)
 clear hT11
 go_wp2_with fail
 refine zn0 4 63 [mV (.agg #[.int .i64 c.kind,.int .i64 c.keeper,.string c.name,.int .i64 c.tq,.string c.cls.name,.string c.cls.super,.slice Bf c.cls.fields.length bf,.slice Bm c.cls.methods.length bm]),mV (.agg #[.int .i64 c.kind,.int .i64 c.keeper,.string c.name,.int .i64 c.tq,.string c.cls.name,.string c.cls.super,.slice Af c.cls.fields.length cf,.slice Am c.cls.methods.length cm]),mC (chgT c W12.heap.size) (zCA _ _),mV (.bool true)] (by kernel_rfl) (by kernel_rfl) (by simp) ?_ ?_
 ·refine hc4 ?_ ?_ ?_ ?_ <| hopZ
  all_goals (intro a' W hW hoff hdep;have hbs:=hW.size;have H9:=hoff 9 rfl;have H3:=hoff 3 rfl;refine nE rfl ?_)
  ·exact gx0
  ·exact gx0
  ·have D60:_=_:=hdep 1 60 rfl;simp[Act.eval,D60,go_sem,zaa];exact(HTC _ (hfA.trans0 (q12.trans0 hW))).mono fun e w' h=>let ⟨v,h1,h2,h3⟩:=zCB h hbs;⟨v,h1,h2,h3⟩
  ·have D59:_=_:=hdep 0 59 rfl;obtain⟨vf9,vm9,D61,hc⟩:(chgT c W12.heap.size) _ W:=hdep 2 61 rfl;simp[Act.eval,D59,D61,go_sem,zaa];exact(zAY _ _ c _ _ W (ChgC.keep hcN (f812.trans0 hW) zN) hc).mono fun e w' h=>⟨_,h.1,h.2,rfl⟩
 intro vs W13 hW13 hv hne
 obtain⟨vf9R2,vm9R2,e2,hcR2⟩:=hv 2 (by omega)
 simp only[lz6,List.drop_zero,znM,znK,znR,Nat.zero_add,Nat.reduceAdd,e2]
 simp only[Act.put,lz0,lz1,lz2]
 clear e2 hv
 clear hne hcR2 KC KX hxN hcN
 have t13:Fr No W4 W13:=t12.trans0 hW13
 have q13:Fr No wA W13:=q12.trans0 hW13
 have f813:=f812.trans0 hW13
 have hT13:=OwnL.keep zzK hT12 hW13 (fun _ _ _ h=>h)
 clear hT12
 obtain⟨n1,hn1,HM⟩:=zCu W4.heap.size w7.heap.size p _ W13 (hxP.keep f813 zN (fun _ _ _ h=>h.keep f813 zN)) (hun.tw (X:=No) (Tw.of0 f813)) hsz
 obtain⟨x0,_,xl⟩:=K8 W13 f813
 go_wp2_with fail
 refine HM.mono ?_
 rintro e w14 ⟨rfl,hTw⟩
 have t14:Fr No W4 w14:=t13.trans hTw.fr (fun b hb h=>by omega)
 have q14:Fr No wA w14:=q13.trans hTw.fr (fun b hb h=>by omega)
 have hT14:=OwnL.keep zzK hT13 hTw.fr (fun b hb _ h=>by omega)
 have s13:=f813.size
 have s14:=hTw.fr.size
 have B9':=(B9.keep f813).keepX hTw.fr (fun h=>by omega)
 have B10':=((B10.keep hf11).keep hW12).keep hW13
 have B10':=B10'.keepX hTw.fr (fun h=>by omega)
 obtain⟨y0,y1,y2,y3,y4,y5,y6,y7,_,yl⟩:=B9'.r8 _ (Fr.refl No w14)
 have hcW:ClsW (fun b=>b<W4.heap.size∨w7.heap.size≤b) W13 [.string c.cls.name,.string c.cls.super,.slice Bf c.cls.fields.length bf,.slice Bm c.cls.methods.length bm] (zoD c.cls):=by
  obtain⟨_,_,e1,_,z1,z2,h1,h2⟩:=ChgC.keep hcP f813 zN
  simp only[List.cons.injEq,and_true,true_and] at e1
  obtain⟨rfl,rfl⟩:=e1
  exact ClsC.wt ⟨_,_,rfl,z1,z2,h1,h2⟩
 obtain⟨n3,hn3,HMC⟩:=zCw W4.heap.size w7.heap.size c Bf Bm _ bf _ bm (n1:Int) w14 (hcW.lk hTw rfl (fun j u h=>⟨u,h,.refl _⟩)) ((hun.tw (X:=No) (Tw.of0 f813)).tw hTw) (by omega) (by omega) hsc (by omega)
 clear HM hT13 x0 xl hcW hcP hxP hun
 go_wp2_with fail
 refine HMC.mono ?_
 rintro e w15 ⟨rfl,hTc⟩
 have t15:Fr No W4 w15:=t14.trans hTc.fr (fun b hb h=>by omega)
 have q15:Fr No wA w15:=q14.trans hTc.fr (fun b hb h=>by omega)
 have hT15:=OwnL.keep zzK hT14 hTc.fr (fun b hb _ h=>by omega)
 have B10':=B10'.keepX hTc.fr (fun h=>by omega)
 have s15:=hTc.fr.size
 have hn3':¬n3<0:=by omega
 clear HMC hT14 y0 y1 y2 y3 y4 y5 y6 y7 yl B9' hTc hTw
 obtain⟨xx0,_,xx1⟩:=B10'.r1 _ (Fr.refl No w15)
 obtain⟨zz0,_,zz1⟩:=K6 _ t15
 go_wp2_with fail
 refine(EQ _ _ (OwnL.kprs hT15 (fun _ _ _ h=>h)) t15).mono ?_
 rintro e w16 ⟨rfl,hf16⟩
 have t16:Fr No W4 w16:=t15.trans0 hf16
 have q16:Fr No wA w16:=q15.trans0 hf16
 have hT16:=OwnL.keep zzK hT15 hf16 (fun _ _ _ h=>h)
 have B10':=B10'.keep hf16
 have s16:=hf16.size
 clear xx0 xx1 zz0 zz1 hT15
 obtain⟨xx0,_,xx1⟩:=B10'.r1 _ (Fr.refl No w16)
 go_wp2_with fail
 refine(zCx _ _ _ _ hT16 hwt).mono ?_
 rintro e w17 ⟨rfl,hT17,hf17⟩
 have t17:Fr No W4 w17:=t16.trans hf17 (fun b hb h=>by have:=h.1.1;omega)
 have q17:Fr No wA w17:=q16.trans hf17 (fun b hb h=>by have:=h.1.1;have:=t16.size;omega)
 have B10':=B10'.keepX hf17 (fun h=>by have:=h.1.2;omega)
 clear xx0 xx1 hT16
 obtain⟨xx0,_,xx1⟩:=B10'.r1 _ (Fr.refl No w17)
 go_wp2_with fail
 refine(zCy No _ _ _ (OwnL.kprs hT17 (fun _ _ _ h=>h)) hwt).mono ?_
 rintro e w18 ⟨rfl,hf18⟩
 have t18:Fr No W4 w18:=t17.trans0 hf18
 have q18:Fr No wA w18:=q17.trans0 hf18
 have hT18:=OwnL.keep zzK hT17 hf18 (fun _ _ _ h=>h)
 have B10':=B10'.keep hf18
 have hB18:=B10'.lt
 clear xx0 xx1 hT17
 obtain⟨sm,hsm⟩:∃sm:Nat,sm=sumL zoE (zA5 p c):=⟨_,rfl⟩
 rw[<-hsm]
 replace hsm:=Lib.hid hsm
 have hb1:((1+(sm:Int)) != (1+(sm:Int)))=false:=by simp
 have KL:=fun W (h:Fr No w18 W)=>K0' W (t18.trans0 h)
 have KC:=fun W (h:Fr No w18 W)=>K1' W (t18.trans0 h)
 go_wp2_with fail
 refine zn0 9 102 [mV (.agg #[.slice A p.keepers.length cap]),mC (zhw p w18.heap.size) (zhx _ _),mV (.agg #[.int .i64 c.kind,.int .i64 c.keeper,.string c.name,.int .i64 c.tq,.string c.cls.name,.string c.cls.super,.slice Af c.cls.fields.length cf,.slice Am c.cls.methods.length cm]),mC (chgT c w18.heap.size) (zCA _ _),mC (ptT p c) (zCC _ _),mC (ptT p c) (zCC _ _),mC (pt0 p c) (zCD _ _),mE (mV (.bool (zA4 p c))),mB 35 (#[.slice none 0 0]) w18.heap.size] (by kernel_rfl) (by kernel_rfl) (by simp) ?_ ?_
 ·refine hc4 ?_ ?_ ?_ ?_ <| hc4 ?_ ?_ ?_ ?_ <| hopC ?_ <| hopZ
  all_goals (intro a' W hW hoff hdep;have hbs:=hW.size;have H2:=hoff 2 rfl;have H3:=hoff 3 rfl)
  ·exact nE rfl gx0
  ·have D95:_=_:=hdep 0 95 rfl;refine nE rfl ?_;simp[Act.eval,D95,go_sem,zaa];exact(HT _ (hfA.trans0 (q18.trans0 hW))).mono fun e w' h=>let ⟨v,h1,h2,h3⟩:=zhy h hbs;⟨v,h1,h2,h3⟩
  ·exact nE rfl gx0
  ·have D97:_=_:=hdep 2 97 rfl;refine nE rfl ?_;simp[Act.eval,D97,go_sem,zaa];exact(HTC _ (hfA.trans0 (q18.trans0 hW))).mono fun e w' h=>let ⟨v,h1,h2,h3⟩:=zCB h hbs;⟨v,h1,h2,h3⟩
  ·obtain⟨vkp,D96,hk⟩:(zhw p w18.heap.size) _ W:=hdep 1 96 rfl;obtain⟨vf9,vm9,D98,hc⟩:(chgT c w18.heap.size) _ W:=hdep 3 98 rfl;refine nE rfl ?_;simp[Act.eval,D96,D98,go_sem,zaa];exact(HI _ _ _ (hk.weaken zN (fun _ _ _ h=>h.weaken zN)) (hc.weaken zN)).mono fun e w' h=>(let ⟨v,h1,h2,h3⟩:=ptI h;⟨v,h1,h2,h3⟩)
  ·obtain⟨A9,k9,D99,hS⟩:(ptT p c) _ W:=hdep 4 99 rfl;refine nE rfl ?_;simp[execOp,Act.eval,D99,go_sem,zaa];exact⟨Fr.refl _ _,A9,k9,rfl,hS⟩
  ·obtain⟨A9,k9,D94,hS⟩:(ptT p c) _ W:=hdep 5 94 rfl;refine nE rfl ?_;simp[execOp,Act.eval,D94,go_sem,zaa];exact⟨Fr.refl _ _,A9,k9,rfl,hS⟩
  ·obtain⟨A9,k9,D94,hS⟩:(ptT p c) _ W:=hdep 5 94 rfl;exact yE rfl ⟨.bool (zA4 p c),fun W=>by simp[execOp,Act.eval,D94,go_sem],rfl,rfl⟩
  ·refine nE rfl ?_;simp[execOp,go_sem,zaa];exact⟨(Fr.refl _ _).alloc _,⟨_,rfl,Bx.new_ rfl,hbs⟩,Nat.le_refl _⟩
 intro vs W19 hW19 hv hne
 obtain⟨vkpR1,e1,hkR1⟩:=hv 1 (by omega)
 obtain⟨vf9R3,vm9R3,e3,hcR3⟩:=hv 3 (by omega)
 obtain⟨A9R4,k9R4,e4,hSR4⟩:=hv 4 (by omega)
 obtain⟨A9R5,k9R5,e5,hSR5⟩:=hv 5 (by omega)
 obtain⟨A8R6,k8R6,e6,hSR6⟩:=hv 6 (by omega)
 obtain⟨b8,e8,hb8,hl8⟩:=hv 8 (by omega)
 simp only[lz6,List.drop_zero,znP,znM,znL,znK,znR,Nat.zero_add,Nat.reduceAdd,e1,e3,e4,e5,e6,e8]
 simp only[Act.put,lz0,lz1,lz2]
 clear e1 e3 e4 e5 e6 e8 hv
 have hsep:∀o,W19.cell? ⟨b8,o+1,none⟩=none:=fun o=>by rw[hb8.cell];simp
 have hS3:=hSR6.sep (R':=KprC (fun b=>No b∨b=b8) W19) (by omega) hsep (fun _ _ _ h=>KprC.sep h hsep)
 clear hSR5 hSR6 hcR3 hkR1 hsep hne KL KC
 have m0:=hb8.c1
 have ml:=hb8.lt
 have mf:=hb8.frozen
 have hT19:=OwnL.keep zzK hT18 hW19 (fun _ _ _ h=>h)
 have B10':=B10'.keep hW19
 have s18:=t18.size
 go_upto_region 32 with (fail)
 obtain⟨W20,hW20⟩:∃W20,W20=W19.setCell ⟨b8,0,none⟩ (.slice A8R6 (zA5 p c).length k8R6):=⟨_,rfl⟩
 rw[<-hW20]
 have hst4:Fr (fun q=>q=b8) W19 W20:=hW20▸Fr.cell1 _ _ _ _
 have B15:Bx W20 b8 35 #[.slice A8R6 (zA5 p c).length k8R6]:=hW20▸hb8.setc rfl
 have hS20:=(hS3.keep (R':=KprC (fun b=>No b∨b=b8) W20) hst4 (fun b e=>.inr e) (fun _ _ _ h=>KprC.keep h hst4 (fun b e=>.inr e))).weaken (Y:=No) (R':=KprC No W20) zN (fun _ _ _ h=>KprC.weaken h zN)
 have t20:Fr No W4 W20:=(t18.trans0 hW19).trans hst4 (fun b hb e=>by omega)
 have q20:Fr No wA W20:=(q18.trans0 hW19).trans hst4 (fun b hb e=>by have:=q18.size;omega)
 have hs17:=hf18.size
 have hT20:=OwnL.keep zzK hT19 hst4 (fun b hb _ e=>by have:=hb.2;have:=hf17.size;omega)
 have B10':=B10'.keepX hst4 (fun e=>by have:=hf17.size;omega)
 replace hW20:=Lib.hid hW20
 clear hS3 hst4 m0 ml mf hb8 hT18 hT19
 obtain⟨xx0,_,xx1⟩:=B15.r1 _ (Fr.refl No W20)
 obtain⟨zz0,_,zz1⟩:=K6 _ t20
 go_wp2_with fail
 refine(EQ _ _ hS20 t20).mono ?_
 rintro e w21 ⟨rfl,hf21⟩
 have hT21:=OwnL.keep zzK hT20 hf21 (fun _ _ _ h=>h)
 have B10':=B10'.keep hf21
 have q21:Fr No wA w21:=q20.trans0 hf21
 clear xx0 xx1 zz0 zz1 hS20 hT20 EQ HI HS HT HTC HN HNC
 obtain⟨xx0,_,xx1⟩:=B10'.r1 _ (Fr.refl No w21)
 go_wp2_with fail
 refine(zCy No _ _ _ (OwnL.kprs hT21 (fun _ _ _ h=>h)) hwt).mono ?_
 rintro e w22 ⟨rfl,hf22⟩
 rw[<-hsm.out]
 clear hT21 xx0 xx1 hS4 hwt
 have hfin:=Lib.hid ((hfA.trans0 q21).trans0 hf22)
 go_wp2_with fail
 go_ret
 exact .mk rfl hfin.out
end Go.Proofs.YtpghfhjhjlmljaaGreat
