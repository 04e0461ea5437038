/- The law's walk: the program's LookMethod is the reference's, in its own memory, and the keepers stay as they were. -/
import Derived.Test.YthembcdcdnffeaaGreatEHPrw5
import Derived.Test.YthembcdcdnffeaaGreatEHPrwF
import Derived.ProofKit
import Derived.KernelRfl
import Derived.Below
import Derived.ChangeSame
import Derived.LaidMore
set_option maxHeartbeats 8000000
set_option maxRecDepth 100000
namespace Go.Proofs.YthembcdcdnffeaaGreat
open Go.RowKit Go.ChangeShapes Go.WideShapes Go.ChangeAt
theorem Frms.up {W W':World} {b0 b1:Nat} {v:Value} {fs:List Frm} (h:Frms W (fun q=>b0≤q) v fs) (hf:Fr No W W') (hb:b1≤b0):Frms W' (fun q=>b1≤q) v fs:=h.keep hf (fun _ _ _ h=>h) (fun _ h _=>Nat.le_trans hb h)
theorem zpy (p:Plan) (r:Ref) (ix:Int) (cs:List Value) (w:World) (h:zf9 No w cs p) (hr:r.name.size≤maxLen) (wk:(Lit.int .i64 r.keeper).wf=true):
  Calls Tryz.prog 5 #[.agg cs.toArray,.agg #[.int .i64 r.keeper,.string r.name],.int .i64 ix] w (zgm true w):=by
 obtain⟨rk,rn⟩:=r
 dsimp only at hr wk ⊢
 have hpk:=fun W (hW:Fr No w W)=>(by obtain⟨vk,rfl,h⟩:=h;exact⟨vk,rfl,h.keep hW zN (fun _ _ _ h=>h.keep hW zN)⟩:zf9 No W cs p)
 have HZ:=fun W (hW:Fr No w W)=>zcc No p cs 1048576 W (hpk W hW) (by omega) (by omega)
 have HN:=fun W (hW:Fr No w W) (hs:zcb p≤1048576)=>zjk No p cs W (hpk W hW) hs
 have HZR:=fun left W (h0:0≤left) (h1:left≤1048576)=>zce ⟨rk,rn⟩ [.int .i64 rk,.string rn] left W ⟨rfl,hr⟩ h0 h1
 have HTR:=fun W=>zcf ⟨rk,rn⟩ [.int .i64 rk,.string rn] W ⟨rfl,hr⟩
 clear hpk
 obtain⟨pvk,rfl,hk⟩:=h
 obtain⟨A,cap,rfl,_,_⟩:=hk.form
 clear hk
 obtain⟨wA,hwA⟩:∃wA,wA=((w.alloc (.cells #[.slice A p.keepers.length cap] 24)).alloc (.cells #[.int .i64 rk,.string rn] 26)):=⟨_,rfl⟩
 have hfA:Fr No w wA:=hwA▸frc
 have K0:=(hwA▸bxc:Bx wA w.heap.size 24 #[.slice A p.keepers.length cap]).r1
 have K1:=(hwA▸bxc:Bx wA (w.heap.size+1) 26 #[.int .i64 rk,.string rn]).r2
 go_enter Tryz.func5,Tryz.ntmps5
 go_wp2_with fail
 rw[<-hwA]
 replace hwA:=Lib.hid hwA
 refine(HZ _ hfA).mono ?_
 rintro e w1 ⟨n1,rfl,hn1,hf1⟩
 have q1:Fr No wA w1:=frc
 by_cases hneg:n1<0
 ·go_wp2
  go_ret
  exact .mk rfl frc
 have hn1':=hn1.out
 obtain⟨x0,x1,_,xl⟩:=K1 _ q1
 go_wp2_with fail
 refine(HZR n1 w1 (by omega) (by omega)).mono ?_
 rintro e w2 ⟨n2,rfl,hn2,hf2⟩
 have q2:Fr No wA w2:=frc
 clear x0 x1 xl
 by_cases hneg2:n2<0
 ·go_wp2
  go_ret
  exact .mk rfl frc
 have hn2':=hn2.out
 have hsz:zcb p≤1048576:=by omega
 have HN:=fun W hW=>HN W hW hsz
 have HT:=fun W hW=>(HN W hW).mono (R':=zgn zf9 p W) fun _ _ ⟨x,h1,h2,h3,_⟩=>⟨x,h1,h2,h3⟩
 have HS:=fun pv W (h:Sl No W 2 (KprC No W) pv p.keepers)=>zpe (fun b=>W.heap.size≤b) p pv ⟨rk,rn⟩ ix W (h.old (by decide) (fun _ _ _ h=>h.old)) (fun _ h=>h) hr
 have HI:=fun pv W h=>zpm p pv ⟨rk,rn⟩ ix W h hr wk
 have hbd:=zpi p ⟨rk,rn⟩ ix
 unfold zdE at HS HI
 generalize lkmF p ⟨rk,rn⟩ ix=L at *
 obtain⟨L1,L2⟩:=L
 dsimp only at HS HI hbd
 clear hn1 hn2 hn1' hn2' HZ HZR hf1 hf2 q1
 have K0':=fun W (h:Fr No w2 W)=>K0 W (q2.trans0 h)
 have K1':=fun W (h:Fr No w2 W)=>K1 W (q2.trans0 h)
 go_wp2_with fail
 refine zn0 9 37 [mV (.agg #[.slice A p.keepers.length cap]),mC (zhw p w2.heap.size) (zhx _ _),mV (.agg #[.int .i64 rk,.string rn]),mV (.agg #[.int .i64 rk,.string rn]),mV (.int .i64 ix),mC (lkV w2.heap.size (L1,L2)) (zpc _ _),mC (lkV w2.heap.size (L1,L2)) (zpc _ _),mC (fsV w2.heap.size L1) (zpd _ _),mE (mV (.int .i64 L2))] (by kernel_rfl) (by kernel_rfl) (by simp) ?_ ?_
 ·refine hc4 ?_ ?_ ?_ ?_ <| hc4 ?_ ?_ ?_ ?_ <| hopC ?_ <| hopZ
  all_goals (intro a' W hW hoff hdep;have hbs:=hW.size;have H3:=hoff 3 rfl;have H4:=hoff 4 rfl;have H2:=hoff 2 rfl)
  ·exact nE rfl gx0
  ·have D29:_=_:=hdep 0 29 rfl;refine nE rfl ?_;simp[Act.eval,D29,go_sem,zaa];exact(HT _ (hfA.trans0 (q2.trans0 hW))).mono fun e w' h=>let ⟨v,h1,h2,h3⟩:=zhy h hbs;⟨v,h1,h2,h3⟩
  ·exact nE rfl gx0
  ·have D31:_=_:=hdep 2 31 rfl;refine nE rfl ?_;simp[Act.eval,D31,go_sem,zaa];exact(HTR _).mono fun e w' h=>⟨_,h.1,h.2,rfl⟩
  ·refine nE rfl ?_;simp[execOp,Act.eval,H2,go_sem,zaa];exact fr1 rfl
  ·obtain⟨vkp,D30,hk⟩:(zhw p w2.heap.size) _ W:=hdep 1 30 rfl;have D32:_=_:=hdep 3 32 rfl;have D33:_=_:=hdep 4 33 rfl;refine nE rfl ?_;simp[Act.eval,D30,D32,D33,go_sem,zaa];exact(HS _ _ (hk.weaken zN (fun _ _ _ h=>h.weaken zN))).mono fun e w'' h=>(let ⟨h1,u,h2,h3⟩:=h;⟨_,h2,h1,u,rfl,h3.up (Fr.refl No _) hbs⟩)
  ·obtain⟨u9,D34,hF⟩:(lkV w2.heap.size (L1,L2)) _ W:=hdep 5 34 rfl;refine nE rfl ?_;simp[execOp,Act.eval,D34,go_sem,zaa];exact⟨Fr.refl _ _,_,rfl,hF⟩
  ·obtain⟨u9,D28,hF⟩:(lkV w2.heap.size (L1,L2)) _ W:=hdep 6 28 rfl;refine nE rfl ?_;simp[execOp,Act.eval,D28,go_sem,zaa];exact⟨Fr.refl _ _,_,rfl,hF⟩
  ·obtain⟨u9,D28,hF⟩:(lkV w2.heap.size (L1,L2)) _ W:=hdep 6 28 rfl;exact yE rfl ⟨.int .i64 L2,fun W=>by simp[execOp,Act.eval,D28,go_sem],rfl,rfl⟩
 intro vs W3 hW3 hv hne
 obtain⟨vkpR1,e1,hkR1⟩:=hv 1 (by omega)
 obtain⟨u9R5,e5,hFR5⟩:=hv 5 (by omega)
 obtain⟨u9R6,e6,hFR6⟩:=hv 6 (by omega)
 obtain⟨u9R7,e7,hFR7⟩:=hv 7 (by omega)
 simp only[lz6,List.drop_zero,znM,znL,znK,znR,Nat.zero_add,Nat.reduceAdd,e1,e5,e6,e7]
 simp only[Act.put,lz0,lz1,lz2]
 clear e1 e5 e6 e7 hv
 clear hkR1 K0' K1' hFR5 hFR6 HS
 have q3:Fr No wA W3:=q2.trans0 hW3
 have hS3:=hFR7
 clear hFR7
 go_wp2_with fail
 refine(HN _ (hfA.trans0 q3)).mono ?_
 rintro e w5 ⟨cs5,rfl,⟨vx,rfl,hx⟩,hf5,hnf⟩
 obtain⟨Ax,cx,rfl,_,_⟩:=hx.form
 have q5:Fr No wA w5:=q3.trans0 hf5
 obtain⟨w6,hw6⟩:∃w6,w6=w5.alloc (.cells #[.slice Ax p.keepers.length cx] 32):=⟨_,rfl⟩
 have hf6:Fr No w5 w6:=hw6▸(Fr.refl No w5).alloc _
 have hBx:Bx w6 w5.heap.size 32 #[.slice Ax p.keepers.length cx]:=hw6▸Bx.new_ rfl
 have hxN:=(hx.weaken (Y:=No) zN (fun _ _ _ h=>h.weaken zN)).keep (R':=KprC No w6) hf6 zN (fun _ _ _ h=>h.keep hf6 zN)
 have hxP:=(hx.oldX (by decide) (fun _ _ _ h=>h.oldX)).keep (R':=KprC (fun b=>b<W3.heap.size∨w5.heap.size≤b) w6) hf6 zN (fun _ _ _ h=>h.keep hf6 zN)
 have hun:Unf W3.heap.size w5.heap.size w6:=⟨hf6.size,fun b o h1 h2=>by rw[hf6.frozen o h2];exact hnf.free b o h1⟩
 have q6:Fr No wA w6:=q5.trans0 hf6
 have t6:Fr No W3 w6:=hf5.trans0 hf6
 have KX:=hBx.r1
 have lx:=hBx.lt
 have s3:=q3.size
 have s5:=hf5.size
 have K1':=fun W (h:Fr No w6 W)=>K1 W (q6.trans0 h)
 clear hx hnf
 go_wp2_with fail
 rw[<-hw6]
 clear hw6
 refine zn0 8 47 [mV (.agg #[.slice Ax p.keepers.length cx]),mV (.agg #[.int .i64 rk,.string rn]),mV (.agg #[.int .i64 rk,.string rn]),mV (.int .i64 ix),mC (lkV w6.heap.size (L1,L2)) (zpc _ _),mC (lkV w6.heap.size (L1,L2)) (zpc _ _),mC (fsV w6.heap.size L1) (zpd _ _),mE (mV (.int .i64 L2))] (by kernel_rfl) (by kernel_rfl) (by simp) ?_ ?_
 ·refine hc4 ?_ ?_ ?_ ?_ <| hc4 ?_ ?_ ?_ ?_ <| hopZ
  all_goals (intro a' W hW hoff hdep;have hbs:=hW.size;have H10:=hoff 10 rfl;have H4:=hoff 4 rfl;have H2:=hoff 2 rfl)
  ·exact nE rfl gx0
  ·exact nE rfl gx0
  ·have D41:_=_:=hdep 1 41 rfl;refine nE rfl ?_;simp[Act.eval,D41,go_sem,zaa];exact(HTR _).mono fun e w' h=>⟨_,h.1,h.2,rfl⟩
  ·refine nE rfl ?_;simp[execOp,Act.eval,H2,go_sem,zaa];exact fr1 rfl
  ·have D40:_=_:=hdep 0 40 rfl;have D42:_=_:=hdep 2 42 rfl;have D43:_=_:=hdep 3 43 rfl;refine nE rfl ?_;simp[Act.eval,D40,D42,D43,go_sem,zaa];exact(HI _ _ (hxN.keep (R':=KprC No W) hW zN (fun _ _ _ h=>h.keep hW zN))).mono fun e w'' h=>(let ⟨h1,u,h2,h3⟩:=h;⟨_,h2,h1,u,rfl,h3.up (Fr.refl No _) hbs⟩)
  ·obtain⟨u8,D44,hF⟩:(lkV w6.heap.size (L1,L2)) _ W:=hdep 4 44 rfl;refine nE rfl ?_;simp[execOp,Act.eval,D44,go_sem,zaa];exact⟨Fr.refl _ _,_,rfl,hF⟩
  ·obtain⟨u8,D39,hF⟩:(lkV w6.heap.size (L1,L2)) _ W:=hdep 5 39 rfl;refine nE rfl ?_;simp[execOp,Act.eval,D39,go_sem,zaa];exact⟨Fr.refl _ _,_,rfl,hF⟩
  ·obtain⟨u8,D39,hF⟩:(lkV w6.heap.size (L1,L2)) _ W:=hdep 5 39 rfl;exact yE rfl ⟨.int .i64 L2,fun W=>by simp[execOp,Act.eval,D39,go_sem],rfl,rfl⟩
 intro vs W7 hW7 hv hne
 obtain⟨u8R4,e4,hFR4⟩:=hv 4 (by omega)
 obtain⟨u8R5,e5,hFR5⟩:=hv 5 (by omega)
 obtain⟨u8R6,e6,hFR6⟩:=hv 6 (by omega)
 simp only[lz6,List.drop_zero,znM,znL,znK,znR,Nat.zero_add,Nat.reduceAdd,e4,e5,e6]
 simp only[Act.put,lz0,lz1,lz2]
 clear e4 e5 e6 hv
 clear hFR4 hFR5 K1'
 have q7:Fr No wA W7:=q6.trans0 hW7
 have hbb:(L2 != L2)=false:=by simp
 have hG7:=hFR6
 clear hFR6
 go_wp2_with fail
 refine(zpl No No _ _ L1 W7 (hG7.sl (fun _ _ h=>h)) ((hS3.keep (X:=No) (Y':=fun _=>True) (t6.trans0 hW7) (fun _ _ _ h=>h) (fun _ _ _=>trivial)).sl (fun _ _ h=>h))).mono ?_
 rintro e w8 ⟨rfl,hf8⟩
 have q8:Fr No wA w8:=q7.trans0 hf8
 have p8:Fr No w6 w8:=hW7.trans0 hf8
 have K0':=fun W (h:Fr No w8 W)=>K0 W (q8.trans0 h)
 have KX':=fun W (h:Fr No w8 W)=>KX W (p8.trans0 h)
 go_wp2_with fail
 refine zn0 4 60 [mV (.agg #[.slice Ax p.keepers.length cx]),mV (.agg #[.slice A p.keepers.length cap]),mC (zhw p w8.heap.size) (zhx _ _),mV (.bool true)] (by kernel_rfl) (by kernel_rfl) (by simp) ?_ ?_
 ·refine hc4 ?_ ?_ ?_ ?_ <| hopZ
  all_goals (intro a' W hW hoff hdep;have hbs:=hW.size;have H10:=hoff 10 rfl;have H3:=hoff 3 rfl;refine nE rfl ?_)
  ·exact gx0
  ·exact gx0
  ·have D57:_=_:=hdep 1 57 rfl;simp[Act.eval,D57,go_sem,zaa];exact(HT _ (hfA.trans0 (q8.trans0 hW))).mono fun e w' h=>let ⟨v,h1,h2,h3⟩:=zhy h hbs;⟨v,h1,h2,h3⟩
  ·have D56:_=_:=hdep 0 56 rfl;obtain⟨vkp,D58,hk⟩:(zhw p w8.heap.size) _ W:=hdep 2 58 rfl;simp[Act.eval,D56,D58,go_sem,zaa];exact(zhv _ _ p _ _ W ⟨_,rfl,hxN.keep (R':=KprC No W) (p8.trans0 hW) zN (fun _ _ _ h=>h.keep (p8.trans0 hW) zN)⟩ ⟨_,rfl,hk⟩).mono fun e w' h=>⟨_,h.1,h.2,rfl⟩
 intro vs W9 hW9 hv hne
 obtain⟨vkpR2,e2,hkR2⟩:=hv 2 (by omega)
 simp only[lz6,List.drop_zero,znM,znK,znR,Nat.zero_add,Nat.reduceAdd,e2]
 simp only[Act.put,lz0,lz1,lz2]
 clear e2 hv
 clear hkR2 K0' KX'
 have q9:Fr No wA W9:=q8.trans0 hW9
 have p9:Fr No w6 W9:=p8.trans0 hW9
 have g9:Fr No W7 W9:=hf8.trans0 hW9
 obtain⟨n3,hn3,HM⟩:=zpx W3.heap.size w5.heap.size p _ W9 (hxP.keep p9 zN (fun _ _ _ h=>h.keep p9 zN)) (hun.tw (X:=No) (Tw.of0 p9)) hsz
 obtain⟨x0,_,xl⟩:=KX W9 p9
 clear hxP hun
 go_wp2_with fail
 refine HM.mono ?_
 rintro e w10 ⟨rfl,hT⟩
 have hs6:=hf6.size
 have q10:Fr No wA w10:=q9.trans hT.fr (fun b hb h=>by omega)
 have t10:Fr No W3 w10:=(t6.trans0 p9).trans hT.fr (fun b hb h=>by omega)
 have g10:Fr (fun b=>W3.heap.size≤b∧b<w5.heap.size) W7 w10:=g9.of0.same hT.fr
 have hG10:=hG7.keep (Y':=fun q=>w6.heap.size≤q) g10 (fun b h _ e=>by omega) (fun _ h _=>h)
 clear HM hT KX hxN x0 xl hG7
 go_wp2_with fail
 refine(zpl No No _ _ L1 w10 (hG10.sl (fun _ _ h=>h)) ((hS3.keep (X:=No) (Y':=fun _=>True) t10 (fun _ _ _ h=>h) (fun _ _ _=>trivial)).sl (fun _ _ h=>h))).mono ?_
 rintro e w11 ⟨rfl,hf11⟩
 have q11:Fr No wA w11:=q10.trans0 hf11
 have t11:Fr No W3 w11:=t10.trans0 hf11
 obtain⟨Ag,gg,cg,kvs,rfl,hFL,hRaw,hYq,hYg⟩:=(hG10.up hf11 (Nat.le_refl _)).open_
 clear hG10
 have s6:=t6.size
 have sq6:=q6.size
 have HM:=zo0 _ gg cg kvs L1 1 w11 hFL hRaw (by omega) (by omega)
 have HH:=fun W (a:FrL W Ag gg cg kvs L1) (b:∀i (h1:i<kvs.length) (h2:i<L1.length),MkdF (1+sF L1 i) W kvs[i].1 kvs[i].2 L1[i])=>zo1 _ gg cg kvs L1 1 W a b (by omega) (by omega)
 generalize sumN (L1.map wF)=S at *
 have hS0:¬(1+(S:Int))<0:=by omega
 have hSS:((1+(S:Int)) != (1+(S:Int)))=false:=by simp
 have hcg:=hFL.le
 clear hRaw
 replace HH:=Lib.hid HH
 go_wp2_with fail
 refine HM.mono ?_
 rintro e w12 ⟨rfl,hm⟩
 have q12:Fr No wA w12:=q11.trans hm.fr (fun b hb e=>by have:=hYq b e;omega)
 have t12:Fr No W3 w12:=t11.trans hm.fr (fun b hb e=>by have:=hYq b e;omega)
 have hFL12:=hFL.keep hm.fr (fun h0 e=>(hFL.at_ h0).2.2 e)
 have hMk12:∀i (h1:i<kvs.length) (h2:i<L1.length),MkdF (1+sF L1 i) w12 kvs[i].1 kvs[i].2 L1[i]:=fun i h1 h2=>hm.done i h1 h2 h2
 clear HM hm hFL
 go_wp2_with fail
 refine(HH.out w12 hFL12 hMk12).mono ?_
 rintro e w13 ⟨rfl,hf13⟩
 have q13:Fr No wA w13:=q12.trans0 hf13
 have K0':=fun W (h:Fr No w13 W)=>K0 W (q13.trans0 h)
 have K1':=fun W (h:Fr No w13 W)=>K1 W (q13.trans0 h)
 go_wp2_with fail
 refine zn0 9 97 [mV (.agg #[.slice A p.keepers.length cap]),mC (zhw p w13.heap.size) (zhx _ _),mV (.agg #[.int .i64 rk,.string rn]),mV (.agg #[.int .i64 rk,.string rn]),mV (.int .i64 ix),mC (lkV w13.heap.size (L1,L2)) (zpc _ _),mC (lkV w13.heap.size (L1,L2)) (zpc _ _),mC (fsV w13.heap.size L1) (zpd _ _),mE (mV (.int .i64 L2))] (by kernel_rfl) (by kernel_rfl) (by simp) ?_ ?_
 ·refine hc4 ?_ ?_ ?_ ?_ <| hc4 ?_ ?_ ?_ ?_ <| hopC ?_ <| hopZ
  all_goals (intro a' W hW hoff hdep;have hbs:=hW.size;have H3:=hoff 3 rfl;have H4:=hoff 4 rfl;have H2:=hoff 2 rfl)
  ·exact nE rfl gx0
  ·have D89:_=_:=hdep 0 89 rfl;refine nE rfl ?_;simp[Act.eval,D89,go_sem,zaa];exact(HT _ (hfA.trans0 (q13.trans0 hW))).mono fun e w' h=>let ⟨v,h1,h2,h3⟩:=zhy h hbs;⟨v,h1,h2,h3⟩
  ·exact nE rfl gx0
  ·have D91:_=_:=hdep 2 91 rfl;refine nE rfl ?_;simp[Act.eval,D91,go_sem,zaa];exact(HTR _).mono fun e w' h=>⟨_,h.1,h.2,rfl⟩
  ·refine nE rfl ?_;simp[execOp,Act.eval,H2,go_sem,zaa];exact fr1 rfl
  ·obtain⟨vkp,D90,hk⟩:(zhw p w13.heap.size) _ W:=hdep 1 90 rfl;have D92:_=_:=hdep 3 92 rfl;have D93:_=_:=hdep 4 93 rfl;refine nE rfl ?_;simp[Act.eval,D90,D92,D93,go_sem,zaa];exact(HI _ _ (hk.weaken zN (fun _ _ _ h=>h.weaken zN))).mono fun e w'' h=>(let ⟨h1,u,h2,h3⟩:=h;⟨_,h2,h1,u,rfl,h3.up (Fr.refl No _) hbs⟩)
  ·obtain⟨u7,D94,hF⟩:(lkV w13.heap.size (L1,L2)) _ W:=hdep 5 94 rfl;refine nE rfl ?_;simp[execOp,Act.eval,D94,go_sem,zaa];exact⟨Fr.refl _ _,_,rfl,hF⟩
  ·obtain⟨u7,D88,hF⟩:(lkV w13.heap.size (L1,L2)) _ W:=hdep 6 88 rfl;refine nE rfl ?_;simp[execOp,Act.eval,D88,go_sem,zaa];exact⟨Fr.refl _ _,_,rfl,hF⟩
  ·obtain⟨u7,D88,hF⟩:(lkV w13.heap.size (L1,L2)) _ W:=hdep 6 88 rfl;exact yE rfl ⟨.int .i64 L2,fun W=>by simp[execOp,Act.eval,D88,go_sem],rfl,rfl⟩
 intro vs W14 hW14 hv hne
 obtain⟨vkpR1,e1,hkR1⟩:=hv 1 (by omega)
 obtain⟨u7R5,e5,hFR5⟩:=hv 5 (by omega)
 obtain⟨u7R6,e6,hFR6⟩:=hv 6 (by omega)
 obtain⟨u7R7,e7,hFR7⟩:=hv 7 (by omega)
 simp only[lz6,List.drop_zero,znM,znL,znK,znR,Nat.zero_add,Nat.reduceAdd,e1,e5,e6,e7]
 simp only[Act.put,lz0,lz1,lz2]
 clear e1 e5 e6 e7 hv
 clear hkR1 K0' K1' hFR5 hFR6
 have t14:Fr No W3 W14:=(t12.trans0 hf13).trans0 hW14
 go_wp2_with fail
 refine(zpl No No _ _ L1 W14 (hFR7.sl (fun _ _ h=>h)) ((hS3.keep (X:=No) (Y':=fun _=>True) t14 (fun _ _ _ h=>h) (fun _ _ _=>trivial)).sl (fun _ _ h=>h))).mono ?_
 rintro e w15 ⟨rfl,hf15⟩
 have g15:Fr No w12 w15:=(hf13.trans0 hW14).trans0 hf15
 have HH2:=HH.out w15 (hFL12.keep g15 (fun _ h=>h)) (fun i h1 h2=>(hMk12 i h1 h2).keep g15 (fun _ _ h=>h))
 clear HH hFR7 hS3
 go_wp2_with fail
 refine HH2.mono ?_
 rintro e w16 ⟨rfl,hf16⟩
 have q16:Fr No w w16:=hfA.trans0 ((q12.trans0 g15).trans0 hf16)
 clear HH2
 go_wp2
 go_ret
 exact .mk rfl q16
theorem ziE {α:Type}:∀(n:Nat) (p:Nat->α->Prop),(∀i,i<n->∃a,p i a)->∃l:List α,l.length=n∧∀i (hi:i<l.length),p i l[i]
 | 0,_,_=>⟨[],rfl,fun i hi=>absurd hi (by simp)⟩
 | n+1,p,h=>by
  obtain⟨a,ha⟩:=h 0 (by omega)
  obtain⟨l,hl,hp⟩:=ziE n (fun i=>p (i+1)) (fun i hi=>h (i+1) (by omega))
  refine⟨a :: l,by simp[hl],fun i hi=>?_⟩
  cases i with
  | zero=>exact ha
  | succ j=>exact hp j (by simpa using hi)
theorem lst1 {l:List Value} (h:l.length=1):∃a,l=[a]:=by
 match l,h with
 | [a],_=>exact⟨a,rfl⟩
theorem lst2 {l:List Value} (h:l.length=2):∃a b,l=[a,b]:=by
 match l,h with
 | [a,b],_=>exact⟨a,b,rfl⟩
theorem lst3 {l:List Value} (h:l.length=3):∃a b c,l=[a,b,c]:=by
 match l,h with
 | [a,b,c],_=>exact⟨a,b,c,rfl⟩
theorem lst4 {l:List Value} (h:l.length=4):∃a b c d,l=[a,b,c,d]:=by
 match l,h with
 | [a,b,c,d],_=>exact⟨a,b,c,d,rfl⟩
theorem lst8 {l:List Value} (h:l.length=8):∃a b c d e f g i,l=[a,b,c,d,e,f,g,i]:=by
 match l,h with
 | [a,b,c,d,e,f,g,i],_=>exact⟨a,b,c,d,e,f,g,i,rfl⟩
theorem ziF {α:Type} {R:List Value->α->Prop} {H:Type} {enc:TypeId×Value->H} {P:Program} {W:World} {sp:Nat->Bool} {held:Bool} {t e:TypeId} {sz:Nat} {v:Value} {fuel:Nat} {x:DataW H×List MemPlace}
  (ht:P.underlying t=some (.slice e)) (hc:P.cellsOf e=sz) (hpos:0<sz) (hR:∀fuel cs (y:DataW H×List MemPlace),DataW.trod enc P W 0 sp held fuel e cs=some y->∃a,R cs a)
  (h:DataW.trod enc P W 0 sp held fuel t [v]=some x):∃xs:List α,Sl No W sz R v xs:=by
 rcases DataW.trod_slice ht h with ⟨hv,_⟩ | ⟨a,len,cap,elems,rest,n,_,hv,_,_,hlc,hcm,hel,he,_,_⟩
 ·obtain rfl:=(List.cons.inj hv).1
  exact⟨[],Sl.nil _ _ _ _⟩
 ·obtain rfl:=(List.cons.inj hv).1
  rw[hc] at he
  obtain⟨xs,hxl,hxs⟩:=ziE (α:=α) len (fun i y=>∃cs,R cs y∧cs.length=sz∧∀j,j<sz->W.cell? ((a.add (i * sz)).add j)=cs[j]?) (fun i hi=>by
   have h1:=he i hi
   rw[lz8 (show i<elems.length by omega),Option.bind_eq_some_iff] at h1
   obtain⟨cs,h2,h3⟩:=h1
   obtain⟨y,hy⟩:=hR _ _ _ h3
   obtain⟨_,h4,h5⟩:=World.cells?_some h2
   exact⟨y,cs,hy,h4,h5⟩)
  refine⟨xs,some a,cap,by rw[hxl],by omega,by omega,fun h0=>?_⟩
  have hspot:a.spot=none:=by
   obtain⟨cs,_,hl,hcell⟩:=hxs 0 h0
   have h1:=hcell 0 hpos
   rw[lz8 (show 0<cs.length by omega)] at h1
   have h2:W.cell? a=some cs[0]:=by
    have e:(a.add (0 * sz)).add 0=a:=by simp[Addr.add]
    rwa [e] at h1
   unfold World.cell? at h2
   split at h2
   ·cases hs:a.spot
    ·rfl
    ·rw[hs] at h2;simp at h2
   ·cases h2
  obtain⟨b,off,spot⟩:=a
  dsimp only at hspot
  subst hspot
  refine⟨b,off,rfl,fun h=>h.elim,fun k hk=>?_⟩
  obtain⟨cs,hRc,hl,hcell⟩:=hxs k hk
  refine⟨cs,hRc,hl,fun j hj=>?_⟩
  rw[<-hcell j hj]
  congr 1
  unfold Addr.add
  split<;>split<;>simp_all [Nat.add_assoc]
section
variable {H:Type} {enc:TypeId×Value->H} {W:World} {sp:Nat->Bool} {held:Bool}
theorem zpP {ty:TypeId} {m n Q i:Nat} {all cs:List Value} {xs:List (DataW H×List MemPlace)} (hc:Tryz.prog.cellsOf ty=n) (hx:i<xs.length) (h:DataW.trod enc Tryz.prog W 0 sp held m ty ((all.drop Q).take (Tryz.prog.cellsOf ty))=xs[i]?) (e:(all.drop Q).take n=cs):∃y,DataW.trod enc Tryz.prog W 0 sp held m ty cs=some y:=
 ⟨xs[i],by rw[<-e,<-hc,h,lz8 hx]⟩
theorem ziG {fuel:Nat} {cs:List Value} {x:DataW H×List MemPlace} (h:DataW.trod enc Tryz.prog W 0 sp held fuel 248 cs=some x):∃k:Knd,KndC cs k:=by
 obtain⟨xs,m,rfl,rfl,hl,hxl,hi⟩:=DataW.trod_struct Tryz.underlying248 h
 obtain⟨c0,c1,rfl⟩:=lst2 (hl.trans (show Tryz.prog.cellsOf 248=2 by kernel_rfl))
 clear hl h
 obtain⟨y0,h0⟩:=zpP (Q:=0) (n:=1) (cs:=[c0]) (show Tryz.prog.cellsOf 3=1 by kernel_rfl) (by rw[hxl];decide) (hi 0 _ rfl) rfl
 obtain⟨y1,h1⟩:=zpP (Q:=1) (n:=1) (cs:=[c1]) (show Tryz.prog.cellsOf 9=1 by kernel_rfl) (by rw[hxl];decide) (hi 1 _ rfl) rfl
 obtain⟨a0,e0,_,_⟩:=DataW.trod_int Tryz.underlying3 h0
 obtain rfl:=(List.cons.inj e0).1
 obtain⟨a1,e1,_,z1⟩:=DataW.trod_string Tryz.underlying9 h1
 obtain rfl:=(List.cons.inj e1).1
 exact⟨⟨a0,a1⟩,rfl,z1⟩
theorem ziH {fuel:Nat} {cs:List Value} {x:DataW H×List MemPlace} (h:DataW.trod enc Tryz.prog W 0 sp held fuel 291 cs=some x):∃k:Ins,InsC cs k:=by
 obtain⟨xs,m,rfl,rfl,hl,hxl,hi⟩:=DataW.trod_struct Tryz.underlying291 h
 obtain⟨c0,c1,c2,c3,rfl⟩:=lst4 (hl.trans (show Tryz.prog.cellsOf 291=4 by kernel_rfl))
 clear hl h
 obtain⟨y0,h0⟩:=zpP (Q:=0) (n:=1) (cs:=[c0]) (show Tryz.prog.cellsOf 3=1 by kernel_rfl) (by rw[hxl];decide) (hi 0 _ rfl) rfl
 obtain⟨y1,h1⟩:=zpP (Q:=1) (n:=1) (cs:=[c1]) (show Tryz.prog.cellsOf 3=1 by kernel_rfl) (by rw[hxl];decide) (hi 1 _ rfl) rfl
 obtain⟨y2,h2⟩:=zpP (Q:=2) (n:=1) (cs:=[c2]) (show Tryz.prog.cellsOf 9=1 by kernel_rfl) (by rw[hxl];decide) (hi 2 _ rfl) rfl
 obtain⟨y3,h3⟩:=zpP (Q:=3) (n:=1) (cs:=[c3]) (show Tryz.prog.cellsOf 9=1 by kernel_rfl) (by rw[hxl];decide) (hi 3 _ rfl) rfl
 obtain⟨a0,e0,_,_⟩:=DataW.trod_int Tryz.underlying3 h0
 obtain rfl:=(List.cons.inj e0).1
 obtain⟨a1,e1,_,_⟩:=DataW.trod_int Tryz.underlying3 h1
 obtain rfl:=(List.cons.inj e1).1
 obtain⟨a2,e2,_,z2⟩:=DataW.trod_string Tryz.underlying9 h2
 obtain rfl:=(List.cons.inj e2).1
 obtain⟨a3,e3,_,z3⟩:=DataW.trod_string Tryz.underlying9 h3
 obtain rfl:=(List.cons.inj e3).1
 exact⟨⟨a0,a1,a2,a3⟩,rfl,z2,z3⟩
theorem ziI {fuel:Nat} {cs:List Value} {x:DataW H×List MemPlace} (h:DataW.trod enc Tryz.prog W 0 sp held fuel 315 cs=some x):∃k:Tag,TagC cs k:=by
 obtain⟨xs,m,rfl,rfl,hl,hxl,hi⟩:=DataW.trod_struct Tryz.underlying315 h
 obtain⟨c0,c1,rfl⟩:=lst2 (hl.trans (show Tryz.prog.cellsOf 315=2 by kernel_rfl))
 clear hl h
 obtain⟨y0,h0⟩:=zpP (Q:=0) (n:=1) (cs:=[c0]) (show Tryz.prog.cellsOf 3=1 by kernel_rfl) (by rw[hxl];decide) (hi 0 _ rfl) rfl
 obtain⟨y1,h1⟩:=zpP (Q:=1) (n:=1) (cs:=[c1]) (show Tryz.prog.cellsOf 9=1 by kernel_rfl) (by rw[hxl];decide) (hi 1 _ rfl) rfl
 obtain⟨a0,e0,_,_⟩:=DataW.trod_int Tryz.underlying3 h0
 obtain rfl:=(List.cons.inj e0).1
 obtain⟨a1,e1,_,z1⟩:=DataW.trod_string Tryz.underlying9 h1
 obtain rfl:=(List.cons.inj e1).1
 exact⟨⟨a0,a1⟩,rfl,z1⟩
theorem ziJ {fuel:Nat} {cs:List Value} {x:DataW H×List MemPlace} (h:DataW.trod enc Tryz.prog W 0 sp held fuel 250 cs=some x):∃k:Fld,FldC cs k:=by
 obtain⟨xs,m,rfl,rfl,hl,hxl,hi⟩:=DataW.trod_struct Tryz.underlying250 h
 obtain⟨c0,c1,c2,rfl⟩:=lst3 (hl.trans (show Tryz.prog.cellsOf 250=3 by kernel_rfl))
 clear hl h
 obtain⟨y0,h0⟩:=zpP (Q:=0) (n:=1) (cs:=[c0]) (show Tryz.prog.cellsOf 9=1 by kernel_rfl) (by rw[hxl];decide) (hi 0 _ rfl) rfl
 obtain⟨y1,h1⟩:=zpP (Q:=1) (n:=2) (cs:=[c1,c2]) (show Tryz.prog.cellsOf 248=2 by kernel_rfl) (by rw[hxl];decide) (hi 1 _ rfl) rfl
 obtain⟨a0,e0,_,z0⟩:=DataW.trod_string Tryz.underlying9 h0
 obtain rfl:=(List.cons.inj e0).1
 obtain⟨a1,hk1⟩:=ziG h1
 obtain⟨e1,z1_0⟩:=hk1
 simp only[List.cons.injEq,and_true] at e1
 obtain⟨rfl,rfl⟩:=e1
 exact⟨⟨a0,a1⟩,rfl,z0,z1_0⟩
theorem ziK {fuel:Nat} {cs:List Value} {x:DataW H×List MemPlace} (h:DataW.trod enc Tryz.prog W 0 sp held fuel 295 cs=some x):∃k:Mp,MapC No W cs k:=by
 obtain⟨xs,m,rfl,rfl,hl,hxl,hi⟩:=DataW.trod_struct Tryz.underlying295 h
 obtain⟨c0,c1,c2,rfl⟩:=lst3 (hl.trans (show Tryz.prog.cellsOf 295=3 by kernel_rfl))
 clear hl h
 obtain⟨y0,h0⟩:=zpP (Q:=0) (n:=1) (cs:=[c0]) (show Tryz.prog.cellsOf 3=1 by kernel_rfl) (by rw[hxl];decide) (hi 0 _ rfl) rfl
 obtain⟨y1,h1⟩:=zpP (Q:=1) (n:=1) (cs:=[c1]) (show Tryz.prog.cellsOf 293=1 by kernel_rfl) (by rw[hxl];decide) (hi 1 _ rfl) rfl
 obtain⟨y2,h2⟩:=zpP (Q:=2) (n:=1) (cs:=[c2]) (show Tryz.prog.cellsOf 293=1 by kernel_rfl) (by rw[hxl];decide) (hi 2 _ rfl) rfl
 obtain⟨a0,e0,_,_⟩:=DataW.trod_int Tryz.underlying3 h0
 obtain rfl:=(List.cons.inj e0).1
 obtain⟨a1,s1⟩:=ziF (R:=TagC) Tryz.underlying293 (show Tryz.prog.cellsOf 315=2 by kernel_rfl) (by decide) (fun _ _ _ h=>ziI h) h1
 obtain⟨a2,s2⟩:=ziF (R:=TagC) Tryz.underlying293 (show Tryz.prog.cellsOf 315=2 by kernel_rfl) (by decide) (fun _ _ _ h=>ziI h) h2
 exact⟨⟨a0,a1,a2⟩,_,_,rfl,s1,s2⟩
theorem ziL {fuel:Nat} {cs:List Value} {x:DataW H×List MemPlace} (h:DataW.trod enc Tryz.prog W 0 sp held fuel 256 cs=some x):∃k:Mth,MthC No W cs k:=by
 obtain⟨xs,m,rfl,rfl,hl,hxl,hi⟩:=DataW.trod_struct Tryz.underlying256 h
 obtain⟨c0,c1,c2,c3,c4,c5,c6,c7,rfl⟩:=lst8 (hl.trans (show Tryz.prog.cellsOf 256=8 by kernel_rfl))
 clear hl h
 obtain⟨y0,h0⟩:=zpP (Q:=0) (n:=1) (cs:=[c0]) (show Tryz.prog.cellsOf 9=1 by kernel_rfl) (by rw[hxl];decide) (hi 0 _ rfl) rfl
 obtain⟨y1,h1⟩:=zpP (Q:=1) (n:=1) (cs:=[c1]) (show Tryz.prog.cellsOf 252=1 by kernel_rfl) (by rw[hxl];decide) (hi 1 _ rfl) rfl
 obtain⟨y2,h2⟩:=zpP (Q:=2) (n:=2) (cs:=[c2,c3]) (show Tryz.prog.cellsOf 248=2 by kernel_rfl) (by rw[hxl];decide) (hi 2 _ rfl) rfl
 obtain⟨y3,h3⟩:=zpP (Q:=4) (n:=1) (cs:=[c4]) (show Tryz.prog.cellsOf 3=1 by kernel_rfl) (by rw[hxl];decide) (hi 3 _ rfl) rfl
 obtain⟨y4,h4⟩:=zpP (Q:=5) (n:=1) (cs:=[c5]) (show Tryz.prog.cellsOf 3=1 by kernel_rfl) (by rw[hxl];decide) (hi 4 _ rfl) rfl
 obtain⟨y5,h5⟩:=zpP (Q:=6) (n:=1) (cs:=[c6]) (show Tryz.prog.cellsOf 253=1 by kernel_rfl) (by rw[hxl];decide) (hi 5 _ rfl) rfl
 obtain⟨y6,h6⟩:=zpP (Q:=7) (n:=1) (cs:=[c7]) (show Tryz.prog.cellsOf 254=1 by kernel_rfl) (by rw[hxl];decide) (hi 6 _ rfl) rfl
 obtain⟨a0,e0,_,z0⟩:=DataW.trod_string Tryz.underlying9 h0
 obtain rfl:=(List.cons.inj e0).1
 obtain⟨a1,s1⟩:=ziF (R:=KndC) Tryz.underlying252 (show Tryz.prog.cellsOf 248=2 by kernel_rfl) (by decide) (fun _ _ _ h=>ziG h) h1
 obtain⟨a2,hk2⟩:=ziG h2
 obtain⟨e2,z2_0⟩:=hk2
 simp only[List.cons.injEq,and_true] at e2
 obtain⟨rfl,rfl⟩:=e2
 obtain⟨a3,e3,_,_⟩:=DataW.trod_int Tryz.underlying3 h3
 obtain rfl:=(List.cons.inj e3).1
 obtain⟨a4,e4,_,_⟩:=DataW.trod_int Tryz.underlying3 h4
 obtain rfl:=(List.cons.inj e4).1
 obtain⟨a5,s5⟩:=ziF (R:=InsC) Tryz.underlying253 (show Tryz.prog.cellsOf 291=4 by kernel_rfl) (by decide) (fun _ _ _ h=>ziH h) h5
 obtain⟨a6,s6⟩:=ziF (R:=MapC No W) Tryz.underlying254 (show Tryz.prog.cellsOf 295=3 by kernel_rfl) (by decide) (fun _ _ _ h=>ziK h) h6
 exact⟨⟨a0,a1,a2,a3,a4,a5,a6⟩,_,_,_,rfl,z0,z2_0,s1,s5,s6⟩
theorem ziM {fuel:Nat} {cs:List Value} {x:DataW H×List MemPlace} (h:DataW.trod enc Tryz.prog W 0 sp held fuel 162 cs=some x):∃k:Cls,ClsC No W cs k:=by
 obtain⟨xs,m,rfl,rfl,hl,hxl,hi⟩:=DataW.trod_struct Tryz.underlying162 h
 obtain⟨c0,c1,c2,c3,rfl⟩:=lst4 (hl.trans (show Tryz.prog.cellsOf 162=4 by kernel_rfl))
 clear hl h
 obtain⟨y0,h0⟩:=zpP (Q:=0) (n:=1) (cs:=[c0]) (show Tryz.prog.cellsOf 9=1 by kernel_rfl) (by rw[hxl];decide) (hi 0 _ rfl) rfl
 obtain⟨y1,h1⟩:=zpP (Q:=1) (n:=1) (cs:=[c1]) (show Tryz.prog.cellsOf 9=1 by kernel_rfl) (by rw[hxl];decide) (hi 1 _ rfl) rfl
 obtain⟨y2,h2⟩:=zpP (Q:=2) (n:=1) (cs:=[c2]) (show Tryz.prog.cellsOf 159=1 by kernel_rfl) (by rw[hxl];decide) (hi 2 _ rfl) rfl
 obtain⟨y3,h3⟩:=zpP (Q:=3) (n:=1) (cs:=[c3]) (show Tryz.prog.cellsOf 160=1 by kernel_rfl) (by rw[hxl];decide) (hi 3 _ rfl) rfl
 obtain⟨a0,e0,_,z0⟩:=DataW.trod_string Tryz.underlying9 h0
 obtain rfl:=(List.cons.inj e0).1
 obtain⟨a1,e1,_,z1⟩:=DataW.trod_string Tryz.underlying9 h1
 obtain rfl:=(List.cons.inj e1).1
 obtain⟨a2,s2⟩:=ziF (R:=FldC) Tryz.underlying159 (show Tryz.prog.cellsOf 250=3 by kernel_rfl) (by decide) (fun _ _ _ h=>ziJ h) h2
 obtain⟨a3,s3⟩:=ziF (R:=MthC No W) Tryz.underlying160 (show Tryz.prog.cellsOf 256=8 by kernel_rfl) (by decide) (fun _ _ _ h=>ziL h) h3
 exact⟨⟨a0,a1,a2,a3⟩,_,_,rfl,z0,z1,s2,s3⟩
theorem ziN {fuel:Nat} {cs:List Value} {x:DataW H×List MemPlace} (h:DataW.trod enc Tryz.prog W 0 sp held fuel 164 cs=some x):∃k:Ask,AskC cs k:=by
 obtain⟨xs,m,rfl,rfl,hl,hxl,hi⟩:=DataW.trod_struct Tryz.underlying164 h
 obtain⟨c0,c1,rfl⟩:=lst2 (hl.trans (show Tryz.prog.cellsOf 164=2 by kernel_rfl))
 clear hl h
 obtain⟨y0,h0⟩:=zpP (Q:=0) (n:=1) (cs:=[c0]) (show Tryz.prog.cellsOf 9=1 by kernel_rfl) (by rw[hxl];decide) (hi 0 _ rfl) rfl
 obtain⟨y1,h1⟩:=zpP (Q:=1) (n:=1) (cs:=[c1]) (show Tryz.prog.cellsOf 3=1 by kernel_rfl) (by rw[hxl];decide) (hi 1 _ rfl) rfl
 obtain⟨a0,e0,_,z0⟩:=DataW.trod_string Tryz.underlying9 h0
 obtain rfl:=(List.cons.inj e0).1
 obtain⟨a1,e1,_,_⟩:=DataW.trod_int Tryz.underlying3 h1
 obtain rfl:=(List.cons.inj e1).1
 exact⟨⟨a0,a1⟩,rfl,z0⟩
theorem ziO {fuel:Nat} {cs:List Value} {x:DataW H×List MemPlace} (h:DataW.trod enc Tryz.prog W 0 sp held fuel 84 cs=some x):∃k:Kpr,KprC No W cs k:=by
 obtain⟨xs,m,rfl,rfl,hl,hxl,hi⟩:=DataW.trod_struct Tryz.underlying84 h
 obtain⟨c0,c1,rfl⟩:=lst2 (hl.trans (show Tryz.prog.cellsOf 84=2 by kernel_rfl))
 clear hl h
 obtain⟨y0,h0⟩:=zpP (Q:=0) (n:=1) (cs:=[c0]) (show Tryz.prog.cellsOf 81=1 by kernel_rfl) (by rw[hxl];decide) (hi 0 _ rfl) rfl
 obtain⟨y1,h1⟩:=zpP (Q:=1) (n:=1) (cs:=[c1]) (show Tryz.prog.cellsOf 82=1 by kernel_rfl) (by rw[hxl];decide) (hi 1 _ rfl) rfl
 obtain⟨a0,s0⟩:=ziF (R:=ClsC No W) Tryz.underlying81 (show Tryz.prog.cellsOf 162=4 by kernel_rfl) (by decide) (fun _ _ _ h=>ziM h) h0
 obtain⟨a1,s1⟩:=ziF (R:=AskC) Tryz.underlying82 (show Tryz.prog.cellsOf 164=2 by kernel_rfl) (by decide) (fun _ _ _ h=>ziN h) h1
 exact⟨⟨a0,a1⟩,_,_,rfl,s0,s1⟩
theorem ziP {fuel:Nat} {cs:List Value} {x:DataW H×List MemPlace} (h:DataW.trod enc Tryz.prog W 0 sp held fuel 24 cs=some x):∃k:Plan,zf9 No W cs k:=by
 obtain⟨xs,m,rfl,rfl,hl,hxl,hi⟩:=DataW.trod_struct Tryz.underlying24 h
 obtain⟨c0,rfl⟩:=lst1 (hl.trans (show Tryz.prog.cellsOf 24=1 by kernel_rfl))
 clear hl h
 obtain⟨y0,h0⟩:=zpP (Q:=0) (n:=1) (cs:=[c0]) (show Tryz.prog.cellsOf 22=1 by kernel_rfl) (by rw[hxl];decide) (hi 0 _ rfl) rfl
 obtain⟨a0,s0⟩:=ziF (R:=KprC No W) Tryz.underlying22 (show Tryz.prog.cellsOf 84=2 by kernel_rfl) (by decide) (fun _ _ _ h=>ziO h) h0
 exact⟨⟨a0⟩,_,rfl,s0⟩
end
section
variable {H:Type} {enc:TypeId×Value->H} {W:World} {sp:Nat->Bool} {held:Bool}
theorem ziQ {fuel:Nat} {cs:List Value} {x:DataW H×List MemPlace} (h:DataW.trod enc Tryz.prog W 0 sp held fuel 26 cs=some x):∃k:Ref,RefC cs k∧(Lit.int .i64 k.keeper).wf=true:=by
 obtain⟨xs,m,rfl,rfl,hl,hxl,hi⟩:=DataW.trod_struct Tryz.underlying26 h
 obtain⟨c0,c1,rfl⟩:=lst2 (hl.trans (show Tryz.prog.cellsOf 26=2 by kernel_rfl))
 clear hl h
 obtain⟨y0,h0⟩:=zpP (Q:=0) (n:=1) (cs:=[c0]) (show Tryz.prog.cellsOf 3=1 by kernel_rfl) (by rw[hxl];decide) (hi 0 _ rfl) rfl
 obtain⟨y1,h1⟩:=zpP (Q:=1) (n:=1) (cs:=[c1]) (show Tryz.prog.cellsOf 9=1 by kernel_rfl) (by rw[hxl];decide) (hi 1 _ rfl) rfl
 obtain⟨a0,e0,_,wf0⟩:=DataW.trod_int Tryz.underlying3 h0
 obtain rfl:=(List.cons.inj e0).1
 obtain⟨a1,e1,_,z1⟩:=DataW.trod_string Tryz.underlying9 h1
 obtain rfl:=(List.cons.inj e1).1
 exact⟨⟨a0,a1⟩,⟨rfl,z1⟩,wf0⟩
end
theorem own:ownKnob Tryz.prog.godebug=none:=by kernel_rfl
theorem laidOut:laidOutB Tryz.prog=true:=by kernel_rfl
section
variable {H:Type} {enc:TypeId×Value->H} {P:Program}
theorem zgp {f:Func} {s:ChangeSpec} {apart fresh handsOn again:Bool} {W W':World} {args:Array Value} {v:Value} {ds gs:List (DataW H)} {before pa pv:List MemPlace}
  (hW:DataW.Whole enc P f.params.toList s.vars apart W args.toList ds gs before)
  (hres:∀(b:Nat) (sp:Nat->Bool) (hd:Bool),DataW.TrodAll enc P W' b sp hd f.resultTypes.toList (v.resultList f.resultTypes.size) (s.fn H (ds ++ gs)).results [])
  (hargs:∀sp:Nat->Bool,(∀p∈before,sp p.block=true)->DataW.TrodAll enc P W' 0 sp true f.params.toList args.toList (s.fn H (ds ++ gs)).args pa)
  (hvars:∀sp:Nat->Bool,(∀p∈before,sp p.block=true)->DataW.TrodVars enc P W' sp s.vars (s.fn H (ds ++ gs)).vars pv)
  (hps:before=pa ++ pv) (hb:Below W.heap.size W W')
  (hok:∀(j:Nat) (t:TypeId) (r:Value),f.resultTypes[j]? =some t->(v.resultList f.resultTypes.size)[j]? =some r->Value.okWide P W' .any 0 t r):
  s.post enc P f apart fresh handsOn again W args v W':=by
 have hlt:∀p∈before,p.block<W.heap.size:=fun p hp=>hW.lt p hp
 have hold:∀p∈before,(fun b=>decide (b<W.heap.size)) p.block=true:=fun p hp=>by simpa using hlt p hp
 refine⟨ds,gs,before,[],pa,pv,hW,hres _ _ _,hargs _ hold,hvars _ hold,World.keptBut_mono (fun p hp=>⟨hp,?_⟩) (hb.frame (·∈before)),fun _=>?_⟩
 ·rw[hps,List.mem_append] at hp
  exact Or.inr hp
 ·obtain⟨_,_,_,_,_,hz,hn⟩:=hW
  refine⟨hok,_,_,([] ++ pa) ++ pv,⟨[] ++ pa,pv,trodAll_append (hargs _ (fun _ _=>rfl)) (hres _ _ _),hvars _ (fun _ _=>rfl),rfl,?_,?_⟩,?_⟩
  ·intro b off hp
   have hin:MemPlace.cell b off∈before:=by rw[hps];simpa using hp
   rw[hb.frozen (hlt _ hin)]
   exact hz b off hin
  ·intro ha
   have:=hn ha
   rw[hps] at this
   simpa using this
  ·intro p hp _
   rw[hps]
   simpa using hp
end
theorem lifted (os:Os) (started:os.Started) (H:Type) (enc:TypeId×Value->H):
  ReturnsInHanded {} Tryz.checked os 5 .any (Rows.fnExactLookMethodSpec.pre6 enc Tryz.prog Tryz.f5 [] false)
   (Rows.fnExactLookMethodSpec.post enc Tryz.prog Tryz.f5 false true false false):=by
 refine returnsInHanded_of_change (C:=Tryz.checked) own started (by kernel_rfl) Tryz.func5
  (ChangeSpec.witness6 (enc:=enc) (C:=Tryz.checked) (os:=os) false ⟨#[],#[.agg #[.slice none 0 0],.agg #[.int .i64 0,.string ⟨#[]⟩],.int .i64 0],[]⟩ 8 (by kernel_rfl) (by kernel_rfl) (by kernel_rfl) (by kernel_rfl)) ?_
 intro W base args ds gs before hval0 hW _ _
 have hval:∀(j:Nat) t v,Tryz.f5.params[j]? =some t->args[j]? =some v->Value.okWide Tryz.prog W .any base t v:=hval0
 have hW':=hW
 obtain⟨p,q,hA0,hV,rfl,hfz,hnd⟩:=hW
 have hA:DataW.TrodAll enc Tryz.prog W 0 (fun _=>true) true Tryz.f5.params.toList args.toList ds p:=hA0
 rw[Tryz.params5] at hA hval
 obtain⟨v0,v1,v2,d0,d1,d2,p0,p1,p2,rfl,rfl,rfl,h0,h1,h2⟩:=trodAll_three hA
 obtain⟨rfl,rfl⟩:=trodVars_none hV
 obtain⟨arr0,rfl,_⟩:=okWide_struct Tryz.underlying24 (hval 0 _ v0 rfl rfl)
 obtain⟨arr1,rfl,_⟩:=okWide_struct Tryz.underlying26 (hval 1 _ v1 rfl rfl)
 have g0:=h0
 have g1:=h1
 have g2:=h2
 obtain⟨fuel0,hf0⟩:=h0
 obtain⟨fuel1,hf1⟩:=h1
 obtain⟨c,hc⟩:=ziP hf0
 obtain⟨r,hr,wr⟩:=ziQ hf1
 obtain⟨hr1,hr2⟩:=hr
 have h8:arr1.toList=[.int .i64 r.keeper,.string r.name]:=hr1
 obtain rfl:arr1=#[.int .i64 r.keeper,.string r.name]:=by rw[<-Array.toArray_toList (xs:=arr1),h8]
 obtain⟨ix,rfl⟩:=okWide_int Tryz.underlying3 (hval 2 _ v2 rfl rfl)
 clear hA0 hval0
 have hlt:∀x∈p0 ++ p1 ++ p2 ++ [],x.block<W.heap.size:=fun x hx=>hW'.lt x hx
 refine(zpy c r ix arr0.toList W hc hr2 wr).mono fun e W' ⟨he,hw⟩=>?_
 subst he
 exact⟨_,rfl,zgp (pa:=p0 ++ (p1 ++ p2)) (pv:=[]) hW' (fun _ _ _=>trodAll_mk1 (shut_bool Tryz.underlying4 true))
  (fun sp hsp=>trodAll_mk3
   (WideElems.Trod_stays laidOut (by kernel_rfl) (of_decide_eq_true (by kernel_rfl)) g0 (fun x hx=>hw.below.same (hlt x (by simp[hx]))) (fun x hx=>hsp x (by simp[hx])))
   (WideElems.Trod_stays laidOut (by kernel_rfl) (of_decide_eq_true (by kernel_rfl)) g1 (fun x hx=>hw.below.same (hlt x (by simp[hx]))) (fun x hx=>hsp x (by simp[hx])))
   (WideElems.Trod_stays laidOut (by kernel_rfl) (of_decide_eq_true (by kernel_rfl)) g2 (fun x hx=>hw.below.same (hlt x (by simp[hx]))) (fun x hx=>hsp x (by simp[hx]))))
  (fun _ _=>rfl) (by simp) hw.below (ok_one (by kernel_rfl) rfl (okWide_bool_mk Tryz.underlying4 true))⟩
theorem closed:joinedFacts Tryz.pinned.checked.prog 5 Tryz.f5 Rows.fnExactLookMethodSpec Rows.fnExactLookMethodRow=true:=by
 unfold joinedFacts
 refine zlX (zlX (zlX (zlX (zlX (zlX (zlX (zlX (zlX (zlX (zlX (zlX (zlX (zlX (zlX (zlX (zlX (zlX (zlX (zlX (zlX (zlX (zlX (zlX (zlX (zlX (zlX (zlX (zlX (zlX (zlX ?_ zl2) zl3) ?_) ?_) ?_) ?_) ?_) ?_) zl7) zl6) zl5) zl4) ?_) ?_) ?_) ?_) ?_) ?_) ?_) ?_) ?_) ?_) ?_) zl1) zlY) zlZ) zl0) ?_) ?_) ?_) ?_
 all_goals kernel_rfl
theorem exactLookMethod_holds:Rows.FnExactLookMethodSaid:=
 OpenClaim.holds_of_wide 5 Tryz.f5 rfl rfl rfl rfl rfl rfl rfl ⟨rfl,rfl,rfl,rfl,rfl⟩ rfl rfl rfl rfl rfl (by kernel_rfl) Tryz.func5 closed
  (of_decide_eq_true (by kernel_rfl)) (by unfold Func.isWrapper;first|(rw[if_pos (by decide +kernel)];kernel_rfl)|(rw[if_neg (by decide +kernel)];exact⟨rfl,rfl⟩))
  (fun os started H enc _=>lifted os started H enc)
#print axioms exactLookMethod_holds
end Go.Proofs.YthembcdcdnffeaaGreat
