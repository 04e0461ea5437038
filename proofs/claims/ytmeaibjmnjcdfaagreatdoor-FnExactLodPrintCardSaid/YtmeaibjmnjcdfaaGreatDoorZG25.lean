/- A method's text, as the reference writes it. -/
import Derived.Test.YtmeaibjmnjcdfaaGreatDoorZG24
set_option maxHeartbeats 8000000
set_option maxRecDepth 100000
namespace Go.Proofs.YtmeaibjmnjcdfaaGreatDoor
open Go.RowKit
def zy8 (m:Mth):Prop:=0≤m.locals∧0≤m.stack∧∀x∈m.maps,0≤x.at_
theorem zy9 {m:Mth} (h:mthB m=true):zy8 m:=by
 unfold mthB at h
 simp only[lz5,decide_eq_true_eq] at h
 obtain⟨⟨⟨⟨⟨⟨⟨⟨⟨_,_⟩,_⟩,_⟩,h5⟩,_⟩,h7⟩,_⟩,_⟩,h10⟩:=h
 unfold zf4 at h10
 simp only[lz5,decide_eq_true_eq] at h10
 refine⟨by omega,by omega,fun x hx=>?_⟩
 obtain⟨a,_⟩:=zyW _ _ h10.2 x hx
 omega
theorem zza (X:Nat->Prop) (m:Mth) (cs:List Value) (w:World) (hc:MthC X w cs m) (hsm:zyu m) (hnn:zy8 m):
  Calls Tryz.prog 54 #[.agg cs.toArray] w (zyv No (mthT m) w):=by
 have hl0:=zyw hsm
 obtain⟨hs1,hs2,hs3,hs4,hs5,hs6,hs7,hs8,hs9⟩:=hsm
 obtain⟨hn1,hn2,hn3⟩:=hnn
 obtain⟨va,vc,vm,rfl,hz1,hz2,hva,hvc,hvm⟩:=hc
 obtain⟨Aa,ca,rfl,pva,qva⟩:=hva.form
 obtain⟨Ac,cc,rfl,pvc,qvc⟩:=hvc.form
 obtain⟨Am,cm,rfl,pvm,qvm⟩:=hvm.form
 obtain⟨wA,hwA⟩:∃wA,wA=w.alloc (.cells #[.string m.name,.slice Aa m.args.length ca,.int .i64 m.ret.kind,.string m.ret.name,.int .i64 m.locals,.int .i64 m.stack,.slice Ac m.code.length cc,.slice Am m.maps.length cm] 100):=⟨_,rfl⟩
 have hfA:Fr No w wA:=hwA▸frc
 have B1:Bx wA w.heap.size 100 #[.string m.name,.slice Aa m.args.length ca,.int .i64 m.ret.kind,.string m.ret.name,.int .i64 m.locals,.int .i64 m.stack,.slice Ac m.code.length cc,.slice Am m.maps.length cm]:=hwA▸bxc
 have hvaA:=hva.k0 hfA
 have hvcA:=hvc.k0 hfA
 have hvmA:=hvm.keep (R':=MapC X wA) hfA zN (fun _ _ _ h=>h.keep hfA zN)
 clear hva hvc hvm
 have q:=fun W (h:Fr No wA W)=>Bx.c8 (B1.keep h)
 have q0:=fun W (h:Fr No wA W)=>(q W h).1
 have q2:=fun W (h:Fr No wA W)=>(q W h).2.2.1
 have q3:=fun W (h:Fr No wA W)=>(q W h).2.2.2.1
 have q4:=fun W (h:Fr No wA W)=>(q W h).2.2.2.2.1
 have q5:=fun W (h:Fr No wA W)=>(q W h).2.2.2.2.2.1
 have ql:=fun W (h:Fr No wA W)=>(B1.keep h).lt
 clear q
 have HI1:=fun W=>zy3 m.locals W hn1 hs4
 have HI2:=fun W=>zy3 m.stack W hn2 hs6
 have HK:=fun W=>zy4 m.ret W hz2
 have hy1:(zbl (numL m.locals)).size≤7:=by rw[zpT];exact zyi _ hs3 hs4
 have hy2:(zbl (numL m.stack)).size≤7:=by rw[zpT];exact zyi _ hs5 hs6
 have hy3:(zbl (kndT m.ret)).size≤6:=by rw[zpT];exact zya _
 have hS0:Hid (∀a b c:Bs,a=numL m.locals->b=numL m.stack->c=kndT m.ret->(⟨#[109,101,116,104,111,100,32]⟩:Str) ++ m.name ++ ⟨#[32]⟩ ++ zbl a ++ ⟨#[32]⟩ ++ zbl b ++ ⟨#[32]⟩ ++ zbl c=zbl (zx2 m)):=by
  rintro a b c rfl rfl rfl
  unfold zx2 zxW
  rw[<-zqJ,<-zqJ,<-zqJ,<-zqJ,<-zqJ,<-zqJ,<-zqJ]
  rfl
 replace hl0:=Lib.hid hl0
 go_enter Tryz.func54,Tryz.ntmps54
 go_wp2_with fail
 rw[<-hwA]
 replace hwA:=Lib.hid hwA
 (refine zgc (X:=No) (by kernel_rfl) (by kernel_rfl) ?_)
 (repeat((first|go_big_quiet_skip|(go_big_quiet_want;(apply Exists.intro;refine⟨fun W hW=>?_,?_⟩);(focus (first|exact fqc|(go_simp;first|first|(go_at_call_of 29 (Value.int .i64 m.locals);exact(HI1 W).mono (fun _ _ h=>⟨h.1,hW.trans0 h.2⟩))|(go_at_call_of 29 (Value.int .i64 m.stack);exact(HI2 W).mono (fun _ _ h=>⟨h.1,hW.trans0 h.2⟩))|(go_at_call 53;exact(HK W).mono (fun _ _ h=>⟨h.1,hW.trans0 h.2⟩)))));go_big_quiet_on));(try simp only[Act.put,lz0,lz1,lz2])));refine wpQuiet_nil ?_
 intro w1 hf1
 have B11:=B1.keep hf1
 have hva1:=hvaA.k0 hf1
 have hvc1:=hvcA.k0 hf1
 have hvm1:=hvmA.keep (R':=MapC X w1) hf1 zN (fun _ _ _ h=>h.keep hf1 zN)
 have hw1:=hfA.trans0 hf1
 have hnl:w.heap.size<w1.heap.size:=B11.lt
 clear hvaA hvcA hvmA q0 q2 q3 q4 q5 ql HI1 HI2 HK hy1 hy2 hy3 B1 hf1 hfA
 go_wp2_with fail
 go_loopw [3,4] (fun o i wr=>∃j:Nat,j≤m.args.length∧o=.string (zbl (zx2 m ++ zxU (m.args.take j)))∧i=.int .i64 j∧Hid (Fr No w1 wr)) (fun _ i _=>m.args.length-(intOf i).toNat)
 case atStart=>
  refine⟨0,Nat.zero_le _,?_,rfl,Lib.hid (Fr.refl _ _)⟩
  rw[List.take_zero,zxU,List.append_nil]
  exact congrArg Value.string (hS0.out _ _ _ rfl rfl rfl)
 case round=>
  obtain⟨j,hj,rfl,rfl,hI⟩:=hrel
  have hfr:=hI.out
  clear hI
  have B1r:=B11.keep hfr
  obtain⟨p0,p1,p2,p3,p4,p5,p6,p7⟩:=Bx.c8 B1r
  have pl:=B1r.lt
  by_cases hlt:j<m.args.length
  ·obtain⟨b,off,rfl,_,k0,k1,kz⟩:=(hva1.k0 hfr).knd hlt
   have hadd:IntKind.i64.wrap ((j:Int)+1)=((j+1:Nat):Int):=by rw[IntWalk.i64_in _ (by unfold maxLen at qva;omega)];simp
   have hz8:(zbl (zx2 m ++ zxU (m.args.take j))).size≤90:=by
    have h1:=hl0.out
    have h2:=zyc (m.args.take j)
    rw[zpT]
    simp at h2 ⊢
    omega
   have hnx:Hid (zbl (zx2 m ++ zxU (m.args.take j)) ++ ⟨#[32]⟩ ++ zbl (kndT m.args[j])=zbl (zx2 m ++ zxU (m.args.take (j+1)))):=Lib.hid (by
    rw[zyx hlt]
    show _ ++ zbl [32] ++ _=_
    rw[zqJ,zqJ]
    simp)
   have hK:=fun W=>zy4 m.args[j] W kz
   have hkz:(zbl (kndT m.args[j])).size≤6:=by rw[zpT];exact zya _
   generalize m.args[j]=t at *
   generalize zx2 m ++ zxU (m.args.take j)=P at *
   go_wp2_with (go_at_call 53;refine(hK _).mono ?_;rintro e w7 ⟨rfl,hf7⟩)
   exact⟨⟨j+1,by omega,congrArg Value.string hnx.out,by simp,Lib.hid (hfr.trans0 (by exact frc))⟩,by simp[intOf];omega⟩
  ·obtain rfl:j=m.args.length:=by omega
   rw[List.take_length]
   have e1:zx2 m ++ zxU m.args=zx3 m:=rfl
   rw[e1]
   clear e1 hlt hj
   have hvcr:=hvc1.k0 hfr
   have hvmr:=hvm1.keep (R':=MapC X wr) hfr zN (fun _ _ _ h=>h.keep hfr zN)
   have hwr:=hw1.trans0 hfr
   have hrow0:=(zqY.one wr (zbl (zx3 m)))
   have hfB:Fr No wr (wr.alloc (.cells #[.string (zbl (zx3 m))] 9)):=frc
   have hI0:Hid (zqY (wr.alloc (.cells #[.string (zbl (zx3 m))] 9)) wr.heap.size (.slice (some ⟨wr.heap.size,0,none⟩) 1 1) (zbl (zx3 m) :: (m.maps.take 0).map fun x=>zbl (mapT x))∧Fr No wr (wr.alloc (.cells #[.string (zbl (zx3 m))] 9))):=Lib.hid ⟨hrow0,hfB⟩
   clear hrow0 hva1 hvc1 hvm1
   replace hfr:=Lib.hid hfr
   go_wp2_with fail
   obtain⟨w2,hw2⟩:∃w2,w2=wr:=⟨_,rfl⟩
   rw[<-hw2] at hI0 hvcr hvmr hwr B1r
   have hnl2:w.heap.size<w2.heap.size:=B1r.lt
   clear hfB
   go_loopw [5,6] (fun v i wr=>∃j:Nat,j≤m.maps.length∧i=.int .i64 j∧Hid (zqY wr w2.heap.size v (zbl (zx3 m) :: (m.maps.take j).map fun x=>zbl (mapT x))∧Fr No w2 wr)) (fun _ i _=>m.maps.length-(intOf i).toNat)
   case atStart=>rw[<-hw2];exact⟨0,Nat.zero_le _,rfl,hI0⟩
   case round=>
    clear hI0 hw2 p0 p1 p2 p3 p4 p5 p6 p7 pl
    obtain⟨j,hj,rfl,hI⟩:=hrel
    obtain⟨hrow,hfr2⟩:=hI.out
    clear hI
    have B1s:=B1r.keep hfr2
    obtain⟨p0,p1,p2,p3,p4,p5,p6,p7⟩:=Bx.c8 B1s
    have pl:=B1s.lt
    by_cases hlt:j<m.maps.length
    ·obtain⟨b,off,Al,cl,As,cs9,rfl,_,c0,c1,c2,hvl,hvs,pl1,pl2,ps1,ps2⟩:=(hvmr.keep (R':=MapC X wr) hfr2 zN (fun _ _ _ h=>h.keep hfr2 zN)).map hlt
     have hadd:IntKind.i64.wrap ((j:Int)+1)=((j+1:Nat):Int):=by rw[IntWalk.i64_in _ (by omega)];simp
     have hxs:=Lib.hid (hs9 _ (List.getElem_mem hlt))
     have hx0:=hn3 _ (List.getElem_mem hlt)
     have hnext:Hid ((zbl (zx3 m) :: (m.maps.take j).map fun x=>zbl (mapT x)) ++ [zbl (mapT m.maps[j])]=zbl (zx3 m) :: (m.maps.take (j+1)).map fun x=>zbl (mapT x)):=Lib.hid (by rw[List.take_succ_eq_append_getElem hlt,List.map_append];rfl)
     have hrl:(zbl (zx3 m) :: (m.maps.take j).map fun x=>zbl (mapT x)).length≤50000:=by simp;omega
     generalize m.maps[j]=x at *
     generalize(zbl (zx3 m) :: (m.maps.take j).map fun x=>zbl (mapT x))=RS at *
     have HI:=fun W=>zy3 x.at_ W hx0 hxs.out.2.1
     have hnz:(zbl (numL x.at_)).size≤7:=by rw[zpT];exact zyi _ hxs.out.1 hxs.out.2.1
     have hx6:=hxs.out.2.2.1
     have hx7:=hxs.out.2.2.2
     have HT1:=fun W (h:Fr No wr W)=>zy7 X _ x.locals W (hvl.k0 h) (by omega)
     have HT2:=fun W (h:Fr No wr W)=>zy7 X _ x.stack W (hvs.k0 h) (by omega)
     have hty1:(zbl (zxV x.locals)).size≤50:=by have:=zyd x.locals;rw[zpT];omega
     have hty2:(zbl (zxV x.stack)).size≤50:=by have:=zyd x.stack;rw[zpT];omega
     have hmt:Hid ((⟨#[102,114,97,109,101,32]⟩:Str) ++ zbl (numL x.at_) ++ zbl (zxV x.locals) ++ ⟨#[32,47]⟩ ++ zbl (zxV x.stack)=zbl (mapT x)):=Lib.hid (by
      unfold mapT zxX
      rw[<-zqJ,<-zqJ,<-zqJ,<-zqJ]
      rfl)
     have hmz:(zbl (mapT x)).size≤110:=by have:=zyH hxs.out x.stack.length;rw[zyB] at this;exact this
     have KB7:=fun W (h:Fr No wr W)=>(Bx.c8 (B1s.keep h)).2.2.2.2.2.2.2
     have KBl:=fun W (h:Fr No wr W)=>(B1s.keep h).lt
     have K0:=kp c0
     have K1:=kp c1
     have K2:=kp c2
     have hlw2:w2.heap.size≤wr.heap.size:=hfr2.size
     replace hrow:=Lib.hid hrow
     replace hfr2:=Lib.hid hfr2
     go_upto_region 10 with (fail)
     clear c0 c1 c2 p0 p1 p2 p3 p4 p5 p6 p7 pl hvl hvs
     refine zn0 27 78 [mV (u5),mV (.pointer (some ⟨w.heap.size,7,none⟩)),mV (.slice (some ⟨b,off,none⟩) m.maps.length cm),mV (.int .i64 (j:Int)),mV (.pointer (some ⟨b,off+j * 3,none⟩)),mV (.pointer (some ⟨b,off+j * 3,none⟩)),mV (.int .i64 x.at_),mV (.string (zbl (numL x.at_))),mV (.string (⟨#[102,114,97,109,101,32]⟩ ++ zbl (numL x.at_))),mV (.pointer (some ⟨w.heap.size,7,none⟩)),mV (.slice (some ⟨b,off,none⟩) m.maps.length cm),mV (.int .i64 (j:Int)),mV (.pointer (some ⟨b,off+j * 3,none⟩)),mV (.pointer (some ⟨b,off+j * 3+1,none⟩)),mV (.slice Al x.locals.length cl),mV (.string (zbl (zxV x.locals))),mV (.string (⟨#[102,114,97,109,101,32]⟩ ++ zbl (numL x.at_) ++ zbl (zxV x.locals))),mV (.string (⟨#[102,114,97,109,101,32]⟩ ++ zbl (numL x.at_) ++ zbl (zxV x.locals) ++ ⟨#[32,47]⟩)),mV (.pointer (some ⟨w.heap.size,7,none⟩)),mV (.slice (some ⟨b,off,none⟩) m.maps.length cm),mV (.int .i64 (j:Int)),mV (.pointer (some ⟨b,off+j * 3,none⟩)),mV (.pointer (some ⟨b,off+j * 3+2,none⟩)),mV (.slice As x.stack.length cs9),mV (.string (zbl (zxV x.stack))),mV (.string (⟨#[102,114,97,109,101,32]⟩ ++ zbl (numL x.at_) ++ zbl (zxV x.locals) ++ ⟨#[32,47]⟩ ++ zbl (zxV x.stack))),mS 9 (#[.string (⟨#[102,114,97,109,101,32]⟩ ++ zbl (numL x.at_) ++ zbl (zxV x.locals) ++ ⟨#[32,47]⟩ ++ zbl (zxV x.stack))]) 1 wr.heap.size] (by kernel_rfl) (by kernel_rfl) (by simp) ?_ ?_
     ·refine hc4 ?_ ?_ ?_ ?_ <| hc4 ?_ ?_ ?_ ?_ <| hc4 ?_ ?_ ?_ ?_ <| hc4 ?_ ?_ ?_ ?_ <| hc4 ?_ ?_ ?_ ?_ <| hc4 ?_ ?_ ?_ ?_ <| hopC ?_ <| hopC ?_ <| hopC ?_ <| hopZ
      all_goals (intro a' W hW hoff hdep;have hbs:=hW.size;have H5:=hoff 5 rfl;have H1:=hoff 1 rfl;have H6:=hoff 6 rfl;refine nE rfl ?_)
      ·simp[execOp,Act.eval,H5,go_sem,zaa];exact fr1 rfl
      ·simp[execOp,Act.eval,H1,go_sem,zaa];exact fr1 rfl
      ·have D52:_=_:=hdep 1 52 rfl;clear hoff hdep;simp[execOp,Act.eval,go_sem,zaa, *];exact fr1 rfl
      ·simp[execOp,Act.eval,H6,go_sem,zaa];exact fr1 rfl
      ·have D53:_=_:=hdep 2 53 rfl;have D54:_=_:=hdep 3 54 rfl;clear hoff hdep;simp[execOp,Act.eval,go_sem,zaa, *];exact fr1 rfl
      ·have D55:_=_:=hdep 4 55 rfl;simp[execOp,Act.eval,D55,go_sem,zaa];exact fr1 rfl
      ·have D56:_=_:=hdep 5 56 rfl;clear hoff hdep;simp[execOp,Act.eval,go_sem,zaa, *];exact fr1 rfl
      ·have D57:_=_:=hdep 6 57 rfl;simp[Act.eval,D57,go_sem,zaa];exact(HI W).mono fun e w' h=>⟨_,h.1,h.2,rfl⟩
      ·have D58:_=_:=hdep 7 58 rfl;simp[execOp,Act.eval,D58,go_sem,zaa];rw[if_neg (by omega)];exact fr1 rfl
      ·simp[execOp,Act.eval,H1,go_sem,zaa];exact fr1 rfl
      ·have D60:_=_:=hdep 9 60 rfl;clear hoff hdep;simp[execOp,Act.eval,go_sem,zaa, *];exact fr1 rfl
      ·simp[execOp,Act.eval,H6,go_sem,zaa];exact fr1 rfl
      ·have D61:_=_:=hdep 10 61 rfl;have D62:_=_:=hdep 11 62 rfl;clear hoff hdep;simp[execOp,Act.eval,go_sem,zaa, *];exact fr1 rfl
      ·have D63:_=_:=hdep 12 63 rfl;simp[execOp,Act.eval,D63,go_sem,zaa];exact fr1 rfl
      ·have D64:_=_:=hdep 13 64 rfl;clear hoff hdep;simp[execOp,Act.eval,go_sem,zaa, *];exact fr1 rfl
      ·have D65:_=_:=hdep 14 65 rfl;simp[Act.eval,D65,go_sem,zaa];exact(HT1 W hW).mono fun e w' h=>⟨_,h.1,h.2,rfl⟩
      ·have D59:_=_:=hdep 8 59 rfl;have D66:_=_:=hdep 15 66 rfl;simp[execOp,Act.eval,D59,D66,go_sem,zaa];rw[if_neg (by omega)];exact fr1 rfl
      ·have D67:_=_:=hdep 16 67 rfl;simp[execOp,Act.eval,D67,go_sem,zaa];rw[if_neg (by omega)];exact fr1 rfl
      ·simp[execOp,Act.eval,H1,go_sem,zaa];exact fr1 rfl
      ·have D69:_=_:=hdep 18 69 rfl;clear hoff hdep;simp[execOp,Act.eval,go_sem,zaa, *];exact fr1 rfl
      ·simp[execOp,Act.eval,H6,go_sem,zaa];exact fr1 rfl
      ·have D70:_=_:=hdep 19 70 rfl;have D71:_=_:=hdep 20 71 rfl;clear hoff hdep;simp[execOp,Act.eval,go_sem,zaa, *];exact fr1 rfl
      ·have D72:_=_:=hdep 21 72 rfl;simp[execOp,Act.eval,D72,go_sem,zaa];exact fr1 rfl
      ·have D73:_=_:=hdep 22 73 rfl;clear hoff hdep;simp[execOp,Act.eval,go_sem,zaa, *];exact fr1 rfl
      ·have D74:_=_:=hdep 23 74 rfl;simp[Act.eval,D74,go_sem,zaa];exact(HT2 W hW).mono fun e w' h=>⟨_,h.1,h.2,rfl⟩
      ·have D68:_=_:=hdep 17 68 rfl;have D75:_=_:=hdep 24 75 rfl;simp[execOp,Act.eval,D68,D75,go_sem,zaa];rw[if_neg (by omega)];exact fr1 rfl
      ·have D76:_=_:=hdep 25 76 rfl;simp at D76;simp[execOp,Act.eval,D76,go_sem,zaa];exact⟨(Fr.refl _ _).alloc _,⟨_,rfl,Bx.new_ rfl,hbs⟩,Nat.le_refl _⟩
     intro vs WR hWR hv hne
     obtain⟨b26,e26,hb26,hl26⟩:=hv 26 (by omega)
     simp only[lz6,List.drop_zero,znQ,znK,znR,Nat.zero_add,Nat.reduceAdd,e26]
     simp only[Act.put,lz0,lz1,lz2]
     clear e26 hv
     have hb26':=hb26
     rw[hmt.out] at hb26'
     have hsS:=Sl.oneStr (X:=No) hb26' (fun h=>h) (by unfold maxLen;omega)
     have hrow9:=Lib.hid (hrow.out.keep hWR)
     have hlw:w2.heap.size≤WR.heap.size:=Nat.le_trans hlw2 hWR.size
     have hfwS:=Lib.hid (hfr2.out.trans0 hWR)
     generalize mapT x=TX at *
     clear hne hrow hfr2 HI HT1 HT2 KB7 KBl K0 K1 K2 hb26 hb26'
     refine ztA rfl _ _ rfl w2.heap.size _ RS rfl hrow9.out hrl No _ [zbl TX] rfl hsS (by simp) hlw ?_
     intro v8 w8 hr8 hf8
     simp only[Act.put,lz0,lz1,lz2]
     go_wp2_with fail
     refine⟨⟨j+1,by omega,by simp,Lib.hid ⟨?_,hfwS.out.trans hf8 (fun b hb e=>by omega)⟩⟩,by simp[intOf];omega⟩
     rw[<-hnext.out]
     exact hr8
    ·obtain rfl:j=m.maps.length:=by omega
     rw[List.take_length] at hrow
     generalize hRS:(zbl (zx3 m) :: m.maps.map fun x=>zbl (mapT x))=RS at *
     have hRl:RS.length≤10:=by rw[<-hRS];simp;omega
     have hfin:Hid (RS ++ m.code.map (fun i=>zbl (zqr i))=mthT m):=Lib.hid (by rw[<-hRS];rfl)
     replace hRS:=Lib.hid hRS
     have hI1:Hid (zqY wr w2.heap.size u5 (RS ++ (m.code.take 0).map fun i=>zbl (zqr i))∧Fr No w2 wr):=Lib.hid ⟨by rw[List.take_zero,List.map_nil,List.append_nil];exact hrow,hfr2⟩
     clear hrow hfr2 hvmr B1s
     go_wp2_with fail
     go_loopw [5,7] (fun v i wr=>∃j:Nat,j≤m.code.length∧i=.int .i64 j∧Hid (zqY wr w2.heap.size v (RS ++ (m.code.take j).map fun i=>zbl (zqr i))∧Fr No w2 wr)) (fun _ i _=>m.code.length-(intOf i).toNat)
     case atStart=>exact⟨0,Nat.zero_le _,rfl,hI1⟩
     case round=>
      clear hI1 p0 p1 p2 p3 p4 p5 p6 p7 pl
      obtain⟨j,hj,rfl,hI⟩:=hrel
      obtain⟨hrow,hfr3⟩:=hI.out
      clear hI
      have B1t:=B1r.keep hfr3
      obtain⟨p0,p1,p2,p3,p4,p5,p6,p7⟩:=Bx.c8 B1t
      have pl:=B1t.lt
      by_cases hlt:j<m.code.length
      ·obtain⟨b,off,rfl,_,c0,c1,c2,c3,z1,z2⟩:=(hvcr.k0 hfr3).ins hlt
       have hadd:IntKind.i64.wrap ((j:Int)+1)=((j+1:Nat):Int):=by rw[IntWalk.i64_in _ (by omega)];simp
       have hnext:Hid ((RS ++ (m.code.take j).map fun i=>zbl (zqr i)) ++ [zbl (zqr m.code[j])]=RS ++ (m.code.take (j+1)).map fun i=>zbl (zqr i)):=Lib.hid (by rw[List.take_succ_eq_append_getElem hlt,List.map_append,List.append_assoc];rfl)
       have hrl:(RS ++ (m.code.take j).map fun i=>zbl (zqr i)).length≤50000:=by simp;omega
       have HI:=fun W=>zrB m.code[j] W z1 z2
       have hiz:(zbl (zqr m.code[j])).size≤100:=by rw[zpT];exact zyA _
       generalize m.code[j]=x at *
       generalize(RS ++ (m.code.take j).map fun i=>zbl (zqr i))=QS at *
       replace hrow:=Lib.hid hrow
       go_wp2_with (go_at_call 89;refine(HI _).mono ?_;rintro e w5 ⟨rfl,hf5⟩;refine Hid.out ?_)
       refine Lib.hid ?_
       have hfw:=hfr3.trans0 hf5
       have hrow8:=hrow.out.keep hf5
       have hfS:Fr No w5 (w5.alloc (.cells #[.string (zbl (zqr x))] 9)):=frc
       have BS:Bx (w5.alloc (.cells #[.string (zbl (zqr x))] 9)) w5.heap.size 9 #[.string (zbl (zqr x))]:=bxc
       have hsS:=Sl.oneStr (X:=No) BS (fun h=>h) (by unfold maxLen;omega)
       have hrow9:=Lib.hid (hrow8.keep hfS)
       have hlw:w2.heap.size≤(w5.alloc (.cells #[.string (zbl (zqr x))] 9)).heap.size:=(hfw.trans0 hfS).size
       have hfwS:=Lib.hid (hfw.trans0 hfS)
       generalize zqr x=TX at *
       clear hrow hrow8 hfw hfS HI hf5
       go_wp2_with (at_builtin;(refine ztA rfl _ _ rfl w2.heap.size _ QS rfl hrow9.out hrl No _ [zbl TX] rfl hsS (by simp) hlw ?_);(intro v8 w8 hr8 hf8))
       refine⟨⟨j+1,by omega,by simp,Lib.hid ⟨?_,hfwS.out.trans hf8 (fun b hb e=>by omega)⟩⟩,by simp[intOf];omega⟩
       rw[<-hnext.out]
       exact hr8
      ·obtain rfl:j=m.code.length:=by omega
       rw[List.take_length,hfin.out] at hrow
       have hz:=hrow.low (Nat.le_of_lt hnl2)
       replace hrow:=Lib.hid hrow
       go_wp2_with fail
       refine bodyPost_ret (results_tmp rfl _ _ _) rfl ?_
       exact⟨_,rfl,hz,hwr.trans0 hfr3⟩
end Go.Proofs.YtmeaibjmnjcdfaaGreatDoor
