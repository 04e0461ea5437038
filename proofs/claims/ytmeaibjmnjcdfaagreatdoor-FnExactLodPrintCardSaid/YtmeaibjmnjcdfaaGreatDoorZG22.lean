/- A method's text, as the program writes it. -/
import Derived.Test.YtmeaibjmnjcdfaaGreatDoorZG21
set_option maxHeartbeats 8000000
set_option maxRecDepth 100000
namespace Go.Proofs.YtmeaibjmnjcdfaaGreatDoor
open Go.RowKit
def zyu (m:Mth):Prop:=m.name.size≤6∧m.args.length≤3∧-100000<m.locals∧m.locals<100000∧-100000<m.stack∧m.stack<100000∧m.maps.length≤5∧m.code.length≤16∧∀x∈m.maps, -100000<x.at_∧x.at_<100000∧x.locals.length≤6∧x.stack.length≤6
def zyv (X:Nat->Prop) (ls:List Str) (w:World) (e:Ending) (w':World):Prop:=∃v,e=.returned v∧zqY w' w.heap.size v ls∧Fr X w w'
theorem zyw {m:Mth} (h:zyu m):(zx2 m).length≤60:=by
 obtain⟨h1,_,h2,h3,h4,h5,_⟩:=h
 have a:=zyi m.locals h2 h3
 have b:=zyi m.stack h4 h5
 have c:=zya m.ret
 have d:(Str.l m.name).length≤6:=by rw[zkb];exact h1
 unfold zx2 zxW
 simp
 omega
theorem zyx {ks:List Knd} {j:Nat} (h:j<ks.length):zxU (ks.take (j+1))=zxU (ks.take j) ++ 32 :: kndT ks[j]:=by
 rw[List.take_succ_eq_append_getElem h,zx7]
theorem zyy {ks:List Tag} {j:Nat} (h:j<ks.length):zxV (ks.take (j+1))=zxV (ks.take j) ++ 32 :: tagT ks[j]:=by
 rw[List.take_succ_eq_append_getElem h,zx8]
theorem zyz {x:Mp} (h:-100000<x.at_∧x.at_<100000∧x.locals.length≤6∧x.stack.length≤6) (i j:Nat):(zxX ++ numL x.at_ ++ zxV (x.locals.take i) ++ [32,47] ++ zxV (x.stack.take j)).length≤110:=by
 obtain⟨h1,h2,h3,h4⟩:=h
 have a:=zyi x.at_ h1 h2
 have b:=zyd (x.locals.take i)
 have c:=zyd (x.stack.take j)
 have d:(x.locals.take i).length≤6:=by rw[List.length_take];omega
 have e:(x.stack.take j).length≤6:=by rw[List.length_take];omega
 unfold zxX
 simp at *
 omega
theorem zyA (i:Ins):(zqr i).length≤100:=by
 unfold zqr
 cases hb:insB i
 ·simp
 ·rw[if_pos rfl]
  have hw:=zrz i.op.toNat
  rcases zrA hb with ⟨ho,h1,h2⟩ | ⟨ho,h6⟩ | ⟨ho,h6,h7⟩|ho
  ·have:=zyi i.a (by omega) (by omega)
   rw[if_pos ho]
   simp
   omega
  ·have h8:(Str.l i.name).length≤6:=by rw[zkb];exact h6
   rw[if_neg (by omega),if_pos ho]
   simp
   omega
  ·have h8:(Str.l i.name).length≤6:=by rw[zkb];exact h6
   have h9:(Str.l i.member).length≤6:=by rw[zkb];exact h7
   rw[if_neg (by omega),if_neg (by omega),if_pos ho]
   simp
   omega
  ·rw[if_neg (by omega),if_neg (by omega),if_neg (by omega)]
   omega
theorem zqY.low {w:World} {n k:Nat} {v:Value} {xs:List Str} (h:zqY w n v xs) (hk:k≤n):zqY w k v xs:=⟨h.1,fun q hq=>Nat.le_trans hk (h.2 q hq)⟩
theorem zqY.one (w:World) (s:Str):zqY (w.alloc (.cells #[.string s] 9)) w.heap.size (.slice (some ⟨w.heap.size,0,none⟩) 1 1) [s]:=zqY.lit w [s] (by simp)
theorem Sl.oneStr {X:Nat->Prop} {w:World} {b:Nat} {s:Str} (hB:Bx w b 9 #[.string s]) (hX:¬X b) (hs:s.size≤maxLen):Sl X w 1 StrC (.slice (some ⟨b,0,none⟩) 1 1) [s]:=Sl.oneS hB hX hs
def mapP (x:Mp):Bs:=zxX ++ numL x.at_
def mapL (x:Mp) (k:Nat):Bs:=mapP x ++ zxV (x.locals.take k)
def mapS (x:Mp) (k:Nat):Bs:=mapP x ++ zxV x.locals ++ [32,47] ++ zxV (x.stack.take k)
theorem zyB (x:Mp):mapS x x.stack.length=mapT x:=by unfold mapS mapT mapP;rw[List.take_length]
theorem zyC (x:Mp):(⟨#[102,114,97,109,101,32]⟩:Str) ++ zbl (numL x.at_)=zbl (mapL x 0):=by
 unfold mapL mapP zxX
 rw[List.take_zero,zxV,List.append_nil,<-zqJ]
 rfl
theorem zyD (x:Mp):zbl (mapL x x.locals.length) ++ (⟨#[32,47]⟩:Str)=zbl (mapS x 0):=by
 unfold mapL mapS
 rw[List.take_zero,zxV,List.append_nil,List.take_length]
 show _ ++ zbl [32,47]=_
 rw[zqJ]
theorem zyE {x:Mp} {k:Nat} (h:k<x.locals.length):zbl (mapL x k) ++ (⟨#[32]⟩ ++ zbl (tagT x.locals[k]))=zbl (mapL x (k+1)):=by
 unfold mapL
 rw[zyy h]
 show _ ++ (zbl [32] ++ _)=_
 rw[zqJ,zqJ]
 simp
theorem zyF {x:Mp} {k:Nat} (h:k<x.stack.length):zbl (mapS x k) ++ (⟨#[32]⟩ ++ zbl (tagT x.stack[k]))=zbl (mapS x (k+1)):=by
 unfold mapS
 rw[zyy h]
 show _ ++ (zbl [32] ++ _)=_
 rw[zqJ,zqJ]
 simp
theorem zyG {x:Mp} (h:-100000<x.at_∧x.at_<100000∧x.locals.length≤6∧x.stack.length≤6) (k:Nat):(zbl (mapL x k)).size≤110:=by
 have:=zyz h k 0
 rw[zpT]
 unfold mapL mapP
 simp[zxV] at this ⊢
 omega
theorem zyH {x:Mp} (h:-100000<x.at_∧x.at_<100000∧x.locals.length≤6∧x.stack.length≤6) (k:Nat):(zbl (mapS x k)).size≤110:=by
 have:=zyz h x.locals.length k
 rw[List.take_length] at this
 rw[zpT]
 exact this
theorem zyI (X:Nat->Prop) (m:Mth) (cs:List Value) (w:World) (hc:MthC X w cs m) (hsm:zyu m) (ht:TabW w):
  Calls Tryz.prog 58 #[.agg cs.toArray] w (zyv No (mthT m) w):=by
 have hl0:=zyw hsm
 obtain⟨hs1,hs2,hs3,hs4,hs5,hs6,hs7,hs8,hs9⟩:=hsm
 obtain⟨va,vc,vm,rfl,hz1,hz2,hva,hvc,hvm⟩:=hc
 obtain⟨Aa,ca,rfl,pva,qva⟩:=hva.form
 obtain⟨Ac,cc,rfl,pvc,qvc⟩:=hvc.form
 obtain⟨Am,cm,rfl,pvm,qvm⟩:=hvm.form
 obtain⟨wA,hwA⟩:∃wA,wA=w.alloc (.cells #[.string m.name,.slice Aa m.args.length ca,.int .i64 m.ret.kind,.string m.ret.name,.int .i64 m.locals,.int .i64 m.stack,.slice Ac m.code.length cc,.slice Am m.maps.length cm] 100):=⟨_,rfl⟩
 have hfA:Fr No w wA:=hwA▸frc
 have B1:Bx wA w.heap.size 100 #[.string m.name,.slice Aa m.args.length ca,.int .i64 m.ret.kind,.string m.ret.name,.int .i64 m.locals,.int .i64 m.stack,.slice Ac m.code.length cc,.slice Am m.maps.length cm]:=hwA▸bxc
 have htA:=ht.keep hfA
 have hvaA:=hva.k0 hfA
 have hvcA:=hvc.k0 hfA
 have hvmA:=hvm.keep (R':=MapC X wA) hfA zN (fun _ _ _ h=>h.keep hfA zN)
 clear hva hvc hvm ht
 have q:=fun W (h:Fr No wA W)=>Bx.c8 (B1.keep h)
 have q0:=fun W (h:Fr No wA W)=>(q W h).1
 have q2:=fun W (h:Fr No wA W)=>(q W h).2.2.1
 have q3:=fun W (h:Fr No wA W)=>(q W h).2.2.2.1
 have q4:=fun W (h:Fr No wA W)=>(q W h).2.2.2.2.1
 have q5:=fun W (h:Fr No wA W)=>(q W h).2.2.2.2.2.1
 have ql:=fun W (h:Fr No wA W)=>(B1.keep h).lt
 clear q
 have HI1:=fun W (h:Fr No wA W)=>zyh m.locals W hs3 hs4 (htA.keep h)
 have HI2:=fun W (h:Fr No wA W)=>zyh m.stack W hs5 hs6 (htA.keep h)
 have HK:=fun W=>zys m.ret W hz2
 have hn1:(zbl (numL m.locals)).size≤7:=by rw[zpT];exact zyi _ hs3 hs4
 have hn2:(zbl (numL m.stack)).size≤7:=by rw[zpT];exact zyi _ hs5 hs6
 have hn3:(zbl (kndT m.ret)).size≤6:=by rw[zpT];exact zya _
 have hS0:Hid (∀a b c:Bs,a=numL m.locals->b=numL m.stack->c=kndT m.ret->(⟨#[109,101,116,104,111,100,32]⟩:Str) ++ m.name ++ ⟨#[32]⟩ ++ zbl a ++ ⟨#[32]⟩ ++ zbl b ++ ⟨#[32]⟩ ++ zbl c=zbl (zx2 m)):=by
  rintro a b c rfl rfl rfl
  unfold zx2 zxW
  rw[<-zqJ,<-zqJ,<-zqJ,<-zqJ,<-zqJ,<-zqJ,<-zqJ]
  rfl
 replace hl0:=Lib.hid hl0
 go_enter Tryz.func58,Tryz.ntmps58
 go_wp2_with fail
 rw[<-hwA]
 replace hwA:=Lib.hid hwA
 (refine zgc (X:=No) (by kernel_rfl) (by kernel_rfl) ?_)
 (repeat((first|go_big_quiet_skip|(go_big_quiet_want;(apply Exists.intro;refine⟨fun W hW=>?_,?_⟩);(focus (first|exact fqc|(go_simp;first|first|(go_at_call 32;first|exact(HI1 W hW).mono (fun _ _ h=>⟨h.1,hW.trans0 h.2⟩)|exact(HI2 W hW).mono (fun _ _ h=>⟨h.1,hW.trans0 h.2⟩))|(go_at_call 57;exact(HK W).mono (fun _ _ h=>⟨h.1,hW.trans0 h.2⟩)))));go_big_quiet_on));(try simp only[Act.put,lz0,lz1,lz2])));refine wpQuiet_nil ?_
 intro w1 hf1
 have B11:=B1.keep hf1
 obtain⟨p0,p1,p2,p3,p4,p5,p6,p7⟩:=Bx.c8 B11
 have pl:=B11.lt
 have hva1:=hvaA.k0 hf1
 have hvc1:=hvcA.k0 hf1
 have hvm1:=hvmA.keep (R':=MapC X w1) hf1 zN (fun _ _ _ h=>h.keep hf1 zN)
 have ht1:=htA.keep hf1
 have hw1:=hfA.trans0 hf1
 clear hvaA hvcA hvmA htA q0 q2 q3 q4 q5 ql HI1 HI2 HK hn1 hn2 hn3 B1 hf1 hfA
 go_wp2_with fail
 go_loopw [3,37] (fun o i wr=>∃j:Nat,j≤m.args.length∧o=.string (zbl (zx2 m ++ zxU (m.args.take j)))∧i=.int .i64 j∧Hid (Fr No w1 wr)) (fun _ i _=>m.args.length-(intOf i).toNat)
 case atStart=>
  refine⟨0,Nat.zero_le _,?_,rfl,Lib.hid (Fr.refl _ _)⟩
  rw[List.take_zero,zxU,List.append_nil]
  exact congrArg Value.string (hS0.out _ _ _ rfl rfl rfl)
 case round=>
  obtain⟨j,hj,rfl,rfl,hI⟩:=hrel
  have hfr:=hI.out
  clear hI
  by_cases hlt:j<m.args.length
  ·obtain⟨b,off,rfl,_,k0,k1,kz⟩:=(hva1.k0 hfr).knd hlt
   have hadd:IntKind.i64.wrap ((j:Int)+1)=((j+1:Nat):Int):=by rw[IntWalk.i64_in _ (by unfold maxLen at qva;omega)];simp
   have hz8:(zbl (zx2 m ++ zxU (m.args.take j))).size≤90:=by
    have h1:=hl0.out
    have h2:=zyc (m.args.take j)
    rw[zpT]
    simp at h2 ⊢
    omega
   have hnx:Hid (zbl (zx2 m ++ zxU (m.args.take j)) ++ (⟨#[32]⟩ ++ zbl (kndT m.args[j]))=zbl (zx2 m ++ zxU (m.args.take (j+1)))):=Lib.hid (by
    rw[zyx hlt]
    show _ ++ (zbl [32] ++ _)=_
    rw[zqJ,zqJ]
    simp)
   have hK:=fun W=>zys m.args[j] W kz
   have hkz:(zbl (kndT m.args[j])).size≤6:=by rw[zpT];exact zya _
   generalize m.args[j]=t at *
   generalize zx2 m ++ zxU (m.args.take j)=P at *
   go_wp2_with (go_at_call 57;refine(hK _).mono ?_;rintro e w7 ⟨rfl,hf7⟩)
   exact⟨⟨j+1,by omega,congrArg Value.string hnx.out,by simp,Lib.hid (hfr.trans0 (by exact frc))⟩,by simp[intOf];omega⟩
  ·obtain rfl:j=m.args.length:=by omega
   rw[List.take_length]
   have e1:zx2 m ++ zxU m.args=zx3 m:=rfl
   rw[e1]
   clear e1 hlt hj
   have B1r:=B11.keep hfr
   obtain⟨p0,p1,p2,p3,p4,p5,p6,p7⟩:=Bx.c8 B1r
   have pl:=B1r.lt
   have hvcr:=hvc1.k0 hfr
   have hvmr:=hvm1.keep (R':=MapC X wr) hfr zN (fun _ _ _ h=>h.keep hfr zN)
   have htr:=ht1.keep hfr
   have hwr:=hw1.trans0 hfr
   have hrow0:=(zqY.one wr (zbl (zx3 m)))
   have hfB:Fr No wr (wr.alloc (.cells #[.string (zbl (zx3 m))] 9)):=frc
   have hI0:Hid (zqY (wr.alloc (.cells #[.string (zbl (zx3 m))] 9)) wr.heap.size (.slice (some ⟨wr.heap.size,0,none⟩) 1 1) (zbl (zx3 m) :: (m.maps.take 0).map fun x=>zbl (mapT x))∧Fr No wr (wr.alloc (.cells #[.string (zbl (zx3 m))] 9))):=Lib.hid ⟨hrow0,hfB⟩
   clear hrow0 hva1 hvc1 hvm1 ht1
   replace hfr:=Lib.hid hfr
   go_wp2_with fail
   obtain⟨w2,hw2⟩:∃w2,w2=wr:=⟨_,rfl⟩
   rw[<-hw2] at hI0 hvcr hvmr htr hwr B1r
   have hnl:w.heap.size<w2.heap.size:=B1r.lt
   clear hfB
   go_loopw [6,52] (fun v i wr=>∃j:Nat,j≤m.maps.length∧i=.int .i64 j∧Hid (zqY wr w2.heap.size v (zbl (zx3 m) :: (m.maps.take j).map fun x=>zbl (mapT x))∧Fr No w2 wr)) (fun _ i _=>m.maps.length-(intOf i).toNat)
   case atStart=>rw[<-hw2];exact⟨0,Nat.zero_le _,rfl,hI0⟩
   case round=>
    clear hI0 hw2
    obtain⟨j,hj,rfl,hI⟩:=hrel
    obtain⟨hrow,hfr2⟩:=hI.out
    clear hI
    by_cases hlt:j<m.maps.length
    ·obtain⟨b,off,Al,cl,As,cs9,rfl,_,c0,c1,c2,hvl,hvs,pl1,pl2,ps1,ps2⟩:=(hvmr.keep (R':=MapC X wr) hfr2 zN (fun _ _ _ h=>h.keep hfr2 zN)).map hlt
     have hadd:IntKind.i64.wrap ((j:Int)+1)=((j+1:Nat):Int):=by rw[IntWalk.i64_in _ (by omega)];simp
     have hxs:=Lib.hid (hs9 _ (List.getElem_mem hlt))
     have hnext:Hid ((zbl (zx3 m) :: (m.maps.take j).map fun x=>zbl (mapT x)) ++ [zbl (mapT m.maps[j])]=zbl (zx3 m) :: (m.maps.take (j+1)).map fun x=>zbl (mapT x)):=Lib.hid (by rw[List.take_succ_eq_append_getElem hlt,List.map_append];rfl)
     have hrl:(zbl (zx3 m) :: (m.maps.take j).map fun x=>zbl (mapT x)).length≤50000:=by simp;omega
     generalize m.maps[j]=x at *
     generalize(zbl (zx3 m) :: (m.maps.take j).map fun x=>zbl (mapT x))=RS at *
     have htr2:=htr.keep hfr2
     have HI:=fun W (h:Fr No wr W)=>zyh x.at_ W hxs.out.1 hxs.out.2.1 (htr2.keep h)
     have hnz:(zbl (numL x.at_)).size≤7:=by rw[zpT];exact zyi _ hxs.out.1 hxs.out.2.1
     have hx6:=hxs.out.2.2.1
     have hx7:=hxs.out.2.2.2
     have BM:=Bx.new wr 137 #[.int .i64 x.at_,.slice Al x.locals.length cl,.slice As x.stack.length cs9]
     have hfM:Fr No wr (wr.alloc (.cells #[.int .i64 x.at_,.slice Al x.locals.length cl,.slice As x.stack.length cs9] 137)):=frc
     replace hrow:=Lib.hid hrow
     go_wp2_with (go_at_call 32;refine(HI _ (by exact frc)).mono ?_;rintro e w5 ⟨rfl,hf5⟩;have BM5:=BM.keep hf5;obtain⟨d0,d1,d2⟩:=BM5.c3;have dl:=BM5.lt)
     have hf25:=hfM.trans0 hf5
     have hvl5:=hvl.k0 hf25
     have hvs5:=hvs.k0 hf25
     clear c0 c1 c2 HI hnz
     replace hf25:=Lib.hid hf25
     go_loopw [9,63] (fun o i wr=>∃k:Nat,k≤x.locals.length∧o=.string (zbl (mapL x k))∧i=.int .i64 k∧Hid (Fr No w5 wr)) (fun _ i _=>x.locals.length-(intOf i).toNat)
     case atStart=>exact⟨0,Nat.zero_le _,congrArg Value.string (zyC x),rfl,Lib.hid (Fr.refl _ _)⟩
     case round=>
      obtain⟨k,hk,rfl,rfl,hI⟩:=hrel
      have hfq:=hI.out
      clear hI
      by_cases hlk:k<x.locals.length
      ·obtain⟨bt,ot,rfl,_,k0,k1,kz⟩:=(hvl5.k0 hfq).tag hlk
       have hadd:IntKind.i64.wrap ((k:Int)+1)=((k+1:Nat):Int):=by rw[IntWalk.i64_in _ (by omega)];simp
       have hz8:=zyG hxs.out k
       have hnx:=Lib.hid (zyE hlk)
       have hT:=fun W=>zyj x.locals[k] W kz
       have hkz:(zbl (tagT x.locals[k])).size≤6:=by rw[zpT];exact zyb _
       generalize x.locals[k]=t at *
       generalize mapL x k=P at *
       go_wp2_with (go_at_call 100;refine(hT _).mono ?_;rintro e w7 ⟨rfl,hf7⟩)
       exact⟨⟨k+1,by omega,congrArg Value.string hnx.out,by simp,Lib.hid (hfq.trans0 (by exact frc))⟩,by simp[intOf];omega⟩
      ·obtain rfl:k=x.locals.length:=by omega
       have BM6:=BM5.keep hfq
       obtain⟨d0,d1,d2⟩:=BM6.c3
       have dl:=BM6.lt
       have hvs6:=hvs5.k0 hfq
       have hz8:=zyG hxs.out x.locals.length
       have hz0:=Lib.hid (zyD x)
       clear hvl5
       generalize mapL x x.locals.length=P at *
       go_wp2_with fail
       obtain⟨w6,hw6⟩:∃w6,w6=wr:=⟨_,rfl⟩
       rw[<-hw6] at hfq BM6 hvs6 d0 d1 d2 dl
       go_loopw [9,78] (fun o i wr=>∃k:Nat,k≤x.stack.length∧o=.string (zbl (mapS x k))∧i=.int .i64 k∧Hid (Fr No w6 wr)) (fun _ i _=>x.stack.length-(intOf i).toNat)
       case atStart=>rw[<-hw6];exact⟨0,Nat.zero_le _,congrArg Value.string hz0.out,rfl,Lib.hid (Fr.refl _ _)⟩
       case round=>
        clear hw6 hz8 hz0
        obtain⟨k,hk9,rfl,rfl,hI⟩:=hrel
        have hfp:=hI.out
        clear hI
        by_cases hlk:k<x.stack.length
        ·obtain⟨bt,ot,rfl,_,k0,k1,kz⟩:=(hvs6.k0 hfp).tag hlk
         have hadd:IntKind.i64.wrap ((k:Int)+1)=((k+1:Nat):Int):=by rw[IntWalk.i64_in _ (by omega)];simp
         have hz8:=zyH hxs.out k
         have hnx:=Lib.hid (zyF hlk)
         have hT:=fun W=>zyj x.stack[k] W kz
         have hkz:(zbl (tagT x.stack[k])).size≤6:=by rw[zpT];exact zyb _
         generalize x.stack[k]=t at *
         generalize mapS x k=P at *
         go_wp2_with (go_at_call 100;refine(hT _).mono ?_;rintro e w7 ⟨rfl,hf7⟩)
         exact⟨⟨k+1,by omega,congrArg Value.string hnx.out,by simp,Lib.hid (hfp.trans0 (by exact frc))⟩,by simp[intOf];omega⟩
        ·obtain rfl:k=x.stack.length:=by omega
         have hz8:=zyH hxs.out x.stack.length
         rw[zyB] at hz8 ⊢
         have hfw:Fr No w2 wr:=hfr2.trans0 (hf25.out.trans0 (hfq.trans0 hfp))
         have hrow8:=(hrow.out.keep (hf25.out.trans0 (hfq.trans0 hfp)))
         have hfS:Fr No wr (wr.alloc (.cells #[.string (zbl (mapT x))] 9)):=frc
         have BS:Bx (wr.alloc (.cells #[.string (zbl (mapT x))] 9)) wr.heap.size 9 #[.string (zbl (mapT x))]:=bxc
         have hsS:=Sl.oneStr (X:=No) BS (fun h=>h) (by unfold maxLen;omega)
         have hrow9:=Lib.hid (hrow8.keep hfS)
         have hlw:w2.heap.size≤(wr.alloc (.cells #[.string (zbl (mapT x))] 9)).heap.size:=(hfw.trans0 hfS).size
         have hfwS:=Lib.hid (hfw.trans0 hfS)
         generalize mapT x=TX at *
         clear hrow hrow8 hfp hfq hfw hfS hlk
         go_wp2_with (at_builtin;(refine ztA rfl _ _ rfl w2.heap.size _ RS rfl hrow9.out hrl No _ [zbl TX] rfl hsS (by simp) hlw ?_);(intro v8 w8 hr8 hf8))
         refine⟨⟨j+1,by omega,by simp,Lib.hid ⟨?_,hfwS.out.trans hf8 (fun b hb e=>by omega)⟩⟩,by simp[intOf];omega⟩
         rw[<-hnext.out]
         exact hr8
    ·obtain rfl:j=m.maps.length:=by omega
     rw[List.take_length] at hrow
     have B1s:=B1r.keep hfr2
     obtain⟨p0,p1,p2,p3,p4,p5,p6,p7⟩:=Bx.c8 B1s
     have pl:=B1s.lt
     generalize hRS:(zbl (zx3 m) :: m.maps.map fun x=>zbl (mapT x))=RS at *
     have hRl:RS.length≤10:=by rw[<-hRS];simp;omega
     have hfin:Hid (RS ++ m.code.map (fun i=>zbl (zqr i))=mthT m):=Lib.hid (by rw[<-hRS];rfl)
     replace hRS:=Lib.hid hRS
     replace hrow:=Lib.hid hrow
     clear hvmr B1s
     have hI1:Hid (zqY wr w2.heap.size u6 (RS ++ (m.code.take 0).map fun i=>zbl (zqr i))∧Fr No w2 wr):=Lib.hid ⟨by rw[List.take_zero,List.map_nil,List.append_nil];exact hrow.out,hfr2⟩
     clear hrow hfr2
     go_wp2_with fail
     go_loopw [6,96] (fun v i wr=>∃j:Nat,j≤m.code.length∧i=.int .i64 j∧Hid (zqY wr w2.heap.size v (RS ++ (m.code.take j).map fun i=>zbl (zqr i))∧Fr No w2 wr)) (fun _ i _=>m.code.length-(intOf i).toNat)
     case atStart=>exact⟨0,Nat.zero_le _,rfl,hI1⟩
     case round=>
      clear hI1 p0 p1 p2 p3 p4 p5 p6 p7 pl
      obtain⟨j,hj,rfl,hI⟩:=hrel
      obtain⟨hrow,hfr3⟩:=hI.out
      clear hI
      by_cases hlt:j<m.code.length
      ·obtain⟨b,off,rfl,_,c0,c1,c2,c3,z1,z2⟩:=(hvcr.k0 hfr3).ins hlt
       have hadd:IntKind.i64.wrap ((j:Int)+1)=((j+1:Nat):Int):=by rw[IntWalk.i64_in _ (by omega)];simp
       have hnext:Hid ((RS ++ (m.code.take j).map fun i=>zbl (zqr i)) ++ [zbl (zqr m.code[j])]=RS ++ (m.code.take (j+1)).map fun i=>zbl (zqr i)):=Lib.hid (by rw[List.take_succ_eq_append_getElem hlt,List.map_append,List.append_assoc];rfl)
       have hrl:(RS ++ (m.code.take j).map fun i=>zbl (zqr i)).length≤50000:=by simp;omega
       have ht3:=htr.keep hfr3
       have HI:=fun W (h:Fr No wr W)=>zyt m.code[j] W z1 z2 (ht3.keep h)
       have hiz:(zbl (zqr m.code[j])).size≤100:=by rw[zpT];exact zyA _
       generalize m.code[j]=x at *
       generalize(RS ++ (m.code.take j).map fun i=>zbl (zqr i))=QS at *
       replace hrow:=Lib.hid hrow
       go_wp2_with (first
        | (go_at_call 101;refine(HI _ (by exact frc)).mono ?_;rintro e w5 ⟨rfl,hf5⟩;refine Hid.out ?_))
       refine Lib.hid ?_
       have hf05:Fr No wr w5:=(by exact frc:Fr No wr _).trans0 hf5
       have hfw:=hfr3.trans0 hf05
       have hrow8:=hrow.out.keep hf05
       have hfS:Fr No w5 (w5.alloc (.cells #[.string (zbl (zqr x))] 9)):=frc
       have BS:Bx (w5.alloc (.cells #[.string (zbl (zqr x))] 9)) w5.heap.size 9 #[.string (zbl (zqr x))]:=bxc
       have hsS:=Sl.oneStr (X:=No) BS (fun h=>h) (by unfold maxLen;omega)
       have hrow9:=Lib.hid (hrow8.keep hfS)
       have hlw:w2.heap.size≤(w5.alloc (.cells #[.string (zbl (zqr x))] 9)).heap.size:=(hfw.trans0 hfS).size
       have hfwS:=Lib.hid (hfw.trans0 hfS)
       generalize zqr x=TX at *
       clear hrow hrow8 hfw hfS HI hf05 hf5
       go_wp2_with (at_builtin;(refine ztA rfl _ _ rfl w2.heap.size _ QS rfl hrow9.out hrl No _ [zbl TX] rfl hsS (by simp) hlw ?_);(intro v8 w8 hr8 hf8))
       refine⟨⟨j+1,by omega,by simp,Lib.hid ⟨?_,hfwS.out.trans hf8 (fun b hb e=>by omega)⟩⟩,by simp[intOf];omega⟩
       rw[<-hnext.out]
       exact hr8
      ·obtain rfl:j=m.code.length:=by omega
       rw[List.take_length,hfin.out] at hrow
       have hz:=hrow.low (Nat.le_of_lt hnl)
       replace hrow:=Lib.hid hrow
       go_wp2_with fail
       refine bodyPost_ret (results_tmp rfl _ _ _) rfl ?_
       exact⟨_,rfl,hz,hwr.trans0 hfr3⟩
end Go.Proofs.YtmeaibjmnjcdfaaGreatDoor
