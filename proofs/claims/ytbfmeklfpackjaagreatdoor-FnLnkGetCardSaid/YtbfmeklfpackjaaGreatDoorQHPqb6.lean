/- The law FnLnkGet's walk. -/
import Derived.Test.YtbfmeklfpackjaaGreatDoorQHPqbE
import Derived.Test.YtbfmeklfpackjaaGreatDoorQHPqb5
import Derived.Test.YtbfmeklfpackjaaGreatDoorTie
import Derived.Test.YtbfmeklfpackjaaGreatDoorCards
import Derived.ProofKit
import Derived.KernelRfl
import Derived.Below
import Derived.ChangeSame
import Derived.LaidMore
import Derived.LaidHandle
import Derived.Carry
import Derived.Stop.Joined
import Derived.SevenTiedAt
set_option maxHeartbeats 8000000
set_option maxRecDepth 100000
namespace Go.Proofs.YtbfmeklfpackjaaGreatDoor
open Go.RowKit Go.ChangeShapes Go.WideShapes Go.ChangeAt
theorem zvO {p:Plan} {k:Int} {m:Str}:∀(xs:List (Ref×Fld)) (i:Nat),(zjN p k m i xs).2≠1->∃c:Int,zjN p k m i xs=(zd8,c)∧2≤c∧c≤4
 | [],_,_=>⟨3,rfl,by omega,by omega⟩
 | x :: xs,i,h=>by
  rw[zjN] at h ⊢
  split at h
  ·rename_i hn
   split at h
   ·exact absurd rfl h
   ·rename_i hag
    exact⟨4,by rw[if_pos hn,if_neg hag];rfl,by omega,by omega⟩
  ·rename_i hn
   rw[if_neg hn]
   exact zvO xs (i+1) h
theorem zvP {p:Plan} {k:Int} {s m:Str} (h:(zdS p k s m).2≠1):(zdS p k s m).2=2∨(zdS p k s m).2=4:=by
 unfold zdS zdR at h ⊢
 by_cases h1:namB m=true
 ·rw[if_pos h1] at h ⊢
  by_cases h2:(zmD p k s).2=1
  ·rw[if_pos h2] at h ⊢
   by_cases h3:canB p (zmD p k s).1=true
   ·rw[if_pos h3] at h;exact absurd rfl h
   ·rw[if_neg h3];exact .inr rfl
  ·rw[if_neg h2];exact .inl rfl
 ·rw[if_neg h1];exact .inl rfl
theorem zvQ {p:Plan} {k:Int} {s m:Str} (h:(getS p k s m).2≠1):∃c:Int,getS p k s m=(zd8,c)∧2≤c∧c≤4:=by
 unfold getS at h ⊢
 cases hp:lodB p
 ·exact⟨2,rfl,by omega,by omega⟩
 ·rw[hp] at h
  simp only[if_true] at h ⊢
  unfold getB getG at h ⊢
  by_cases h1:(zdS p k s m).2=1
  ·rw[if_pos h1] at h ⊢
   exact zvO _ _ h
  ·rw[if_neg h1]
   have:=zvP h1
   exact⟨_,rfl,by omega,by omega⟩
theorem zvR {p:Plan} {k:Int} {s m:Str} {f:LFld} {kc:Nat} (hgo:zjN p k m 0 (zjB p (zmF p ⟨kc,s⟩).reverse)=(f,1)) (hp:lodB p=true) (hcan:canB p ⟨kc,s⟩=true):∃(j:Nat) (hj:j<(layS p ⟨kc,s⟩).length),f.at_=j∧(layS p ⟨kc,s⟩)[j]=f∧zmJ p k f.of_.keeper f.kind=true∧zem p ⟨kc,s⟩ f.of_=true∧∃(kq iq:Nat),Here p f.of_ kq iq∧kndB f.kind=true∧∀x∈layS p ⟨kc,s⟩,x.of_.name.size≤maxLen∧x.kind.name.size≤maxLen:=by
 obtain⟨j,hj,hag,hf⟩:=zvD _ _ hgo
 have hl:layS p ⟨kc,s⟩=zjH 0 (zjB p (zmF p ⟨(kc:Int),s⟩).reverse):=by unfold layS layB;rw[hp,hcan];rfl
 have hmem:=zjF (List.getElem_mem hj)
 have hall:=zhj hp ⟨(kc:Int),s⟩
 obtain⟨_,kq,iq,hhq⟩:=hall _ (List.mem_reverse.1 hmem.1)
 have hfo:f.of_=((zjB p (zmF p ⟨(kc:Int),s⟩).reverse)[j]).1:=by rw[hf]
 have hfk:f.kind=((zjB p (zmF p ⟨(kc:Int),s⟩).reverse)[j]).2.kind:=by rw[hf]
 refine⟨j,by rw[hl,zjJ];exact hj,by rw[hf];simp,?_,by rw[hfo,hfk];exact hag,?_,kq,iq,by rw[hfo];exact hhq,?_,fun x hx=>zeh hp (fun r hr=>hall r (List.mem_reverse.1 hr)) 0 x (hl▸hx)⟩
 ·simp only[hl]
  rw[zjK _ 0 j hj,hf]
 ·unfold zem
  rw[List.any_eq_true]
  exact⟨_,List.mem_reverse.1 hmem.1,by rw[hfo];exact zjv _⟩
 ·rw[hfk]
  exact(zg2 (hhq.clsB hp) _ hmem.2).2
theorem zvS (v:Value) (bs:List Int) (w:World) (h:Sl No w 1 BytC v bs) (hg:ErrT w):
  Calls Tryz.prog 4 #[v] w (zgm true w):=by
 have HD:=fun W (hW:Fr No w W)=>zvq v bs W (h.keep (R':=BytC) hW zN (fun _ _ _ h=>h))
 obtain⟨Ab,cb,rfl,_,_⟩:=h.form
 clear h
 by_cases hlen:(bs.length:Int) > 1048576
 ·go_enter Tryz.func4,Tryz.ntmps4
  go_wp2
  go_ret
  exact .mk rfl frc
 go_enter Tryz.func4,Tryz.ntmps4
 go_wp2_with (go_at_call 13;refine(HD _ (by exact frc)).mono ?_;rintro e w1 ⟨vp,ks,k,s,m,rfl,hsz,hmz,hS,hf1⟩;refine Hid.out ?_)
 refine Lib.hid ?_
 obtain⟨Ap,cp,rfl,hcp,hcm⟩:=hS.form
 have hS1:Sl No w1 2 (KprC No w1) (.slice Ap ks.length cp) (⟨ks⟩:Plan).keepers:=hS.weaken zN (fun _ _ _ h=>h.weaken zN)
 obtain⟨p,hp⟩:∃p:Plan,p=⟨ks⟩:=⟨_,rfl⟩
 rw[<-hp] at hS1
 replace hp:=Lib.hid hp
 have hsM:s.size≤maxLen:=by unfold maxLen;omega
 have hmM:m.size≤maxLen:=by unfold maxLen;omega
 obtain⟨w2,hw2⟩:∃w2,w2=w1.alloc (.cells #[.slice Ap ks.length cp] 25):=⟨_,rfl⟩
 have hf12:Fr No w1 w2:=hw2▸frc
 have B3:Bx w2 w1.heap.size 25 #[.slice Ap ks.length cp]:=hw2▸bxc
 have hS2:=hS1.keep (R':=KprC No w2) hf12 zN (fun _ _ _ h=>h.keep hf12 zN)
 have hw12:=hf1.trans0 hf12
 have hg2:=hw12.keep0 hg
 clear hf1 hS hS1 HD hf12 hg
 have HK:=fun W (hW:Fr No w2 W)=>hS2.keep (R':=KprC No W) hW zN (fun _ _ _ h=>h.keep hW zN)
 have HG0:=fun W (hW:Fr No w2 W) (k:Int) (s:Str) (hsM:s.size≤maxLen)=>zvy p (.slice Ap ks.length cp) k s m W (HK W hW) hsM hmM (hW.keep0 hg2)
 have HG:=fun W (hW:Fr No w2 W)=>HG0 W hW k s hsM
 replace HG0:=Lib.hid HG0
 have HS:=fun W (hW:Fr No w2 W)=>zvz No p (.slice Ap ks.length cp) k s m W (HK W hW) hsM hmM
 obtain⟨G,hG⟩:∃G,G=getS p k s m:=⟨_,rfl⟩
 rw[<-hG] at HG HS
 obtain⟨⟨⟨gk,gn⟩,ga,⟨gd,gs⟩⟩,gc⟩:=G
 unfold getV lfV at HG HS
 dsimp only at HG HS
 replace hG:=Lib.hid hG
 have hcc:(gc != gc)=false:=by simp
 have p30:=B3.c1
 have p3l:=B3.lt
 go_wp2_with (go_at_call 14;rw[<-hw2];refine(HG _ (Fr.refl _ _)).mono ?_;rintro e w3 ⟨rfl,hf3⟩;refine Hid.out ?_)
 refine Lib.hid ?_
 replace hw2:=Lib.hid hw2
 have p30:=(B3.keep hf3).c1
 have p3l:=(B3.keep hf3).lt
 obtain⟨w4,hw4⟩:∃w4,w4=w3.alloc (.cells #[.int .i64 gk,.string gn,.int .i64 ga,.int .i64 gd,.string gs] 53):=⟨_,rfl⟩
 have hf34:Fr No w3 w4:=hw4▸frc
 have B7:Bx w4 w3.heap.size 53 #[.int .i64 gk,.string gn,.int .i64 ga,.int .i64 gd,.string gs]:=hw4▸bxc
 have q4:=hf3.trans0 hf34
 have HS:=HS w4 q4
 clear hf3 hf34 HG
 go_wp2_with (go_at_call 15;rw[<-hw4];refine HS.mono ?_;rintro e w5 ⟨rfl,hf5⟩;refine Hid.out ?_)
 refine Lib.hid ?_
 replace hw4:=Lib.hid hw4
 have hf56:=(Fr.refl No w5).alloc (.cells #[.int .i64 gk,.string gn,.int .i64 ga,.int .i64 gd,.string gs] 53)
 have B9:Bx (w5.alloc (.cells #[.int .i64 gk,.string gn,.int .i64 ga,.int .i64 gd,.string gs] 53)) w5.heap.size 53 #[.int .i64 gk,.string gn,.int .i64 ga,.int .i64 gd,.string gs]:=bxc
 have q6:=(q4.trans0 hf5).trans0 hf56
 have B76:=(B7.keep hf5).keep hf56
 have B36:=B3.keep q6
 obtain⟨m0,m1,m2,m3,m4⟩:=B76.c5
 have ml:=B76.lt
 obtain⟨n0,n1,n2,n3,n4⟩:=B9.c5
 have nl:=B9.lt
 have p30:=B36.c1
 have p3l:=B36.lt
 clear HS hf5 hf56 q4 B3 B7
 go_upto_if 53 with (fail)
 generalize w5.alloc (.cells #[.int .i64 gk,.string gn,.int .i64 ga,.int .i64 gd,.string gs] 53)=w6 at *
 by_cases hc1:gc=1
 ·subst hc1
  obtain⟨hlp,hkp,kc,ic,hfS,hh,hcan,hgo⟩:=zvF hG.out.symm
  obtain⟨j,hj,hja,hje,hag,hun,kq,iq,hhq,hkd,hsmall⟩:=zvR hgo hlp hcan
  have hgsz:=(hsmall _ (hje▸List.getElem_mem hj)).2
  dsimp only at hja hag hun hhq hkd hgsz
  subst hja
  obtain rfl:gk=(kq:Int):=hhq.1
  have hkq:hasK p (kq:Int)=true:=by have:=hhq.2.1;unfold hasK;simp;omega
  have hkcl:kc<4:=by have:=zbM hlp;have:=hh.2.1;omega
  have hw9:=hw12.trans0 q6
  have HF:=zu9 p (.slice Ap ks.length cp) k s w6 (HK w6 q6) hsM
  rw[hfS] at HF
  unfold refV at HF
  dsimp only at HF
  have HLy:=fun W (hW:Fr No w2 W)=>zvN p (.slice Ap ks.length cp) ⟨kc,s⟩ W (HK W hW) hsM (zdW hkcl)
  have HAg:=fun W (hW:Fr No w2 W)=>zva p (.slice Ap ks.length cp) k kq ⟨gd,gs⟩ W (HK W hW) hgsz hlp hkp hkq hkd hag
  have HUn:=fun W (hW:Fr No w2 W)=>zvK p (.slice Ap ks.length cp) ⟨kc,s⟩ ⟨kq,gn⟩ W (HK W hW) hsM hlp
  rw[hun] at HUn
  have HPc:=fun W (hW:Fr No w2 W)=>zvL p (.slice Ap ks.length cp) W (HK W hW) hlp
  have hcls:=zvJ hlp
  have hund:=Lib.hid (fun(low:Ref) (g:LFld) (h1:canB p low=true) (h2:zem p low ⟨kc,s⟩=true) (h3:getS p low.keeper low.name m=(g,1))=>zvG hG.out.symm hfS h1 h2 h3)
  dsimp only at HLy HAg HUn
  clear hfS hh hcan hgo hag hun hhq hkd hgsz hkp hkq hG hS2 hg2 hw12 B9 n0 n1 n2 n3 n4 nl
  go_wp2_with (go_at_call 9;refine HF.mono ?_;rintro e w7 ⟨rfl,hf7⟩;refine Hid.out ?_)
  refine Lib.hid ?_
  obtain⟨w8,hw8⟩:∃w8,w8=w7.alloc (.cells #[.int .i64 kc,.string s] 29):=⟨_,rfl⟩
  have hf78:Fr No w7 w8:=hw8▸frc
  have B11:Bx w8 w7.heap.size 29 #[.int .i64 kc,.string s]:=hw8▸bxc
  have p30:=(B36.keep hf7).c1
  have p3l:=(B36.keep hf7).lt
  have r8:=hf7.trans0 hf78
  have HLy:=HLy w8 (q6.trans0 r8)
  clear HF hf7 hf78 m0 m1 m2 m3 m4 ml
  go_wp2_with (go_at_call 16;rw[<-hw8];refine HLy.mono ?_;rintro e w9 ⟨v9,rfl,hrow,hf9⟩;refine Hid.out ?_)
  refine Lib.hid ?_
  replace hw8:=Lib.hid hw8
  have hsl:=(zdO hrow hsmall).weaken (Y:=No) zN (fun _ _ _ h=>h)
  obtain⟨Al,cl9,rfl,_,hlm⟩:=hsl.form
  obtain⟨bl9,ol9,rfl,_,d0,d1,d2,d3,d4,_,_⟩:=hsl.lfld hj
  rw[hje] at d0 d1 d2 d3 d4
  dsimp only at d0 d1 d2 d3 d4
  clear hsl hrow hsmall HLy hje
  generalize layS p ⟨(kc:Int),s⟩=L at *
  have r9:=r8.trans0 hf9
  have q9:=q6.trans0 r9
  have B79:=B76.keep r9
  have B39:=B36.keep r9
  have B119:=B11.keep hf9
  have hw10:=hw9.trans0 r9
  have hjl:(j:Int)<(L.length:Int):=by omega
  have hjn:¬(L.length:Int)≤(j:Int):=by omega
  unfold maxLen at hlm
  have dl:=lt_of_cell d0
  have K7:=B79.r5
  have K3:=B39.r1
  have K11:=B119.r2
  have KD:=fun W (hW:Fr No w9 W)=>(⟨hW.keep0 d0,hW.keep0 d1,hW.keep0 d2,hW.keep0 d3,hW.keep0 d4⟩:_∧_∧_∧_∧_)
  have HA9:=fun W (hW:Fr No w9 W)=>HAg W (q9.trans0 hW)
  have HU9:=fun W (hW:Fr No w9 W)=>HUn W (q9.trans0 hW)
  clear B76 B36 B11 hf9 r8 r9 q6 hw9 HAg HUn d0 d1 d2 d3 d4
  go_upto_region 12 with (fail)
  (refine zgc (X:=No) (by kernel_rfl) (by kernel_rfl) ?_)
  (repeat((first|go_big_quiet_skip|(go_big_quiet_want;(apply Exists.intro;refine⟨fun W hW=>?_,?_⟩);(focus (first|exact fqc|(go_simp;first|(first|(go_at_call 12;exact(HA9 W hW).mono (fun _ _ h=>⟨h.1,hW.trans0 h.2⟩))|(go_at_call 17;exact(HU9 W hW).mono (fun _ _ h=>⟨h.1,hW.trans0 h.2⟩))))));go_big_quiet_on));(try simp only[Act.put,lz0,lz1,lz2])));refine wpQuiet_nil ?_
  intro w11 hf11
  have B711:=B79.keep hf11
  have B311:=B39.keep hf11
  have B1111:=B119.keep hf11
  have q11:=q9.trans0 hf11
  have hw11:=hw10.trans0 hf11
  have HPc:=HPc w11 q11
  have p30:=B311.c1
  have p3l:=B311.lt
  clear K7 K3 K11 KD HA9 HU9 B79 B39 B119 q9 hw10 hf11 dl
  go_wp2_with (go_at_call 18;refine HPc.mono ?_;rintro e w12 ⟨v12,rfl,hch,hf12⟩;refine Hid.out ?_)
  refine Lib.hid ?_
  obtain⟨Ac,cc9,rfl,_,hcx⟩:=hch.form
  unfold maxLen at hcx
  have q12:=q11.trans0 hf12
  have B712:=B711.keep hf12
  have B312:=B311.keep hf12
  have B1112:=B1111.keep hf12
  have hw13:=hw11.trans0 hf12
  have hk3:=zbM hlp
  clear HPc q11 hf12 p30 p3l hw11 B711 B311 B1111
  generalize zn6 p 0 p.keepers=xs at *
  go_wp2_with fail
  go_loopw [15] (fun i wr=>∃a:Nat,a≤xs.length∧i=.int .i64 a∧Hid (Fr No w12 wr)) (fun i _=>xs.length-(intOf i).toNat)
  case atStart=>exact⟨0,Nat.zero_le _,rfl,Lib.hid (Fr.refl _ _)⟩
  case round=>
   obtain⟨a,ha,rfl,hI⟩:=hrel
   have f:=hI.out
   replace hI:=Lib.hid hI
   have hw14:=hw13.trans0 f
   by_cases hlt:a<xs.length
   ·have hlt9:(a:Int)<(xs.length:Int):=by omega
    obtain⟨rg,og,rfl,_,g0,g1,_⟩:=(hch.k0 f).ref hlt
    obtain⟨kk,hkk,hke,hnz⟩:=hcls _ (List.getElem_mem hlt)
    generalize xs[a]=r at *
    obtain⟨rk,rn⟩:=r
    dsimp only at hke hnz g0 g1
    subst hke
    have hadd:IntKind.i64.wrap ((a:Int)+1)=((a+1:Nat):Int):=by rw[IntWalk.i64_in _ (by omega)];simp
    have gl:=lt_of_cell g0
    have qr:=q12.trans0 f
    have HLa:=fun W (hW:Fr No wr W)=>zvr p (.slice Ap ks.length cp) ⟨kk,rn⟩ W (HK W (qr.trans0 hW)) hnz (zdW (by omega)) hlp
    have HUn:=fun W (hW:Fr No wr W)=>zvK p (.slice Ap ks.length cp) ⟨kk,rn⟩ ⟨kc,s⟩ W (HK W (qr.trans0 hW)) hnz hlp
    have HGr:=fun W (hW:Fr No wr W)=>HG0.out W (qr.trans0 hW) kk rn hnz
    have hund9:=Lib.hid (fun g h1 h2 h3=>hund.out ⟨kk,rn⟩ g h1 h2 h3)
    dsimp only at HLa HUn
    have K7:=(B712.keep f).r5
    have K3:=(B312.keep f).r1
    have K11:=(B1112.keep f).r2
    have KG:=fun W (hW:Fr No wr W)=>(⟨hW.keep0 g0,hW.keep0 g1⟩:_∧_)
    clear HK HG0 hcls hund hch hnz
    go_upto_region 18 with (fail)
    cases hcb:canB p ⟨kk,rn⟩
    ·rw[hcb] at HLa
     replace hcb:=Lib.hid hcb
     (refine zgc (X:=No) (by kernel_rfl) (by kernel_rfl) ?_)
     (repeat((first|go_big_quiet_skip|(go_big_quiet_want;(apply Exists.intro;refine⟨fun W hW=>?_,?_⟩);(focus (first|exact fqc|(go_simp;first|(first|(go_at_call 19;exact(HLa W hW).mono (fun _ _ h=>⟨h.1,hW.trans0 h.2⟩))))));go_big_quiet_on));(try simp only[Act.put,lz0,lz1,lz2])));refine wpQuiet_nil ?_
     intro w14 hf14
     have fF:=f.trans0 hf14
     clear K7 K3 K11 KG g0 g1 gl HLa HUn HGr f qr hw14
     go_wp2_with fail
     exact⟨⟨a+1,by omega,by simp,Lib.hid fF⟩,by simp[intOf];omega⟩
    ·cases hub:zem p ⟨kk,rn⟩ ⟨kc,s⟩
     ·rw[hcb] at HLa
      rw[hub] at HUn
      replace hcb:=Lib.hid hcb
      replace hub:=Lib.hid hub
      (refine zgc (X:=No) (by kernel_rfl) (by kernel_rfl) ?_)
      (repeat((first|go_big_quiet_skip|(go_big_quiet_want;(apply Exists.intro;refine⟨fun W hW=>?_,?_⟩);(focus (first|exact fqc|(go_simp;first|(first|(go_at_call 19;exact(HLa W hW).mono (fun _ _ h=>⟨h.1,hW.trans0 h.2⟩))|(go_at_call 17;exact(HUn W hW).mono (fun _ _ h=>⟨h.1,hW.trans0 h.2⟩))))));go_big_quiet_on));(try simp only[Act.put,lz0,lz1,lz2])));refine wpQuiet_nil ?_
      intro w14 hf14
      have fF:=f.trans0 hf14
      clear K7 K3 K11 KG g0 g1 gl HLa HUn HGr f qr hw14
      go_wp2_with fail
      exact⟨⟨a+1,by omega,by simp,Lib.hid fF⟩,by simp[intOf];omega⟩
     ·rw[hcb] at HLa
      rw[hub] at HUn
      replace hund9:=Lib.hid (fun g=>hund9.out g hcb hub)
      replace hcb:=Lib.hid hcb
      replace hub:=Lib.hid hub
      (refine zgc (X:=No) (by kernel_rfl) (by kernel_rfl) ?_)
      (repeat((first|go_big_quiet_skip|(go_big_quiet_want;(apply Exists.intro;refine⟨fun W hW=>?_,?_⟩);(focus (first|exact fqc|(go_simp;first|(first|(go_at_call 19;exact(HLa W hW).mono (fun _ _ h=>⟨h.1,hW.trans0 h.2⟩))|(go_at_call 17;exact(HUn W hW).mono (fun _ _ h=>⟨h.1,hW.trans0 h.2⟩))))));go_big_quiet_on));(try simp only[Act.put,lz0,lz1,lz2])));refine wpQuiet_nil ?_
      intro w14 hf14
      have fF:=f.trans0 hf14
      have HG9:=fun W (hW:Fr No w14 W)=>HGr W (hf14.trans0 hW)
      have K7:=((B712.keep f).keep hf14).r5
      have K3:=((B312.keep f).keep hf14).r1
      have KG:=fun W (hW:Fr No w14 W)=>KG W (hf14.trans0 hW)
      obtain⟨G2,hG2⟩:∃G2,G2=getS p (kk:Int) rn m:=⟨_,rfl⟩
      rw[<-hG2] at HG9
      have hund8:∀g,G2=(g,1)->g=⟨⟨kq,gn⟩,j,⟨gd,gs⟩⟩:=fun g h=>hund9.out g (hG2.symm.trans h)
      replace hG2:=Lib.hid hG2
      obtain⟨⟨⟨k2,n2⟩,a2,⟨d2,s2⟩⟩,c2⟩:=G2
      have hcase:(c2=1∧k2=kq∧n2=gn∧a2=j∧d2=gd∧s2=gs)∨(c2 == 1)=false:=by
       by_cases h9:c2=1
       ·subst h9
        have:=hund8 _ rfl
        simp only[LFld.mk.injEq,Ref.mk.injEq,Knd.mk.injEq] at this
        obtain⟨⟨e1,e2⟩,e3,e4,e5⟩:=this
        exact .inl ⟨rfl,e1,e2,e3,e4,e5⟩
       ·exact .inr (beq_eq_false_iff_ne.2 h9)
      unfold getV lfV at HG9
      dsimp only at HG9
      have gl9:=lt_of_cell g0
      have q14:=qr.trans0 hf14
      clear hund8 hund9 K11 HLa HUn HGr f qr hw14 gl g0 g1
      go_upto_region 19 with (fail)
      refine zn0 17 147 [mV (.agg #[.slice Ap ks.length cp]),mV (.slice (some ⟨rg,og,none⟩) xs.length cc9),mV (.int .i64 (a:Int)),mV (.pointer (some ⟨rg,og+a * 2,none⟩)),mV (.pointer (some ⟨rg,og+a * 2,none⟩)),mV (.int .i64 (kk:Int)),mV (.slice (some ⟨rg,og,none⟩) xs.length cc9),mV (.int .i64 (a:Int)),mV (.pointer (some ⟨rg,og+a * 2,none⟩)),mV (.pointer (some ⟨rg,og+a * 2+1,none⟩)),mV (.string rn),mV (.string m),mV (.tuple #[.agg #[.int .i64 k2,.string n2,.int .i64 a2,.int .i64 d2,.string s2],.int .i64 c2]),mV (.tuple #[.agg #[.int .i64 k2,.string n2,.int .i64 a2,.int .i64 d2,.string s2],.int .i64 c2]),mV (.agg #[.int .i64 k2,.string n2,.int .i64 a2,.int .i64 d2,.string s2]),mE (mV (.int .i64 c2)),mB 53 (#[.int .i64 0,.string ⟨#[]⟩,.int .i64 0,.int .i64 0,.string ⟨#[]⟩]) w14.heap.size] (by kernel_rfl) (by kernel_rfl) (by simp) ?_ ?_
      ·refine hc4 ?_ ?_ ?_ ?_ <| hc4 ?_ ?_ ?_ ?_ <| hc4 ?_ ?_ ?_ ?_ <| hc4 ?_ ?_ ?_ ?_ <| hopC ?_ <| hopZ
       all_goals (intro a' W hW hoff hdep;have hbs:=hW.size;have H3:=hoff 3 rfl;have H14:=hoff 14 rfl;have H15:=hoff 15 rfl;have H6:=hoff 6 rfl)
       ·exact nE rfl gx0
       ·refine nE rfl ?_;simp[execOp,Act.eval,H14,go_sem,zaa];exact fr1 rfl
       ·refine nE rfl ?_;simp[execOp,Act.eval,H15,go_sem,zaa];exact fr1 rfl
       ·have D133:_=_:=hdep 1 133 rfl;have D134:_=_:=hdep 2 134 rfl;refine nE rfl ?_;clear hoff hdep;simp[execOp,Act.eval,go_sem,zaa, *];exact fr1 rfl
       ·have D135:_=_:=hdep 3 135 rfl;refine nE rfl ?_;simp[execOp,Act.eval,D135,go_sem,zaa];exact fr1 rfl
       ·have D136:_=_:=hdep 4 136 rfl;refine nE rfl ?_;clear hoff hdep;simp[execOp,Act.eval,go_sem,zaa, *];exact fr1 rfl
       ·refine nE rfl ?_;simp[execOp,Act.eval,H14,go_sem,zaa];exact fr1 rfl
       ·refine nE rfl ?_;simp[execOp,Act.eval,H15,go_sem,zaa];exact fr1 rfl
       ·have D138:_=_:=hdep 6 138 rfl;have D139:_=_:=hdep 7 139 rfl;refine nE rfl ?_;clear hoff hdep;simp[execOp,Act.eval,go_sem,zaa, *];exact fr1 rfl
       ·have D140:_=_:=hdep 8 140 rfl;refine nE rfl ?_;simp[execOp,Act.eval,D140,go_sem,zaa];exact fr1 rfl
       ·have D141:_=_:=hdep 9 141 rfl;refine nE rfl ?_;clear hoff hdep;simp[execOp,Act.eval,go_sem,zaa, *];exact fr1 rfl
       ·refine nE rfl ?_;simp[execOp,Act.eval,H6,go_sem,zaa];exact fr1 rfl
       ·have D132:_=_:=hdep 0 132 rfl;have D137:_=_:=hdep 5 137 rfl;have D142:_=_:=hdep 10 142 rfl;have D143:_=_:=hdep 11 143 rfl;refine nE rfl ?_;simp[Act.eval,D132,D137,D142,D143,go_sem,zaa];exact(HG9 W hW).mono fun e w' h=>⟨_,h.1,h.2,rfl⟩
       ·have D144:_=_:=hdep 12 144 rfl;refine nE rfl ?_;simp[execOp,Act.eval,D144,go_sem,zaa];exact fr1 rfl
       ·have D131:_=_:=hdep 13 131 rfl;refine nE rfl ?_;simp[execOp,Act.eval,D131,go_sem,zaa];exact fr1 rfl
       ·have D131:_=_:=hdep 13 131 rfl;exact yE rfl ⟨.int .i64 c2,fun W=>by simp[execOp,Act.eval,D131,go_sem],rfl,rfl⟩
       ·refine nE rfl ?_;simp[execOp,go_sem,zaa];exact⟨(Fr.refl _ _).alloc _,⟨_,rfl,Bx.new_ rfl,hbs⟩,Nat.le_refl _⟩
      intro vs WR hWR hv hne
      obtain⟨b16,e16,hb16,hl16⟩:=hv 16 (by omega)
      simp only[lz6,List.drop_zero,znP,znL,znK,znR,Nat.zero_add,Nat.reduceAdd,e16]
      simp only[Act.put,lz0,lz1,lz2]
      clear e16 hv
      obtain⟨x0,x1,x2,x3,x4⟩:=hb16.c5
      have xl:=hb16.lt
      have xf:=fun i=>hb16.frozen i
      obtain⟨wS,hwS⟩:∃wS,wS=((((WR.setCell ⟨b16,0,none⟩ (.int .i64 k2)).setCell ⟨b16,1,none⟩ (.string n2)).setCell ⟨b16,2,none⟩ (.int .i64 a2)).setCell ⟨b16,3,none⟩ (.int .i64 d2)).setCell ⟨b16,4,none⟩ (.string s2):=⟨_,rfl⟩
      have hfS:Fr (fun b=>b=b16) WR wS:=hwS▸((((Fr.put1 _ _ _ _).same (Fr.put1 _ _ _ _)).same (Fr.put1 _ _ _ _)).same (Fr.put1 _ _ _ _)).same (Fr.put1 _ _ _ _)
      have BS:Bx wS b16 53 #[.int .i64 k2,.string n2,.int .i64 a2,.int .i64 d2,.string s2]:=hwS▸((((hb16.set_ 0 _).set_ 1 _).set_ 2 _).set_ 3 _).set_ 4 _
      have f15:Fr No w14 wS:=hWR.trans hfS (fun b hb e=>by omega)
      have fF2:=fF.trans0 f15
      have B715:=B712.keep fF2
      obtain⟨m0,m1,m2,m3,m4⟩:=B715.c5
      have ml:=B715.lt
      obtain⟨y0,y1,y2,y3,y4⟩:=BS.c5
      have yl:=BS.lt
      replace BS:=Lib.hid BS
      replace f15:=Lib.hid f15
      clear hne K7 K3 KG HG9 hb16 hfS m0 m1 m2 m3 m4 ml y0 y1 y2 y3 y4 yl
      go_upto_region 20 with (fail)
      rw[<-hwS]
      replace hwS:=Lib.hid hwS
      clear x0 x1 x2 x3 x4 xl xf
      obtain⟨m0,m1,m2,m3,m4⟩:=B715.c5
      have ml:=B715.lt
      obtain⟨y0,y1,y2,y3,y4⟩:=BS.out.c5
      have yl:=BS.out.lt
      clear B712 B312 B1112 BS f15 hG2 B715 fF q14 hcb hub hf14
      rcases hcase with ⟨rfl,rfl,rfl,rfl,rfl,rfl⟩|hcf
      ·go_wp2_with fail
       exact⟨⟨a+1,by omega,by simp,Lib.hid fF2⟩,by simp[intOf];omega⟩
      ·go_wp2_with fail
       exact⟨⟨a+1,by omega,by simp,Lib.hid fF2⟩,by simp[intOf];omega⟩
   ·have hlt9:¬(a:Int)<(xs.length:Int):=by omega
    clear hch hcls hund HG0 HK
    go_wp2_with fail
    go_ret
    exact .mk rfl hw14
 ·obtain⟨c9,hV9,hc2,hc4⟩:=zvQ (p:=p) (k:=k) (s:=s) (m:=m) (by rw[<-hG.out];exact hc1)
  rw[<-hG.out] at hV9
  simp only[zd8,zbH,Prod.mk.injEq,LFld.mk.injEq,Ref.mk.injEq,Knd.mk.injEq] at hV9
  obtain⟨⟨⟨rfl,rfl⟩,rfl,rfl,rfl⟩,rfl⟩:=hV9
  have hne:(gc != 1)=true:=by simpa using hc1
  have hw9:=hw12.trans0 q6
  clear hG hcc hp hcp hcm hsz hmz hsM hmM hS2 B76 B9 B36 q6 hg2 hw12
  go_wp2_with fail
  go_ret
  exact .mk (by simp[*]) hw9
theorem ziE {α:Type}:∀(n:Nat) (p:Nat->α->Prop),(∀i,i<n->∃a,p i a)->∃l:List α,l.length=n∧∀i (hi:i<l.length),p i l[i]
 | 0,_,_=>⟨[],rfl,fun i hi=>absurd hi (by simp)⟩
 | n+1,p,h=>by
  obtain⟨a,ha⟩:=h 0 (by omega)
  obtain⟨l,hl,hp⟩:=ziE n (fun i=>p (i+1)) (fun i hi=>h (i+1) (by omega))
  refine⟨a :: l,by simp[hl],fun i hi=>?_⟩
  cases i with
  | zero=>exact ha
  | succ j=>exact hp j (by simpa using hi)
theorem ziF {α:Type} {R:List Value->α->Prop} {H:Type} {enc:TypeId×Value->H} {P:Program} {W:World} {sp:Nat->Bool} {held:Bool} {t e:TypeId} {sz:Nat} {v:Value} {fuel:Nat} {x:DataW H×List MemPlace}
  (ht:P.underlying t=some (.slice e)) (hc:P.cellsOf e=sz) (hpos:0<sz) (hR:∀fuel cs (y:DataW H×List MemPlace),DataW.trod enc P W 0 sp held fuel e cs=some y->∃a,R cs a)
  (h:DataW.trod enc P W 0 sp held fuel t [v]=some x):∃xs:List α,Sl No W sz R v xs:=by
 rcases DataW.trod_slice ht h with ⟨hv,_⟩ | ⟨a,len,cap,elems,rest,n,_,hv,_,_,hlc,hcm,hel,he,_,_⟩
 ·obtain rfl:=(List.cons.inj hv).1
  exact⟨[],Sl.nil _ _ _ _⟩
 ·obtain rfl:=(List.cons.inj hv).1
  rw[hc] at he
  obtain⟨xs,hxl,hxs⟩:=ziE (α:=α) len (fun i y=>∃cs,R cs y∧cs.length=sz∧∀j,j<sz->W.cell? ((a.add (i * sz)).add j)=cs[j]?) (fun i hi=>by
   have h1:=he i hi
   rw[lz8 (show i<elems.length by omega),Option.bind_eq_some_iff] at h1
   obtain⟨cs,h2,h3⟩:=h1
   obtain⟨y,hy⟩:=hR _ _ _ h3
   obtain⟨_,h4,h5⟩:=World.cells?_some h2
   exact⟨y,cs,hy,h4,h5⟩)
  refine⟨xs,some a,cap,by rw[hxl],by omega,by omega,fun h0=>?_⟩
  have hspot:a.spot=none:=by
   obtain⟨cs,_,hl,hcell⟩:=hxs 0 h0
   have h1:=hcell 0 hpos
   rw[lz8 (show 0<cs.length by omega)] at h1
   have h2:W.cell? a=some cs[0]:=by
    have e:(a.add (0 * sz)).add 0=a:=by simp[Addr.add]
    rwa [e] at h1
   unfold World.cell? at h2
   split at h2
   ·cases hs:a.spot
    ·rfl
    ·rw[hs] at h2;simp at h2
   ·cases h2
  obtain⟨b,off,spot⟩:=a
  dsimp only at hspot
  subst hspot
  refine⟨b,off,rfl,fun h=>h.elim,fun k hk=>?_⟩
  obtain⟨cs,hRc,hl,hcell⟩:=hxs k hk
  refine⟨cs,hRc,hl,fun j hj=>?_⟩
  rw[<-hcell j hj]
  congr 1
  unfold Addr.add
  split<;>split<;>simp_all [Nat.add_assoc]
section
variable {H:Type} {enc:TypeId×Value->H} {W:World} {sp:Nat->Bool} {held:Bool}
end
theorem zvi {H:Type} {enc:TypeId×Value->H} {W:World} {sp:Nat->Bool} {held:Bool} {fuel:Nat} {cs:List Value} {x:DataW H×List MemPlace} (h:DataW.trod enc Tryz.prog W 0 sp held fuel 5 cs=some x):∃k:Int,BytC cs k:=by
 have h9:=DataW.trod_int Tryz.underlying5 h
 obtain⟨n,e0,e1,e2⟩:=h9
 refine⟨n,e0,?_⟩
 simp[Lit.wf] at e2
 have h1:IntKind.u8.min=0:=by decide
 have h2:IntKind.u8.max=255:=by decide
 omega
theorem own:ownKnob Tryz.prog.godebug=none:=by kernel_rfl
theorem laidOut:laidOutB Tryz.prog=true:=by kernel_rfl
theorem zvj:Tryz.prog.globalNamed "errors.errorType"=some 0:=by kernel_rfl
theorem zvk:(Tryz.prog.cutTypes.find? (·.1 == "internal/reflectlite.rtype")).map (·.2)=some 187:=by kernel_rfl
theorem zvl:((List.range 274).filter fun t=>Tryz.prog.rowNamed t [101,114,114,111,114])=[75]:=by kernel_rfl
theorem zvm:Tryz.prog.types.size=274:=by kernel_rfl
theorem zvn {W:World} (h:laidMetH Tryz.prog Rows.fnLnkGetRow.laid W):ErrT W:=by
 have h':laidMet Tryz.prog [] W∧handlesMet Tryz.prog Rows.fnLnkGetRow.laid W:=h
 obtain⟨name,u,ty,e1,e2,e3,e4,e5⟩:=h'.2 _ (List.mem_singleton.2 rfl)
 have en:name=[101,114,114,111,114]:=(Option.some.inj e1).symm
 subst en
 obtain rfl:=Option.some.inj (zvk.symm.trans e2)
 have hm:ty∈(List.range 274).filter fun t=>Tryz.prog.rowNamed t [101,114,114,111,114]:=List.mem_filter.2 ⟨List.mem_range.2 (by rw[<-zvm];exact e3),e4⟩
 rw[zvl] at hm
 obtain rfl:=List.mem_singleton.1 hm
 have hh:typeHandle Tryz.prog 75=.pointer (some ⟨1,75,none⟩):=by kernel_rfl
 rw[hh] at e5
 have h9:=World.var?_cell zvj e5 0
 unfold ErrT
 simpa using h9
noncomputable def laidWorld (os:Os):World:=
 let w0:=World.holding Tryz.prog os ⟨#[],#[],[]⟩
 { w0 with heap:=w0.heap.modify 0 fun
   | .cells _ t frozen=>.cells #[.iface 187 (.agg #[.pointer (some ⟨1,75,none⟩)])] t frozen
   | o=>o }
theorem zvo (os:Os) (args:Array Value):laidMetH Tryz.prog Rows.fnLnkGetRow.laid ((laidWorld os).forCall (fun _ _=>0) ⟨#[],args,[]⟩).memory:=
 laidMetH_of_parts (laidMet_nil _ _) (by kernel_rfl)
section
variable {H:Type} {enc:TypeId×Value->H} {P:Program}
theorem zgp {f:Func} {s:ChangeSpec} {apart fresh handsOn again:Bool} {W W':World} {args:Array Value} {v:Value} {ds gs:List (DataW H)} {before pa pv:List MemPlace}
  (hW:DataW.Whole enc P f.params.toList s.vars apart W args.toList ds gs before)
  (hres:∀(b:Nat) (sp:Nat->Bool) (hd:Bool),DataW.TrodAll enc P W' b sp hd f.resultTypes.toList (v.resultList f.resultTypes.size) (s.fn H (ds ++ gs)).results [])
  (hargs:∀sp:Nat->Bool,(∀p∈before,sp p.block=true)->DataW.TrodAll enc P W' 0 sp true f.params.toList args.toList (s.fn H (ds ++ gs)).args pa)
  (hvars:∀sp:Nat->Bool,(∀p∈before,sp p.block=true)->DataW.TrodVars enc P W' sp s.vars (s.fn H (ds ++ gs)).vars pv)
  (hps:before=pa ++ pv) (hb:Below W.heap.size W W')
  (hok:∀(j:Nat) (t:TypeId) (r:Value),f.resultTypes[j]? =some t->(v.resultList f.resultTypes.size)[j]? =some r->Value.okWide P W' .any 0 t r):
  s.post enc P f apart fresh handsOn again W args v W':=by
 have hlt:∀p∈before,p.block<W.heap.size:=fun p hp=>hW.lt p hp
 have hold:∀p∈before,(fun b=>decide (b<W.heap.size)) p.block=true:=fun p hp=>by simpa using hlt p hp
 refine⟨ds,gs,before,[],pa,pv,hW,hres _ _ _,hargs _ hold,hvars _ hold,World.keptBut_mono (fun p hp=>⟨hp,?_⟩) (hb.frame (·∈before)),fun _=>?_⟩
 ·rw[hps,List.mem_append] at hp
  exact Or.inr hp
 ·obtain⟨_,_,_,_,_,hz,hn⟩:=hW
  refine⟨hok,_,_,([] ++ pa) ++ pv,⟨[] ++ pa,pv,trodAll_append (hargs _ (fun _ _=>rfl)) (hres _ _ _),hvars _ (fun _ _=>rfl),rfl,?_,?_⟩,?_⟩
  ·intro b off hp
   have hin:MemPlace.cell b off∈before:=by rw[hps];simpa using hp
   rw[hb.frozen (hlt _ hin)]
   exact hz b off hin
  ·intro ha
   have:=hn ha
   rw[hps] at this
   simpa using this
  ·intro p hp _
   rw[hps]
   simpa using hp
end
theorem lifted (os:Os) (started:os.Started) (H:Type) (enc:TypeId×Value->H):
  ReturnsInHanded {} Tryz.checked os 4 .any (fun w args=>(Rows.fnLnkGetSpec.pre enc Tryz.prog Tryz.f4 [] false w args∧laidMetH Tryz.prog Rows.fnLnkGetRow.laid w)∧sizedMet enc Tryz.prog Tryz.f4 (OpenSpec.ofChange Rows.fnLnkGetSpec) false w args)
   (Rows.fnLnkGetSpec.post enc Tryz.prog Tryz.f4 false true false false):=by
 refine returnsInHanded_of_change_and (C:=Tryz.checked) (X:=fun w _=>laidMetH Tryz.prog Rows.fnLnkGetRow.laid w) (fun _ _ _ hh h=>h.of_heap hh) own started (by kernel_rfl) Tryz.func4
  (ChangeSpec.witness_at (enc:=enc) (C:=Tryz.checked) (os:=os) (X:=fun w _=>laidMetH Tryz.prog Rows.fnLnkGetRow.laid w) false (laidWorld os) #[.slice none 0 0] 8 rfl (by kernel_rfl) (by kernel_rfl) (by kernel_rfl) (by kernel_rfl) (by kernel_rfl) (zvo os _)) ?_
 intro W base args ds gs before hval0 hW _ _ hL _
 have hg:ErrT W:=zvn hL
 have hval:∀(j:Nat) t v,Tryz.f4.params[j]? =some t->args[j]? =some v->Value.okWide Tryz.prog W .any base t v:=hval0
 have hW':=hW
 obtain⟨p,q,hA0,hV,rfl,hfz,hnd⟩:=hW
 have hA:DataW.TrodAll enc Tryz.prog W 0 (fun _=>true) true Tryz.f4.params.toList args.toList ds p:=hA0
 rw[Tryz.params4] at hA hval
 obtain⟨v0,d0,rfl,rfl,h0⟩:=trodAll_one hA
 obtain⟨rfl,rfl⟩:=trodVars_none hV
 obtain⟨a0,n0,c0,rfl⟩:=okWide_slice Tryz.underlying22 (hval 0 _ v0 rfl rfl)
 have g0:=h0
 obtain⟨fuel0,hf0⟩:=h0
 obtain⟨bs,hbs⟩:=ziF (R:=BytC) Tryz.underlying22 (show Tryz.prog.cellsOf 5=1 by kernel_rfl) (by decide) (fun _ _ _ h=>zvi h) hf0
 clear hA0 hval0
 have hlt:∀x∈p ++ [],x.block<W.heap.size:=fun x hx=>hW'.lt x hx
 refine(zvS _ bs W hbs hg).mono fun e W' ⟨he,hw⟩=>?_
 subst he
 exact⟨_,rfl,zgp (pa:=p) (pv:=[]) hW' (fun _ _ _=>trodAll_mk1 (shut_bool Tryz.underlying4 true))
  (fun sp hsp=>trodAll_mk1
   (WideElems.Trod_stays laidOut (by kernel_rfl) (of_decide_eq_true (by kernel_rfl)) g0 (fun x hx=>hw.below.same (hlt x (by simp[hx]))) (fun x hx=>hsp x (by simp[hx]))))
  (fun _ _=>rfl) (by simp) hw.below (ok_one (by kernel_rfl) rfl (okWide_bool_mk Tryz.underlying4 true))⟩
theorem row_holds:Rows.FnLnkGetSaid:=
 OpenClaim.holds_of_wide 4 Tryz.f4 rfl rfl rfl rfl rfl rfl rfl ⟨rfl,rfl,rfl,rfl,rfl⟩ rfl rfl rfl rfl rfl (by kernel_rfl) Tryz.func4 (by kernel_rfl)
  (of_decide_eq_true (by kernel_rfl)) (by unfold Func.isWrapper;first|(rw[if_pos (by decide +kernel)];kernel_rfl)|(rw[if_neg (by decide +kernel)];exact⟨rfl,rfl⟩))
  (fun os started H enc _=>lifted os started H enc)
theorem lnkGet_holds:Rows.FnLnkGetCardSaid:=
 Claim7.holds_tied_plain_at .later [] [.handle] true (true,"1ff69f33d7a93bdb1e19c48fd6e7faa106e908aadf6f0d4800c839e5f341ef69") true
  row_holds (fun _ h=>by cases h) (by kernel_rfl) (fun _ h=>by cases h) fnLnkGet_row_tie rfl ⟨rfl,rfl⟩ (by kernel_rfl) rfl
  (fun f fn hf hfn=>by
   obtain rfl:f=4:=Option.some.inj ((show Tryz.prog.funcNamed "loop.example/lodgekeeper/laws.FnLnkGet"=some 4 by kernel_rfl).symm.trans hf) |>.symm
   obtain rfl:fn=Tryz.f4:=(Option.some.inj (Tryz.func4.symm.trans hfn)).symm
   exact⟨by kernel_rfl,fun j t ht=>by
    rw[Tryz.params4] at ht
    have h3:t=22:=by
     rcases j with _|j
     ·simpa using ht.symm
     ·simp at ht
    subst h3
    exact(show Tryz.prog.wantsStandIn 22=false by kernel_rfl)⟩)
  (by kernel_rfl)
#print axioms lnkGet_holds
end Go.Proofs.YtbfmeklfpackjaaGreatDoor
