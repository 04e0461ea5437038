/- The program's own machine: a run is begun, or not; nothing is looked at. -/
import Derived.Test.YtmeaibjmnjcdfaaGreatVHPvn5
import Derived.Test.YtmeaibjmnjcdfaaGreatVG48
import Derived.ProofKit
import Derived.KernelRfl
import Derived.Below
import Derived.ChangeSame
import Derived.LaidMore
import Derived.Carry
import Derived.OpenShut
set_option maxHeartbeats 8000000
set_option maxRecDepth 100000
namespace Go.Proofs.YtmeaibjmnjcdfaaGreat
open Go.RowKit Go.ChangeShapes Go.WideShapes Go.ChangeAt
def stZ (c:Int):Value:=.agg #[.int .i64 c,.slice none 0 0,.slice none 0 0,.slice none 0 0,.int .i64 0,.int .i64 0]
def zxw (X:Nat->Prop) (c:Int) (w:World) (e:Ending) (w':World):Prop:=
 (∃A1 n1 c1 A2 n2 c2 A3 n3 c3 a b,e=.returned (.agg #[.int .i64 c,.slice A1 n1 c1,.slice A2 n2 c2,.slice A3 n3 c3,.int .i64 a,.int .i64 b]))∧(c≠1->e=.returned (stZ c))∧Fr X w w'
theorem zxw.zero {X:Nat->Prop} {c:Int} {w w':World} (h:Fr X w w'):zxw X c w (.returned (.agg #[.int .i64 c,.slice none 0 0,.slice none 0 0,.slice none 0 0,.int .i64 0,.int .i64 0])) w':=⟨⟨_,_,_,_,_,_,_,_,_,_,_,rfl⟩,fun _=>rfl,h⟩
theorem zxx (X:Nat->Prop) (mn:Str) (a0:Value) (margs:List Knd) (m2 m4 m5:Int) (m3:Str) (m6 m7:Value) (va:Value) (args:List Int) (w:World) (h:Sl X w 2 KndC a0 margs) (hv:Sl X w 1 OutC va args) (hl3:margs.length≤100) (_:args.length≤1000):
  Calls Tryz.prog 53 #[.agg #[.string mn,a0,.int .i64 m2,.string m3,.int .i64 m4,.int .i64 m5,m6,m7],va] w (Gives (.bool (decide (margs.length=args.length)&&margs.all fun k=>decide (k.kind=1))) w):=by
 obtain⟨A,c,rfl,_,_⟩:=h.form
 obtain⟨A2,c2,rfl,_,_⟩:=hv.form
 obtain⟨B,hB⟩:∃B:Bool,B=(decide (margs.length=args.length)&&margs.all fun k=>decide (k.kind=1)):=⟨_,rfl⟩
 rw[<-hB]
 obtain⟨wA,hwA⟩:∃wA,wA=(w.alloc (.cells #[.string mn,.slice A margs.length c,.int .i64 m2,.string m3,.int .i64 m4,.int .i64 m5,m6,m7] 125)):=⟨_,rfl⟩
 have hfA:Fr No w wA:=hwA▸frc
 have hA:=h.k0 hfA
 clear h hv
 have hI0:Hid (Fr No wA wA∧∀t∈margs.take 0,t.kind=1):=⟨Fr.refl _ _,by simp⟩
 by_cases hl:margs.length=args.length
 ·rw[decide_eq_true hl,Bool.true_and] at hB
  rw[hl] at hwA hA
  rw[hl]
  replace hB:=Lib.hid hB
  replace hl:=Lib.hid hl
  go_enter Tryz.func53,Tryz.ntmps53
  go_wp2_with fail
  rw[<-hwA]
  replace hwA:=Lib.hid hwA
  go_loopw [16] (fun i wr=>∃j:Nat,j≤args.length∧i=.int .i64 j∧Hid (Fr No wA wr∧∀t∈margs.take j,t.kind=1)) (fun i _=>args.length-(intOf i).toNat)
  case atStart=>exact⟨0,Nat.zero_le _,rfl,hI0⟩
  case round=>
   clear hI0
   obtain⟨j,hj,rfl,hI⟩:=hrel
   obtain⟨hfr,hall⟩:=hI.out
   clear hI
   by_cases hlt:j<args.length
   ·have hlm:j<margs.length:=by have:=hl.out;omega
    obtain⟨b,off,rfl,_,k0,k1,_⟩:=(hA.k0 hfr).knd (k:=j) hlm
    have hadd:IntKind.i64.wrap ((j:Int)+1)=((j+1:Nat):Int):=by rw[IntWalk.i64_in _ (by omega)];simp
    have hnext:margs[j].kind=1->Hid (∀t∈margs.take (j+1),t.kind=1):=fun h1=>Lib.hid (fun t ht=>by
     rw[List.take_succ_eq_append_getElem hlm] at ht
     rcases List.mem_append.1 ht with ht|ht
     ·exact hall t ht
     ·rw[List.mem_singleton.1 ht];exact h1)
    have hno:¬margs[j].kind=1->Hid (B=false):=fun h1=>Lib.hid (by
     rw[hB.out,List.all_eq_false]
     exact⟨margs[j],List.getElem_mem hlm,by simpa using h1⟩)
    generalize margs[j]=t at *
    replace hall:=Lib.hid hall
    clear hA hlm
    by_cases hk:t.kind=1
    ·rw[hk] at k0
     have hn2:=hnext hk
     clear hk hnext hno
     go_wp2_with fail
     exact⟨⟨j+1,by omega,by simp,Lib.hid ⟨hfr.trans0 frc,hn2.out⟩⟩,by simp[intOf];omega⟩
    ·have hf:=hno hk
     clear hnext hno
     go_wp2_with fail
     rw[hf.out]
     refine bodyPost_ret (results_tmp rfl _ _ _) rfl ?_
     exact⟨rfl,hfA.trans0 (hfr.trans0 frc)⟩
   ·have hR:B=true:=by
     rw[hB.out,List.all_eq_true]
     intro t ht
     have:=hall t (by rw[List.take_of_length_le (by have:=hl.out;omega)];exact ht)
     simpa using this
    obtain rfl:j=args.length:=by omega
    replace hall:=Lib.hid hall
    clear hA
    go_wp2_with fail
    rw[hR]
    refine bodyPost_ret (results_tmp rfl _ _ _) rfl ?_
    exact⟨rfl,hfA.trans0 hfr⟩
 ·rw[decide_eq_false hl,Bool.false_and] at hB
  subst hB
  go_enter Tryz.func53,Tryz.ntmps53
  go_wp2_with fail
  refine bodyPost_ret (results_tmp rfl _ _ _) rfl ?_
  exact⟨rfl,frc⟩
theorem zxy {X:Nat->Prop} {w0 w5:World} {b:Nat} (hB:Bx w5 b tVSt #[.int .i64 0,.slice none 0 0,.slice none 0 0,.slice none 0 0,.int .i64 0,.int .i64 0]) (hb:w0.heap.size≤b) (hf:Fr X w0 w5):
  ∀W,W=((((((w5.setCell ⟨b,0,none⟩ (.int .i64 4)).setCell ⟨b,1,none⟩ (.slice none 0 0)).setCell ⟨b,2,none⟩ (.slice none 0 0)).setCell ⟨b,3,none⟩ (.slice none 0 0)).setCell ⟨b,4,none⟩ (.int .i64 0)).setCell ⟨b,5,none⟩ (.int .i64 0))->
   Bx W b tVSt #[.int .i64 4,.slice none 0 0,.slice none 0 0,.slice none 0 0,.int .i64 0,.int .i64 0]∧Fr X w0 W:=by
 intro W hW
 have h1:Fr (fun x=>x=b) w5 W:=hW▸(((((Fr.one _ _ _ _).same (Fr.one _ _ _ _)).same (Fr.one _ _ _ _)).same (Fr.one _ _ _ _)).same (Fr.one _ _ _ _)).same (Fr.one _ _ _ _)
 exact⟨hW▸hB.fill6,hf.trans h1 (fun x hx e=>by omega)⟩
theorem zxz (l bl n:Nat) (p:Plan) (k:Int) (s mb:Str) (va:Value) (w:World) (hlg:Lg w l bl n p) (hs:s.size≤maxLen) (h1:¬(zmD p k s).2=1):
  Calls Tryz.prog 26 #[.pointer (some ⟨l,0,none⟩),.bool false,.int .i64 k,.string s,.string mb,va] w (zxw (fun b=>b=bl) 4 w):=by
 have hbl:=hlg.lt
 obtain⟨g,hL0,hgr⟩:=hlg
 have HF:=fun W (hW:Fr No w W)=>find_ok l bl n p g k s W (hL0.keep hW) hs
 obtain⟨⟨⟨rk,rn⟩,c⟩,hq⟩:∃q,q=zmD p k s:=⟨_,rfl⟩
 rw[<-hq] at HF h1
 replace hq:=Lib.hid hq
 dsimp only at h1
 unfold refV at HF
 dsimp only at HF
 obtain⟨wA,hwA⟩:∃wA,wA=w.alloc (.cells #[.int .i64 0,.slice none 0 0,.slice none 0 0,.slice none 0 0,.int .i64 0,.int .i64 0] tVSt):=⟨_,rfl⟩
 have hfA:Fr No w wA:=hwA▸frc
 have BA:=(hwA▸bxc:Bx wA w.heap.size tVSt #[.int .i64 0,.slice none 0 0,.slice none 0 0,.slice none 0 0,.int .i64 0,.int .i64 0])
 go_enter Tryz.func26,Tryz.ntmps26
 go_wp2_with fail
 have HF1:=hwA▸HF wA hfA
 refine HF1.mono ?_
 clear HF1 HF
 rintro e w1 ⟨rfl,hf1⟩
 rw[<-hwA] at hf1
 clear hwA
 have hf1b:=hf1.alloc (.cells #[.int .i64 rk,.string rn] 108)
 have BA1:=BA.keep hf1b
 have HR:=zxy BA1 (Nat.le_refl _) (hfA.trans0 hf1b).of0 (X:=fun b=>b=bl)
 obtain⟨x0,x1,x2,x3,x4,x5⟩:=BA1.c6
 have xf:=fun i=>BA1.frozen i
 have xl:=BA1.lt
 clear BA BA1 hgr
 go_wp2_with fail
 obtain⟨hB9,hf9⟩:=HR _ rfl
 obtain⟨r0,r1,r2,r3,r4,r5⟩:=hB9.c6
 refine bodyPost_ret (v:=.agg #[.int .i64 4,.slice none 0 0,.slice none 0 0,.slice none 0 0,.int .i64 0,.int .i64 0]) (by simp only[results,Tryz.results26];simp[go_sem,r0,r1,r2,r3,r4,r5]) rfl ?_
 exact .zero hf9
theorem zxA (l bl n:Nat) (p:Plan) (k:Int) (s mb:Str) (va:Value) (w:World) (hlg:Lg w l bl n p) (hs:s.size≤maxLen) (hn:n<100000) (r:Ref) (hf:zmD p k s=(r,1)) (hcb:canB p r=false):
  Calls Tryz.prog 26 #[.pointer (some ⟨l,0,none⟩),.bool false,.int .i64 k,.string s,.string mb,va] w (zxw (fun b=>b=bl) 4 w):=by
 have hp:=hlg.ok
 have hbl:=hlg.lt
 have wk:(Lit.int .i64 r.keeper).wf=true:=by
  obtain⟨kc,i,pre,hq,hh,_⟩:=zmH hp (k:=k) (s:=s) (by rw[hf])
  rw[hf] at hq
  obtain rfl:=(Prod.mk.inj hq).1
  exact zb3 (by simp) (by have:=hh.2.1;have:=zbM hp;simp;omega)
 have hrs:r.name.size≤maxLen:=by
  obtain⟨kc,i,pre,hq,hh,_⟩:=zmH hp (k:=k) (s:=s) (by rw[hf])
  rw[hf] at hq
  obtain rfl:=(Prod.mk.inj hq).1
  exact hs
 have hlgA0:=fun W (hW:Fr No w W)=>hlg.keep hW
 obtain⟨g,hL0,hgr⟩:=hlg
 have HF:=fun W (hW:Fr No w W)=>find_ok l bl n p g k s W (hL0.keep hW) hs
 rw[hf] at HF
 obtain⟨wA,hwA⟩:∃wA,wA=w.alloc (.cells #[.int .i64 0,.slice none 0 0,.slice none 0 0,.slice none 0 0,.int .i64 0,.int .i64 0] tVSt):=⟨_,rfl⟩
 have hfA:Fr No w wA:=hwA▸frc
 have BA:=(hwA▸bxc:Bx wA w.heap.size tVSt #[.int .i64 0,.slice none 0 0,.slice none 0 0,.slice none 0 0,.int .i64 0,.int .i64 0])
 have hlgA:=hlgA0 wA hfA
 clear hL0 hgr hf hlgA0
 obtain⟨rk,rn⟩:=r
 dsimp only at wk hrs
 unfold refV at HF
 go_enter Tryz.func26,Tryz.ntmps26
 go_wp2_with fail
 have HF1:=hwA▸HF wA hfA
 refine HF1.mono ?_
 clear HF1 HF
 rintro e w1 ⟨rfl,hf1⟩
 rw[<-hwA] at hf1
 clear hwA
 have hs1:=hf1.size
 have hsA:=hfA.size
 have hAl:=BA.lt
 obtain⟨wB,hwB⟩:∃wB,wB=w1.alloc (.cells #[.int .i64 rk,.string rn] 108):=⟨_,rfl⟩
 have hfB:Fr No w1 wB:=hwB▸frc
 have HC:=zjo l bl n p ⟨rk,rn⟩ wB ((hlgA.keep hf1).keep hfB) hrs wk (by omega)
 unfold zjn at HC
 go_wp2_with fail
 rw[<-hwB]
 replace hwB:=Lib.hid hwB
 rw[hcb] at HC
 refine HC.mono ?_
 clear HC
 rintro e w2 ⟨rfl,hf2,hlg2⟩
 have BA1:=((BA.keep hf1).keep hfB).keepX hf2 (by omega)
 have HR:=zxy BA1 (Nat.le_refl _) (X:=fun b=>b=bl) ((((hfA.trans0 hf1).trans0 hfB).of0).same hf2)
 obtain⟨x0,x1,x2,x3,x4,x5⟩:=BA1.c6
 have xf:=fun i=>BA1.frozen i
 have xl:=BA1.lt
 clear BA BA1 hlgA hlg2
 go_wp2_with fail
 obtain⟨hB9,hf9⟩:=HR _ rfl
 obtain⟨r0,r1,r2,r3,r4,r5⟩:=hB9.c6
 refine bodyPost_ret (v:=.agg #[.int .i64 4,.slice none 0 0,.slice none 0 0,.slice none 0 0,.int .i64 0,.int .i64 0]) (by simp only[results,Tryz.results26];simp[go_sem,r0,r1,r2,r3,r4,r5]) rfl ?_
 exact .zero hf9
theorem zxB (l bl n:Nat) (p:Plan) (k:Int) (s mb:Str) (args:List Int) (va:Value) (w:World) (hlg:Lg w l bl n p) (hs:s.size≤maxLen) (hmb:mb.size≤maxLen) (hn:n<100000) (_:Sl (fun b=>b=bl) w 1 OutC va args) (_:args.length≤1000) (r:Ref) (hf:zmD p k s=(r,1)) (hcb:canB p r=true) (hcall:¬(zd4 p k s mb).2=1):
  Calls Tryz.prog 26 #[.pointer (some ⟨l,0,none⟩),.bool false,.int .i64 k,.string s,.string mb,va] w (zxw (fun b=>b=bl) 4 w):=by
 have hp:=hlg.ok
 have hbl:=hlg.lt
 have wk:(Lit.int .i64 r.keeper).wf=true:=by
  obtain⟨kc,i,pre,hq,hh,_⟩:=zmH hp (k:=k) (s:=s) (by rw[hf])
  rw[hf] at hq
  obtain rfl:=(Prod.mk.inj hq).1
  exact zb3 (by simp) (by have:=hh.2.1;have:=zbM hp;simp;omega)
 have hrs:r.name.size≤maxLen:=by
  obtain⟨kc,i,pre,hq,hh,_⟩:=zmH hp (k:=k) (s:=s) (by rw[hf])
  rw[hf] at hq
  obtain rfl:=(Prod.mk.inj hq).1
  exact hs
 have hlgA0:=fun W (hW:Fr No w W)=>hlg.keep hW
 obtain⟨g,hL0,hgr⟩:=hlg
 have HF:=fun W (hW:Fr No w W)=>find_ok l bl n p g k s W (hL0.keep hW) hs
 rw[hf] at HF
 obtain⟨wA,hwA⟩:∃wA,wA=w.alloc (.cells #[.int .i64 0,.slice none 0 0,.slice none 0 0,.slice none 0 0,.int .i64 0,.int .i64 0] tVSt):=⟨_,rfl⟩
 have hfA:Fr No w wA:=hwA▸frc
 have BA:=(hwA▸bxc:Bx wA w.heap.size tVSt #[.int .i64 0,.slice none 0 0,.slice none 0 0,.slice none 0 0,.int .i64 0,.int .i64 0])
 have hlgA:=hlgA0 wA hfA
 clear hL0 hgr hf hlgA0
 obtain⟨rk,rn⟩:=r
 dsimp only at wk hrs
 unfold refV at HF
 go_enter Tryz.func26,Tryz.ntmps26
 go_wp2_with fail
 have HF1:=hwA▸HF wA hfA
 refine HF1.mono ?_
 clear HF1 HF
 rintro e w1 ⟨rfl,hf1⟩
 rw[<-hwA] at hf1
 clear hwA
 have hs1:=hf1.size
 have hsA:=hfA.size
 have hAl:=BA.lt
 obtain⟨wB,hwB⟩:∃wB,wB=w1.alloc (.cells #[.int .i64 rk,.string rn] 108):=⟨_,rfl⟩
 have hfB:Fr No w1 wB:=hwB▸frc
 have HC:=zjo l bl n p ⟨rk,rn⟩ wB ((hlgA.keep hf1).keep hfB) hrs wk (by omega)
 unfold zjn at HC
 go_wp2_with fail
 rw[<-hwB]
 replace hwB:=Lib.hid hwB
 rw[hcb] at HC
 refine HC.mono ?_
 clear HC
 rintro e w2 ⟨rfl,hf2,hlg2⟩
 have hsB:=hfB.size
 have hs2:=hf2.size
 have hw2:Fr (fun b=>b=bl) w w2:=((hfA.trans0 hf1).trans0 hfB).of0.same hf2
 have HCall:=zd7 l bl (n+1) p k s mb w2 hlg2 hs hmb (by omega)
 unfold zd6 at HCall
 generalize zd4 p k s mb=q at *
 obtain⟨⟨⟨qk,qn⟩,qa⟩,qc⟩:=q
 dsimp only at hcall HCall
 go_wp2_with fail
 refine HCall.mono ?_
 clear HCall
 rintro e w3 ⟨ev,rfl,hev,hf3,hlg3⟩
 obtain⟨eb,rfl,_⟩:=ErrV.some hcall hev
 have hf3b:=hf3.alloc (.cells #[.int .i64 qk,.string qn,.int .i64 qa] 113)
 have BA1:=(((BA.keep hf1).keep hfB).keepX hf2 (by omega)).keepX hf3b (by omega)
 have HR:=zxy BA1 (Nat.le_refl _) (X:=fun b=>b=bl) (hw2.same hf3b)
 obtain⟨x0,x1,x2,x3,x4,x5⟩:=BA1.c6
 have xf:=fun i=>BA1.frozen i
 have xl:=BA1.lt
 clear BA BA1 hlgA hlg2 hlg3 hev
 go_wp2_with fail
 obtain⟨hB9,hf9⟩:=HR _ rfl
 obtain⟨r0,r1,r2,r3,r4,r5⟩:=hB9.c6
 refine bodyPost_ret (v:=.agg #[.int .i64 4,.slice none 0 0,.slice none 0 0,.slice none 0 0,.int .i64 0,.int .i64 0]) (by simp only[results,Tryz.results26];simp[go_sem,r0,r1,r2,r3,r4,r5]) rfl ?_
 exact .zero hf9
theorem zxC (l bl n:Nat) (p:Plan) (k:Int) (s mb:Str) (args:List Int) (va:Value) (w:World) (hlg:Lg w l bl n p) (hs:s.size≤maxLen) (hmb:mb.size≤maxLen) (hn:n<100000) (hv:Sl (fun b=>b=bl) w 1 OutC va args) (hal:args.length≤1000) (r:Ref) (hf:zmD p k s=(r,1)) (hcb:canB p r=true) (hcall:(zd4 p k s mb).2=1) (hsb:zwn (zcG p (zd4 p k s mb).1) args=false):
  Calls Tryz.prog 26 #[.pointer (some ⟨l,0,none⟩),.bool false,.int .i64 k,.string s,.string mb,va] w (zxw (fun b=>b=bl) 4 w):=by
 have hp:=hlg.ok
 have hbl:=hlg.lt
 have wk:(Lit.int .i64 r.keeper).wf=true:=by
  obtain⟨kc,i,pre,hq,hh,_⟩:=zmH hp (k:=k) (s:=s) (by rw[hf])
  rw[hf] at hq
  obtain rfl:=(Prod.mk.inj hq).1
  exact zb3 (by simp) (by have:=hh.2.1;have:=zbM hp;simp;omega)
 have hrs:r.name.size≤maxLen:=by
  obtain⟨kc,i,pre,hq,hh,_⟩:=zmH hp (k:=k) (s:=s) (by rw[hf])
  rw[hf] at hq
  obtain rfl:=(Prod.mk.inj hq).1
  exact hs
 have hlgA0:=fun W (hW:Fr No w W)=>hlg.keep hW
 obtain⟨g,hL0,hgr⟩:=hlg
 have HF:=fun W (hW:Fr No w W)=>find_ok l bl n p g k s W (hL0.keep hW) hs
 rw[hf] at HF
 obtain⟨wA,hwA⟩:∃wA,wA=w.alloc (.cells #[.int .i64 0,.slice none 0 0,.slice none 0 0,.slice none 0 0,.int .i64 0,.int .i64 0] tVSt):=⟨_,rfl⟩
 have hfA:Fr No w wA:=hwA▸frc
 have BA:=(hwA▸bxc:Bx wA w.heap.size tVSt #[.int .i64 0,.slice none 0 0,.slice none 0 0,.slice none 0 0,.int .i64 0,.int .i64 0])
 have hlgA:=hlgA0 wA hfA
 clear hL0 hgr hf hlgA0
 obtain⟨rk,rn⟩:=r
 dsimp only at wk hrs
 unfold refV at HF
 go_enter Tryz.func26,Tryz.ntmps26
 go_wp2_with fail
 have HF1:=hwA▸HF wA hfA
 refine HF1.mono ?_
 clear HF1 HF
 rintro e w1 ⟨rfl,hf1⟩
 rw[<-hwA] at hf1
 clear hwA
 have hs1:=hf1.size
 have hsA:=hfA.size
 have hAl:=BA.lt
 obtain⟨wB,hwB⟩:∃wB,wB=w1.alloc (.cells #[.int .i64 rk,.string rn] 108):=⟨_,rfl⟩
 have hfB:Fr No w1 wB:=hwB▸frc
 have HC:=zjo l bl n p ⟨rk,rn⟩ wB ((hlgA.keep hf1).keep hfB) hrs wk (by omega)
 unfold zjn at HC
 go_wp2_with fail
 rw[<-hwB]
 replace hwB:=Lib.hid hwB
 rw[hcb] at HC
 refine HC.mono ?_
 clear HC
 rintro e w2 ⟨rfl,hf2,hlg2⟩
 have hsB:=hfB.size
 have hs2:=hf2.size
 have hw2:Fr (fun b=>b=bl) w w2:=((hfA.trans0 hf1).trans0 hfB).of0.same hf2
 have HCall:=zd7 l bl (n+1) p k s mb w2 hlg2 hs hmb (by omega)
 unfold zd6 at HCall
 obtain⟨hqs,kq,ix,a,hh,hqa,ha⟩:=zcm hp hcall
 obtain⟨hm1,hm2⟩:=zcn (q:=(zd4 p k s mb).1) hp hh hqa ha
 obtain⟨m1,_,_,m4,m5,_⟩:=ze7 hm2
 rw[hcall] at HCall
 have hke:=hh.1
 generalize(zd4 p k s mb).1=q at *
 obtain⟨⟨qk,qn⟩,qa⟩:=q
 dsimp only at hqs hh hqa ha hm1 hke HCall
 subst hqa hke
 rw[hm1] at hsb m1
 go_wp2_with fail
 refine HCall.mono ?_
 clear HCall
 rintro e w3 ⟨ev,rfl,hev,hf3,hlg3⟩
 obtain rfl:=ErrV.nil hev
 have hs3:=hf3.size
 have hw3:Fr (fun b=>b=bl) w w3:=hw2.same hf3
 obtain⟨g3,hL3,_⟩:=id hlg3
 obtain⟨mcs,⟨vaM,vcd,vmp,rfl,_,_,hA1,hA2,hA3⟩,HMv⟩:=zdQ hL3 hh hqs ha
 clear hL3
 obtain⟨Ad,cd,rfl,_,_⟩:=hA2.form
 obtain⟨Ap,cp,rfl,_,_⟩:=hA3.form
 have hvv:=hv.keep (R':=OutC) hw3 (fun _ h=>h) (fun _ _ _ h=>h)
 generalize hMM:(zbG p ⟨kq,qn⟩).methods[a]=M at *
 have HSt:=fun W (hW:Fr No w3 W)=>zxx (fun b=>b=bl) M.name vaM M.args M.ret.kind M.locals M.stack M.ret.name (.slice Ad M.code.length cd) (.slice Ap M.maps.length cp) va args W (hA1.k0 hW) (hvv.keep (R':=OutC) hW zN (fun _ _ _ h=>h)) (by omega) hal
 unfold zwn at hsb
 rw[hsb] at HSt
 clear hA1 hA2 hA3 hsb hMM hlg2 hlg3 hev
 go_wp2_with (go_at_call 54;(refine(HMv _ frc).mono ?_);(rintro e w4 ⟨rfl,hf4⟩))
 have hfC:Fr No w3 (w3.alloc (.cells #[.int .i64 kq,.string qn,.int .i64 a] 113)):=frc
 have hf34:=hfC.trans0 hf4
 refine(HSt w4 hf34).mono ?_
 rintro e w5 ⟨rfl,hf5⟩
 have hf35:=hf34.trans0 hf5
 have BA1:=((((BA.keep hf1).keep hfB).keepX hf2 (by omega)).keepX hf3 (by omega)).keep hf35
 clear HSt HMv
 have HR:=zxy BA1 (Nat.le_refl _) (X:=fun b=>b=bl) (hw3.trans0 hf35)
 obtain⟨x0,x1,x2,x3,x4,x5⟩:=BA1.c6
 have xf:=fun i=>BA1.frozen i
 have xl:=BA1.lt
 clear BA BA1 hlgA
 go_wp2_with fail
 obtain⟨hB9,hf9⟩:=HR _ rfl
 obtain⟨r0,r1,r2,r3,r4,r5⟩:=hB9.c6
 refine bodyPost_ret (v:=.agg #[.int .i64 4,.slice none 0 0,.slice none 0 0,.slice none 0 0,.int .i64 0,.int .i64 0]) (by simp only[results,Tryz.results26];simp[go_sem,r0,r1,r2,r3,r4,r5]) rfl ?_
 exact .zero hf9
theorem zxD (l bl n:Nat) (p:Plan) (k:Int) (s mb:Str) (args:List Int) (va:Value) (w:World) (hlg:Lg w l bl n p) (hs:s.size≤maxLen) (hmb:mb.size≤maxLen) (hn:n<100000) (hv:Sl (fun b=>b=bl) w 1 OutC va args)
  (r:Ref) (hc:zwk p k s=some r) (hcall:(zd4 p k s mb).2=1) (hsb:zwn (zcG p (zd4 p k s mb).1) args=true):
  Calls Tryz.prog 26 #[.pointer (some ⟨l,0,none⟩),.bool false,.int .i64 k,.string s,.string mb,va] w (zxw (fun b=>b=bl) 1 w):=by
 have hp:=hlg.ok
 have hL:=zw9 hp r
 have hpk:=zw6 hc hcall
 have hbl:=hlg.lt
 obtain⟨hrn,wk,hcb⟩:=zwL hp hc
 have hrs:r.name.size≤maxLen:=by rw[hrn];exact hs
 obtain⟨hqs,kq,ix,a,hh,hqa,ha⟩:=zcm hp hcall
 obtain⟨hm1,hm2⟩:=zcn (q:=(zd4 p k s mb).1) hp hh hqa ha
 obtain⟨m1,_,_,m4,m5,_⟩:=ze7 hm2
 have hf:zmD p k s=(r,1):=by
  unfold zwk at hc
  split at hc
  ·rename_i h1
   split at hc
   ·exact Prod.ext (Option.some.inj hc) h1
   ·cases hc
  ·cases hc
 unfold zwn at hsb
 rw[lz5,decide_eq_true_eq,List.all_eq_true] at hsb
 obtain⟨hsl,hsk⟩:=hsb
 have HCall:=fun n' W (h:Lg W l bl n' p) (hn:n'<999999)=>zd7 l bl n' p k s mb W h hs hmb hn
 unfold zd6 at HCall
 rw[hcall] at HCall
 have hke:=hh.1
 generalize(zd4 p k s mb).1=q at *
 obtain⟨⟨qk,qn⟩,qa⟩:=q
 dsimp only at hqs hh hqa ha hm1 hke HCall
 subst hqa hke
 rw[hm1] at hsl hsk m1 m4 m5
 have hty:=zw8 hp hc hpk ha (args:=args) (by unfold zwn;rw[lz5,decide_eq_true_eq,List.all_eq_true];exact⟨hsl,hsk⟩)
 obtain⟨T,hT⟩:∃T,T=(⟨1,[],[⟨r,zwl p r⟩],[],zwj⟩:St).goes ((⟨1,[],[⟨r,zwl p r⟩],[],zwj⟩:St).frames ++ [⟨⟨⟨kq,qn⟩,a⟩,0,(⟨2,0⟩ :: args.map (⟨1,·⟩)) ++ List.replicate ((zbG p ⟨kq,qn⟩).methods[a].locals.toNat-(⟨2,0⟩ :: args.map (fun x=>(⟨1,x⟩:Val)):List Val).length) zwj,[]⟩]):=⟨_,rfl⟩
 have hsm:SmS T:=by
  rw[hT]
  refine⟨by simp[St.goes],by simp[St.goes,zwl];exact hL,by simp[St.goes],by simp[St.goes],?_⟩
  intro f hf
  simp only[St.goes,List.nil_append,List.mem_singleton] at hf
  subst hf
  simp
  omega
 have hlgA0:=fun W (hW:Fr No w W)=>hlg.keep hW
 have hlgh:=Lib.hid hlg
 obtain⟨g,hL0,hgr⟩:=hlg
 have HF:=fun W (hW:Fr No w W)=>find_ok l bl n p g k s W (hL0.keep hW) hs
 rw[hf] at HF
 obtain⟨wA,hwA⟩:∃wA,wA=w.alloc (.cells #[.int .i64 0,.slice none 0 0,.slice none 0 0,.slice none 0 0,.int .i64 0,.int .i64 0] tVSt):=⟨_,rfl⟩
 have hfA:Fr No w wA:=hwA▸frc
 have BA:=(hwA▸bxc:Bx wA w.heap.size tVSt #[.int .i64 0,.slice none 0 0,.slice none 0 0,.slice none 0 0,.int .i64 0,.int .i64 0])
 have hlgA:=hlgA0 wA hfA
 clear hL0 hgr hc hcall hf hm2 hrn hlgA0
 obtain⟨rk,rn⟩:=r
 dsimp only at wk hrs
 go_enter Tryz.func26,Tryz.ntmps26
 go_wp2_with fail
 have HF1:=hwA▸HF wA hfA
 refine HF1.mono ?_
 clear HF1 HF
 rintro e w1 ⟨rfl,hf1⟩
 rw[<-hwA] at hf1
 clear hwA
 unfold refV
 have hs1:=hf1.size
 have hsA:=hfA.size
 have hAl:=BA.lt
 obtain⟨wB,hwB⟩:∃wB,wB=w1.alloc (.cells #[.int .i64 rk,.string rn] 108):=⟨_,rfl⟩
 have hfB:Fr No w1 wB:=hwB▸frc
 have BR:=(hwB▸bxc:Bx wB w1.heap.size 108 #[.int .i64 rk,.string rn])
 have HC:=zjo l bl n p ⟨rk,rn⟩ wB ((hlgA.keep hf1).keep hfB) hrs wk (by omega)
 unfold zjn at HC
 go_wp2_with fail
 rw[<-hwB]
 replace hwB:=Lib.hid hwB
 rw[hcb] at HC
 refine HC.mono ?_
 clear HC
 rintro e w2 ⟨rfl,hf2,hlg2⟩
 have hsB:=hfB.size
 have hs2:=hf2.size
 have hw1:Fr No w w1:=hfA.trans0 hf1
 have hw2:Fr (fun b=>b=bl) w w2:=(hw1.trans0 hfB).of0.same hf2
 have BR2:=BR.keepX hf2 (by omega)
 go_wp2_with (go_at_call 52;(refine(HCall (n+1) w2 hlg2 (by omega)).mono ?_);(rintro e w3 ⟨ev,rfl,hev,hf3,hlg3⟩);(obtain rfl:=ErrV.nil hev))
 have hs3:=hf3.size
 have hw3:Fr (fun b=>b=bl) w w3:=hw2.same hf3
 have BR3:=BR2.keepX hf3 (by omega)
 obtain⟨g3,hL3,_⟩:=id hlg3
 obtain⟨mcs,⟨vaM,vcd,vmp,rfl,_,_,hA1,hA2,hA3⟩,HMv⟩:=zdQ hL3 hh hqs ha
 clear hL3 HCall
 obtain⟨Ad,cd,rfl,_,_⟩:=hA2.form
 obtain⟨Ap,cp,rfl,_,_⟩:=hA3.form
 have hvv:=hv.keep (R':=OutC) hw3 (fun _ h=>h) (fun _ _ _ h=>h)
 generalize hMM:(zbG p ⟨kq,qn⟩).methods[a]=M at *
 have HSt:=fun W (hW:Fr No w3 W)=>zw0 (fun b=>b=bl) M.name vaM M.args M.ret.kind M.locals M.stack M.ret.name (.slice Ad M.code.length cd) (.slice Ap M.maps.length cp) va args W (hA1.k0 hW) (hvv.keep (R':=OutC) hW zN (fun _ _ _ h=>h)) hsl (fun t ht=>by simpa using hsk t ht) (by omega)
 replace hMM:=Lib.hid hMM
 clear hA1 hA2 hA3 hsk
 go_wp2_with (go_at_call 54;(refine(HMv _ frc).mono ?_);(rintro e w4 ⟨rfl,hf4⟩))
 obtain⟨wC,hwC⟩:∃wC,wC=w3.alloc (.cells #[.int .i64 kq,.string qn,.int .i64 a] 113):=⟨_,rfl⟩
 have hfC:Fr No w3 wC:=hwC▸frc
 have BL:=(hwC▸bxc:Bx wC w3.heap.size 113 #[.int .i64 kq,.string qn,.int .i64 a])
 rw[<-hwC] at hf4
 replace hwC:=Lib.hid hwC
 have hf34:=hfC.trans0 hf4
 have HS4:=HSt w4 hf34
 refine HS4.mono ?_
 clear HS4 HSt HMv
 rintro e w5 ⟨rfl,hf5⟩
 have hf35:=hf34.trans0 hf5
 have hlg5:=hlg3.keep hf35
 have BR5:=BR3.keep hf35
 have BL5:=(BL.keep hf4).keep hf5
 have hs35:=hf35.size
 have hvv5:=hvv.keep (R':=OutC) hf35 zN (fun _ _ _ h=>h)
 obtain⟨wD,hwD⟩:∃wD,wD=w5.alloc (.cells #[.pointer (some ⟨l,0,none⟩),.bool false,.int .i64 1,.slice none 0 0,.slice none 0 0,.slice none 0 0,.int .i64 0,.int .i64 0] zwp):=⟨_,rfl⟩
 have hfD:Fr No w5 wD:=hwD▸frc
 have BMD:=(hwD▸bxc:Bx wD w5.heap.size zwp #[.pointer (some ⟨l,0,none⟩),.bool false,.int .i64 1,.slice none 0 0,.slice none 0 0,.slice none 0 0,.int .i64 0,.int .i64 0])
 have hM0:=zw1 (look:=false) hlg5 (Nat.le_refl _) hfD BMD
 have hE:McE ⟨w5,l,bl,p,false,w5.heap.size⟩:=⟨_,hlg5⟩
 have hCr:=zwK ⟨w5,l,bl,p,false,w5.heap.size⟩ hE _ _ _ wD hM0 ⟨rk,rn⟩ hrs wk (by omega) (by simp) hL
 unfold zwJ at hCr
 obtain⟨t0,t1⟩:=BR5.c2
 have tl:=BR5.lt
 have hsD:=hfD.size
 have BLD:=BL5.keep hfD
 have hBLl:=BL5.lt
 have BAD:Bx wD w.heap.size tVSt #[.int .i64 0,.slice none 0 0,.slice none 0 0,.slice none 0 0,.int .i64 0,.int .i64 0]:=((((((BA.keep hf1).keep hfB).keepX hf2 (by omega)).keepX hf3 (by omega)).keep hf35).keep hfD)
 have hwD5:Fr (fun b=>b=bl) w w5:=hw3.trans0 hf35
 replace hM0:=Lib.hid hM0
 clear BA BR BR2 BR3 BL BL5 BMD
 go_wp2_with fail
 rw[<-hwD]
 replace hwD:=Lib.hid hwD
 refine hCr.mono ?_
 clear hCr t0 t1 tl
 rintro e w6 ⟨rfl,m1',hM6,_,hB6,hf6⟩
 dsimp only[List.length_nil,List.nil_append] at hM6
 have hmb0:mcB ⟨w5,l,bl,p,false,w5.heap.size⟩ ⟨.slice none 0 0,.slice none 0 0,.slice none 0 0,[],[]⟩=[w5.heap.size]:=by unfold mcB;simp[rowB,zf2]
 have hf6':Fr (fun b=>b=bl∨w5.heap.size≤b) wD w6:=hf6.mono (fun b _ e=>e.elim .inl (fun e=>by rw[hmb0,List.mem_singleton] at e;exact .inr (by omega)))
 have hs6:=hf6.size
 have BL6:=BLD.keepX hf6' (by have:=hs3;omega)
 have BA6:=BAD.keepX hf6' (by omega)
 have hvO:=((hvv5.oldX (R':=OutC) (by decide) (fun _ _ _ h=>h)).keep (R':=OutC) hfD zN (fun _ _ _ h=>h)).keep (R':=OutC) hf6' (fun _ h=>h) (fun _ _ _ h=>h)
 rw[show((List.length ([]:List Obj):Nat):Int)=0 from rfl]
 obtain⟨Av,cv,rfl,_,hvl⟩:=hvO.form
 obtain⟨wE,hwE⟩:∃wE,wE=w6.alloc (.cells #[.int .i64 2,.int .i64 0] tVal):=⟨_,rfl⟩
 have hfE:Fr No w6 wE:=hwE▸frc
 have hrow0:zv8 wE (.slice (some ⟨w6.heap.size,0,none⟩) 1 1) [⟨2,0⟩]:=hwE▸RowV.newOne w6 _ 2 [.int .i64 2,.int .i64 0] rfl
 have hmlt:∀b∈mcB ⟨w5,l,bl,p,false,w5.heap.size⟩ m1',b<w6.heap.size:=fun b hb=>hM6.lt hb
 have hI0:Hid (zv8 wE (.slice (some ⟨w6.heap.size,0,none⟩) 1 1) (⟨2,0⟩ :: (args.take 0).map (⟨1,·⟩))∧(∀q,zcP (.slice (some ⟨w6.heap.size,0,none⟩) 1 1)=some q->w6.heap.size≤q)∧Fr (fun b=>w6.heap.size≤b) wE wE):=Lib.hid ⟨hrow0,fun q hq=>by rw[zqC (by decide)] at hq;have:=Option.some.inj hq;omega,Fr.refl _ _⟩
 replace hM6:=Lib.hid hM6
 replace hB6:=Lib.hid hB6
 have hsE:=hfE.size
 clear hvv hvv5 hrow0
 go_wp2_with fail
 rw[<-hwE]
 replace hwE:=Lib.hid hwE
 go_loopw [66,18] (fun i v wr=>∃j:Nat,j≤args.length∧i=.int .i64 j∧Hid (zv8 wr v (⟨2,0⟩ :: (args.take j).map (⟨1,·⟩))∧(∀q,zcP v=some q->w6.heap.size≤q)∧Fr (fun b=>w6.heap.size≤b) wE wr)) (fun i _ _=>args.length-(intOf i).toNat)
 case atStart=>exact⟨0,Nat.zero_le _,rfl,hI0⟩
 case round=>
  clear hI0
  obtain⟨j,hj,rfl,hI⟩:=hrel
  obtain⟨hvr,hvq,hfr⟩:=hI.out
  clear hI
  have hlj:(⟨2,0⟩ :: (args.take j).map (fun x=>(⟨1,x⟩:Val))).length=j+1:=by simp;omega
  by_cases hlt:j<args.length
  ·obtain⟨b,off,rfl,_,o0⟩:=((hvO.keep (R':=OutC) hfE zN (fun _ _ _ h=>h)).keep (R':=OutC) hfr (fun b h=>.inr (by omega)) (fun _ _ _ h=>h)).num hlt
   obtain⟨gv,cv2,hve⟩:=zv8.pos hvr (by simp)
   rw[hlj] at hve
   subst hve
   have htk:(args.take (j+1)).map (fun x=>(⟨1,x⟩:Val))=(args.take j).map (fun x=>(⟨1,x⟩:Val)) ++ [⟨1,args[j]⟩]:=by rw[List.take_succ_eq_append_getElem hlt,List.map_append];rfl
   have hj100:j<100:=by omega
   generalize args[j]=x at *
   generalize hPV:(args.take j).map (fun x=>(⟨1,x⟩:Val))=PV at *
   replace htk:=Lib.hid htk
   replace hlgh:=Lib.hid hlgh
   have hvrh:=Lib.hid hvr
   clear hvr
   go_wp2_with fail
   refine(zwA _ _).mono ?_
   rintro e w7 ⟨rfl,hf7⟩
   simp only[]
   go_at_K
   go_step
   go_step
   go_step
   go_step
   have hs7:=hf7.size
   have hsr:=hfr.size
   have hf78:Fr No w7 (w7.alloc (.cells #[.int .i64 1,.int .i64 x] tVal)):=(Fr.refl No w7).alloc _
   have hrow8:RowV (w7.alloc (.cells #[.int .i64 1,.int .i64 x] tVal)) tVal 2 (.slice (some ⟨gv,0,none⟩) (j+1) cv2) (j+1) ((⟨2,0⟩ :: PV).flatMap zv7):=by
    have:=RowV.keep0 (RowV.keep0 hvrh.out hf7) hf78
    rw[hlj] at this
    exact this
   have hnews:=Lib.hid ((bxc:Bx (w7.alloc (.cells #[.int .i64 1,.int .i64 x] tVal)) w7.heap.size tVal [Value.int .i64 1,.int .i64 x].toArray).news)
   have hfin:=fun(g' cap':Nat) (w8:World) (hrow:RowV w8 tVal 2 (.slice (some ⟨g',0,none⟩) (j+1+1) cap') (j+1+1) ((⟨2,0⟩ :: PV).flatMap zv7 ++ [.int .i64 1,.int .i64 x])) (hgf:Fr (fun b=>zcP (.slice (some ⟨gv,0,none⟩) (j+1) cv2)=some b) (w7.alloc (.cells #[.int .i64 1,.int .i64 x] tVal)) w8) (hor:zcP (.slice (some ⟨gv,0,none⟩) (j+1) cv2)=some g'∨g'=(w7.alloc (.cells #[.int .i64 1,.int .i64 x] tVal)).heap.size) (hcap:j+1+1≤cap')=>
    (show zv8 w8 (.slice (some ⟨g',0,none⟩) (j+1+1) cap') (⟨2,0⟩ :: (args.take (j+1)).map (⟨1,·⟩))∧(∀q,zcP (.slice (some ⟨g',0,none⟩) (j+1+1) cap')=some q->w6.heap.size≤q)∧Fr (fun b=>w6.heap.size≤b) wE w8 from by
     refine⟨?_,fun q hq=>?_,((hfr.trans0 hf7).trans0 hf78).trans hgf (fun b hb e=>hvq b e)⟩
     ·rw[htk.out]
      unfold zv8
      have e1:(⟨2,0⟩ :: (PV ++ [⟨1,x⟩]):List Val).length=j+1+1:=by have:=hlj;simp at this ⊢;omega
      rw[e1,<-List.cons_append,List.flatMap_append]
      exact hrow
     ·rw[zqC (by omega)] at hq
      have:=Option.some.inj hq
      subst this
      rcases hor with h9|h9
      ·exact hvq _ h9
      ·rw[h9];simp;omega)
   obtain⟨j0,hj0,hk0,hk1,hk2⟩:=info_parts zwd
   replace hj0:=Lib.hid hj0
   replace hk0:=Lib.hid hk0
   replace hk1:=Lib.hid hk1
   replace hk2:=Lib.hid hk2
   replace hfin:=Lib.hid hfin
   have hadd:IntKind.i64.wrap ((j:Int)+1)=((j+1:Nat):Int):=by rw[IntWalk.i64_in _ (by omega)];simp
   replace hlj:=Lib.hid hlj
   clear hvq o0
   refine zcS _ rfl _ _ 132 rfl 32 j0 (.agg #[.int .i64 0,.int .i64 0]) 2 16 Tryz.underlying132 hj0.out hk0.out hk1.out hk2.out rfl (by decide) (.slice (some ⟨gv,0,none⟩) (j+1) cv2) (j+1) _ rfl hrow8 ⟨w7.heap.size,0,none⟩ 1 1 [Value.int .i64 1,.int .i64 x] rfl rfl hnews.out (by simp[Value.oneCell']) (by decide) (by unfold maxLen;omega) (by omega) ?_
   intro g2 cap2 w8 hrow9 hcap9 hgf9 hor9
   have hfi:=Lib.hid (hfin.out _ _ _ hrow9 hgf9 hor9 hcap9)
   simp only[Act.put,lz0,lz1,lz2]
   go_wp2_with fail
   exact⟨⟨j+1,by omega,by simp,hfi⟩,by simp[intOf];omega⟩
  ·obtain rfl:j=args.length:=by omega
   rw[List.take_length] at hvr hlj
   have hsr:=hfr.size
   have hMr:McS ⟨w5,l,bl,p,false,w5.heap.size⟩ (n+1+2+1) ⟨1,[],[⟨⟨rk,rn⟩,zwl p ⟨rk,rn⟩⟩],[],zwj⟩ m1' wr:=((hM6.out.keep hE hfE).far hE hfr (fun b hb=>⟨by dsimp only;omega,fun hx=>by have:=hmlt b hx;omega⟩)).mono (by omega)
   have hmM:=hMM.out
   have hEn:=zxv _ hE rfl _ _ m1' wr hMr rfl (by simp) (by simp) kq ix a qn hh hqs ha u18 (⟨2,0⟩ :: args.map (⟨1,·⟩)) hvr (fun q hq=>⟨by have:=hvq q hq;dsimp only;omega,fun hx=>by have:=hmlt q hx;have:=hvq q hq;omega⟩) (by simp) (by rw[hmM,hsl];simp) (by rw[hmM];simp only[List.length_cons,List.length_map];omega) (by rw[hmM];exact m5) (by rw[hmM];omega) (fun x hx hk2=>by
    rcases List.mem_cons.1 hx with rfl|hx
    ·exact⟨0,rfl,by simp⟩
    ·obtain⟨y,_,rfl⟩:=List.mem_map.1 hx
     cases hk2) hty
   dsimp only at hEn
   rw[hmM] at hEn
   rw[<-hT] at hEn
   have hst1:Hid (T.status=1):=Lib.hid (by rw[hT];rfl)
   have hnil:T.status≠1->T.frames=[]:=fun h=>absurd hst1.out h
   clear hty hpk
   have BLr:=(BL6.keep hfE).keepX hfr (by omega)
   have BAr:=(BA6.keep hfE).keepX hfr (by omega)
   obtain⟨z0,z1,z2⟩:=BLr.c3
   have zl:=BLr.lt
   clear hvr hvO hMM
   replace hT:=Lib.hid hT
   go_wp2_with (first
    | (go_at_call 58;(refine hEn.mono ?_);(rintro e w7 ⟨rfl,fs7,m7,hS7,h17,hB7,hf7⟩))
    | (go_at_call 57;(refine(zwM _ hE _ T fs7 m7 w7 hS7 h17 hnil).mono ?_);(rintro e w8 ⟨rfl,m8,hM8,hB8,hf8⟩)))
   have hnw1:∀b∈mcB ⟨w5,l,bl,p,false,w5.heap.size⟩ m1',w5.heap.size≤b:=hM6.out.new
   have hnw7:∀b∈mcB ⟨w5,l,bl,p,false,w5.heap.size⟩ m7,w5.heap.size≤b:=hS7.new
   have hwr:Fr (fun b=>b=bl) w wr:=((((hwD5.trans0 hfD).trans hf6' (fun b hb e=>by omega)).trans0 hfE).trans hfr (fun b hb e=>by omega))
   have hw8:Fr (fun b=>b=bl) w w8:=(hwr.trans hf7 (fun b hb e=>e.elim id (fun e=>by have:=hnw1 b e;omega))).trans hf8 (fun b hb e=>e.elim id (fun e=>by have:=hnw7 b e;omega))
   have BA8:=(BAr.keepX hf7 (fun e=>e.elim (fun e=>by dsimp only at e;omega) (fun e=>by have:=hnw1 _ e;omega))).keepX hf8 (fun e=>e.elim (fun e=>by dsimp only at e;omega) (fun e=>by have:=hnw7 _ e;omega))
   refine(zwZ _ _ T m8 w8 hM8 hsm).mono ?_
   rintro e w9 ⟨⟨cs5,rfl,vf5,vh5,vo5,rfl,hf5',hh5,ho5⟩,hfr9⟩
   obtain⟨A1,c1,rfl,_,_⟩:=hf5'.form
   obtain⟨A2,c2,rfl,_,_⟩:=hh5.form
   obtain⟨A3,c3,rfl,_,_⟩:=ho5.form
   have hB9:=BA8.keep hfr9
   obtain⟨x0,x1,x2,x3,x4,x5⟩:=hB9.c6
   have xf:=fun i=>hB9.frozen i
   have xl:=hB9.lt
   have hw8s:=hw8.size
   have hl8:=BA8.lt
   clear z0 z1 z2 zl BLr BAr BA8
   go_wp2_with fail
   obtain⟨W7,hW7⟩:∃W7,W7=((((((w9.setCell ⟨w.heap.size,0,none⟩ (.int .i64 T.status)).setCell ⟨w.heap.size,1,none⟩ (.slice A1 T.frames.length c1)).setCell ⟨w.heap.size,2,none⟩ (.slice A2 T.heap.length c2)).setCell ⟨w.heap.size,3,none⟩ (.slice A3 T.outs.length c3)).setCell ⟨w.heap.size,4,none⟩ (.int .i64 T.back.kind)).setCell ⟨w.heap.size,5,none⟩ (.int .i64 T.back.n)):=⟨_,rfl⟩
   have B7:Bx W7 w.heap.size tVSt #[.int .i64 T.status,.slice A1 T.frames.length c1,.slice A2 T.heap.length c2,.slice A3 T.outs.length c3,.int .i64 T.back.kind,.int .i64 T.back.n]:=hW7▸hB9.fill6
   have hf7':Fr (fun b=>b=w.heap.size) w9 W7:=hW7▸(((((Fr.one _ _ _ _).same (Fr.one _ _ _ _)).same (Fr.one _ _ _ _)).same (Fr.one _ _ _ _)).same (Fr.one _ _ _ _)).same (Fr.one _ _ _ _)
   rw[<-hW7]
   clear hW7
   obtain⟨r0,r1,r2,r3,r4,r5⟩:=B7.c6
   have rl:=B7.lt
   refine bodyPost_ret (v:=.agg #[.int .i64 T.status,.slice A1 T.frames.length c1,.slice A2 T.heap.length c2,.slice A3 T.outs.length c3,.int .i64 T.back.kind,.int .i64 T.back.n]) (by simp[results,Tryz.results26,go_sem,r0,r1,r2,r3,r4,r5]) rfl ?_
   rw[hst1.out]
   exact⟨⟨_,_,_,_,_,_,_,_,_,_,_,rfl⟩,fun h=>absurd rfl h,(hw8.trans0 hfr9).trans hf7' (fun b hb e=>by omega)⟩
theorem zxE (l bl n:Nat) (p:Plan) (k:Int) (s mb:Str) (args:List Int) (va:Value) (w:World) (hlg:Lg w l bl n p) (hs:s.size≤maxLen) (hmb:mb.size≤maxLen) (hn:n<100000) (hv:Sl (fun b=>b=bl) w 1 OutC va args) (hal:args.length≤1000):
  Calls Tryz.prog 26 #[.pointer (some ⟨l,0,none⟩),.bool false,.int .i64 k,.string s,.string mb,va] w (zxw (fun b=>b=bl) (if zxa p k s mb args then 1 else 4) w):=by
 by_cases h1:(zmD p k s).2=1
 ·cases hcb:canB p (zmD p k s).1
  ·have hg:zxa p k s mb args=false:=by unfold zxa zwk;rw[if_pos h1,hcb];rfl
   rw[hg]
   exact zxA l bl n p k s mb va w hlg hs hn _ (Prod.ext rfl h1) hcb
  ·have hc:zwk p k s=some (zmD p k s).1:=by unfold zwk;rw[if_pos h1,hcb];rfl
   by_cases hcall:(zd4 p k s mb).2=1
   ·cases hsb:zwn (zcG p (zd4 p k s mb).1) args
    ·have hg:zxa p k s mb args=false:=by unfold zxa;rw[hc,hsb];simp
     rw[hg]
     exact zxC l bl n p k s mb args va w hlg hs hmb hn hv hal _ (Prod.ext rfl h1) hcb hcall hsb
    ·have hg:zxa p k s mb args=true:=by unfold zxa;rw[hc,hsb,decide_eq_true hcall];rfl
     rw[hg]
     exact zxD l bl n p k s mb args va w hlg hs hmb hn hv _ hc hcall hsb
   ·have hg:zxa p k s mb args=false:=by unfold zxa;rw[decide_eq_false hcall];simp
    rw[hg]
    exact zxB l bl n p k s mb args va w hlg hs hmb hn hv hal _ (Prod.ext rfl h1) hcb hcall
 ·have hg:zxa p k s mb args=false:=by unfold zxa zwk;rw[if_neg h1];rfl
  rw[hg]
  exact zxz l bl n p k s mb va w hlg hs h1
theorem zxF (p:Plan) (s mb:Str) (args:List Int) (va pv:Value) (w:World) (h:Sl No w 2 (KprC No w) pv p.keepers) (hs:s.size≤maxLen) (hmb:mb.size≤maxLen) (hv:Sl No w 1 OutC va args) (hal:args.length≤1000) (hp:lodB p=true):
  Calls Tryz.prog 6 #[.agg #[pv],.bool false,.int .i64 0,.string s,.string mb,va] w (zxw No (zxb p s mb args) w):=by
 obtain⟨A,cap,rfl,_,_⟩:=h.form
 obtain⟨Av,cv,rfl,_,_⟩:=hv.form
 have hvO:=hv.old (R':=OutC) (by decide) (fun _ _ _ h=>h)
 have hk:hasK p 0=true:=za1 (k:=0) (by have:=zbM hp;omega)
 obtain⟨wA,hwA⟩:∃wA,wA=((w.alloc (.cells #[.slice A p.keepers.length cap] 25)).alloc (.cells #[.int .i64 0,.slice none 0 0,.slice none 0 0,.slice none 0 0,.int .i64 0,.int .i64 0] tVSt)):=⟨_,rfl⟩
 have hfA:Fr No w wA:=hwA▸frc
 have B2:Bx wA (w.heap.size+1) tVSt #[.int .i64 0,.slice none 0 0,.slice none 0 0,.slice none 0 0,.int .i64 0,.int .i64 0]:=hwA▸Bx.new_ (by simp)
 have HN:=zgH p _ wA (h.keep hfA zN (fun _ _ _ h=>h.keep hfA zN))
 unfold zgG at HN
 have l2:=B2.lt
 have hsA:=hfA.size
 obtain⟨ST,hST⟩:∃ST,ST=zxb p s mb args:=⟨_,rfl⟩
 rw[<-hST]
 unfold zxb at hST
 replace hST:=Lib.hid hST
 clear h hv
 rw[hp] at HN
 go_enter Tryz.func6,Tryz.ntmps6
 go_wp2_with fail
 rw[<-hwA]
 replace hwA:=Lib.hid hwA
 refine HN.mono ?_
 clear HN
 rintro e w1 ⟨hf1,⟨hno,_⟩ | ⟨_,l,bl,rfl,hll,hbl,hLo⟩⟩
 ·cases hno
 have hLg:Lg w1 l bl 0 p:=⟨_,hLo,fun _ _ _ h=>by cases h⟩
 have hw1:Fr No w w1:=hfA.trans0 hf1
 have hs1:=hf1.size
 have HH:=fun W (hW:Fr No w1 W)=>zdV (hLg.keep hW) 0
 rw[hk] at HH
 have HN1:=fun W=>zeE s W hs
 have HN2:=fun W=>zeE mb W hmb
 have B21:=B2.keep hf1
 have hvO1:=hvO.keep (R':=OutC) hw1 zN (fun _ _ _ h=>h)
 have hI0:Hid (Fr No w1 w1∧(args.take 0).all numB=true):=⟨Fr.refl _ _,rfl⟩
 -- what is handed back where nothing is done
 have hzero:ST=0->∀w5,Fr No w w5->Bx w5 (w.heap.size+1) tVSt #[.int .i64 0,.slice none 0 0,.slice none 0 0,.slice none 0 0,.int .i64 0,.int .i64 0]->
   ∀W,W=((((((w5.setCell ⟨w.heap.size+1,0,none⟩ (.int .i64 0)).setCell ⟨w.heap.size+1,1,none⟩ (.slice none 0 0)).setCell ⟨w.heap.size+1,2,none⟩ (.slice none 0 0)).setCell ⟨w.heap.size+1,3,none⟩ (.slice none 0 0)).setCell ⟨w.heap.size+1,4,none⟩ (.int .i64 0)).setCell ⟨w.heap.size+1,5,none⟩ (.int .i64 0))->
   Bx W (w.heap.size+1) tVSt #[.int .i64 0,.slice none 0 0,.slice none 0 0,.slice none 0 0,.int .i64 0,.int .i64 0]∧zxw No ST w (.returned (.agg #[.int .i64 0,.slice none 0 0,.slice none 0 0,.slice none 0 0,.int .i64 0,.int .i64 0])) W:=by
  intro h0 w5 hf5 hB5 W hW
  have h1:Fr (fun x=>x=w.heap.size+1) w5 W:=hW▸(((((Fr.one _ _ _ _).same (Fr.one _ _ _ _)).same (Fr.one _ _ _ _)).same (Fr.one _ _ _ _)).same (Fr.one _ _ _ _)).same (Fr.one _ _ _ _)
  rw[h0]
  exact⟨hW▸hB5.fill6,.zero (hf5.trans h1 (fun x hx e=>by omega))⟩
 replace hzero:=Lib.hid hzero
 clear B2 hLo hvO
 replace hST:=hST.out
 cases hn1:namB s
 ·rw[hn1] at HN1 hST
  simp only[Bool.false_and,Bool.false_eq_true,if_false] at hST
  replace hST:=Lib.hid hST
  have hz:=hzero.out hST.out _ hw1 B21
  obtain⟨x0,x1,x2,x3,x4,x5⟩:=B21.c6
  have xf:=fun i=>B21.frozen i
  have xl:=B21.lt
  clear hzero hI0 hvO1 hLg hll hbl
  clear HN2 hn1
  go_wp2_with (first
   | (go_at_call 23;refine(HH _ frc).mono ?_;rintro e w' ⟨rfl,rfl⟩)
   | (go_at_call 24;refine(HN1 _).mono ?_;rintro e w' ⟨rfl,rfl⟩))
  obtain⟨hB9,hf9⟩:=hz _ rfl
  obtain⟨r0,r1,r2,r3,r4,r5⟩:=hB9.c6
  refine bodyPost_ret (v:=.agg #[.int .i64 0,.slice none 0 0,.slice none 0 0,.slice none 0 0,.int .i64 0,.int .i64 0]) (by simp only[results,Tryz.results6];simp[go_sem,r0,r1,r2,r3,r4,r5]) rfl ?_
  exact hf9
 rw[hn1] at HN1 hST
 cases hn2:namB mb
 ·rw[hn2] at HN2 hST
  simp only[Bool.true_and,Bool.false_and,Bool.false_eq_true,if_false] at hST
  replace hST:=Lib.hid hST
  have hz:=hzero.out hST.out _ hw1 B21
  obtain⟨x0,x1,x2,x3,x4,x5⟩:=B21.c6
  have xf:=fun i=>B21.frozen i
  have xl:=B21.lt
  clear hzero hI0 hvO1 hLg hll hbl
  clear hn1 hn2
  go_wp2_with (first
   | (go_at_call 23;refine(HH _ frc).mono ?_;rintro e w' ⟨rfl,rfl⟩)
   | (go_at_call 24;first|(refine(HN1 _).mono ?_;rintro e w' ⟨rfl,rfl⟩;clear HN1)|(refine(HN2 _).mono ?_;rintro e w' ⟨rfl,rfl⟩)))
  obtain⟨hB9,hf9⟩:=hz _ rfl
  obtain⟨r0,r1,r2,r3,r4,r5⟩:=hB9.c6
  refine bodyPost_ret (v:=.agg #[.int .i64 0,.slice none 0 0,.slice none 0 0,.slice none 0 0,.int .i64 0,.int .i64 0]) (by simp only[results,Tryz.results6];simp[go_sem,r0,r1,r2,r3,r4,r5]) rfl ?_
  exact hf9
 rw[hn2] at HN2 hST
 simp only[Bool.true_and] at hST
 replace hST:=Lib.hid hST
 clear hn1 hn2
 go_wp2_with (first
  | (go_at_call 23;refine(HH _ frc).mono ?_;rintro e w' ⟨rfl,rfl⟩)
  | (go_at_call 24;first|(refine(HN1 _).mono ?_;rintro e w' ⟨rfl,rfl⟩;clear HN1)|(refine(HN2 _).mono ?_;rintro e w' ⟨rfl,rfl⟩)))
 clear HH
 go_loopw [39] (fun i wr=>∃j:Nat,j≤args.length∧i=.int .i64 j∧Hid (Fr No w1 wr∧(args.take j).all numB=true)) (fun i _=>args.length-(intOf i).toNat)
 case atStart=>exact⟨0,Nat.zero_le _,rfl,hI0⟩
 case round=>
  clear hI0
  obtain⟨j,hj,rfl,hI⟩:=hrel
  obtain⟨hfr,hall⟩:=hI.out
  clear hI
  have hvr:=hvO1.keep (R':=OutC) hfr zN (fun _ _ _ h=>h)
  have hBr:=B21.keep hfr
  have hwr:=hw1.trans0 hfr
  by_cases hlt:j<args.length
  ·obtain⟨b,off,rfl,_,o0⟩:=hvr.num hlt
   have hadd:IntKind.i64.wrap ((j:Int)+1)=((j+1:Nat):Int):=by rw[IntWalk.i64_in _ (by omega)];simp
   have hnext:=zv4 (f:=numB) (xs:=args) (k:=j) hlt hall
   have hnot:=zv5 (f:=numB) (xs:=args) (k:=j) hlt
   generalize args[j]=x at *
   have HNm:=fun W=>zv6 x W
   replace hall:=Lib.hid hall
   cases hnx:numB x
   ·rw[hnx] at HNm
    have hno:=hnot hnx
    have hST0:ST=0:=by rw[hST.out,hno];rfl
    have hz:=fun w5 (h5:Fr No wr w5)=>hzero.out hST0 w5 (hwr.trans0 h5) (hBr.keep h5)
    have KB:=fun w5 (h5:Fr No wr w5)=>(hBr.keep h5).c6
    have KBf:=fun w5 (h5:Fr No wr w5) i=>(hBr.keep h5).frozen i
    have KBl:=fun w5 (h5:Fr No wr w5)=>(hBr.keep h5).lt
    clear hnx hnext hnot hno hvr hzero hBr hwr
    replace hST0:=Lib.hid hST0
    go_wp2_with (go_at_call 25;refine(HNm _).mono ?_;rintro e w7 ⟨rfl,hf7⟩;obtain⟨x0,x1,x2,x3,x4,x5⟩:=KB w7 hf7;have xf:=KBf w7 hf7;have xl:=KBl w7 hf7)
    obtain⟨hB9,hf9⟩:=hz _ hf7 _ rfl
    obtain⟨r0,r1,r2,r3,r4,r5⟩:=hB9.c6
    refine bodyPost_ret (v:=.agg #[.int .i64 0,.slice none 0 0,.slice none 0 0,.slice none 0 0,.int .i64 0,.int .i64 0]) (by simp only[results,Tryz.results6];simp[go_sem,r0,r1,r2,r3,r4,r5]) rfl ?_
    exact hf9
   ·rw[hnx] at HNm
    have hyes:=Lib.hid (hnext hnx)
    clear hnx hnext hnot hvr hBr hwr
    go_wp2_with (go_at_call 25;refine(HNm _).mono ?_;rintro e w7 ⟨rfl,hf7⟩)
    exact⟨⟨j+1,by omega,by simp,Lib.hid ⟨hfr.trans0 hf7,hyes.out⟩⟩,by simp[intOf];omega⟩
  ·obtain rfl:j=args.length:=by omega
   rw[List.take_length] at hall
   have hS:=zxE l bl 0 p 0 s mb args _ wr (hLg.keep hfr) hs hmb (by omega) (hvr.weaken (Y:=fun b=>b=bl) (fun b e=>by omega) (fun _ _ _ h=>h)) hal
   have hSt:ST=if zxa p 0 s mb args then 1 else 4:=by rw[hST.out,hall];rfl
   rw[<-hSt] at hS
   have hbr:=hBr.lt
   have hsr:=hfr.size
   replace hSt:=Lib.hid hSt
   clear hvr hzero hall
   go_wp2_with fail
   refine hS.mono ?_
   rintro e w5 ⟨⟨A1,n1,c1,A2,n2,c2,A3,n3,c3,a,b,rfl⟩,hvs,hfr5⟩
   replace hvs:=Lib.hid hvs
   have hB5:=hBr.keepX hfr5 (by omega)
   obtain⟨x0,x1,x2,x3,x4,x5⟩:=hB5.c6
   have xf:=fun i=>hB5.frozen i
   have xl:=hB5.lt
   go_wp2_with fail
   obtain⟨W7,hW7⟩:∃W7,W7=((((((w5.setCell ⟨w.heap.size+1,0,none⟩ (.int .i64 ST)).setCell ⟨w.heap.size+1,1,none⟩ (.slice A1 n1 c1)).setCell ⟨w.heap.size+1,2,none⟩ (.slice A2 n2 c2)).setCell ⟨w.heap.size+1,3,none⟩ (.slice A3 n3 c3)).setCell ⟨w.heap.size+1,4,none⟩ (.int .i64 a)).setCell ⟨w.heap.size+1,5,none⟩ (.int .i64 b)):=⟨_,rfl⟩
   have B7:Bx W7 (w.heap.size+1) tVSt #[.int .i64 ST,.slice A1 n1 c1,.slice A2 n2 c2,.slice A3 n3 c3,.int .i64 a,.int .i64 b]:=hW7▸hB5.fill6
   have hf7:Fr (fun b=>b=w.heap.size+1) w5 W7:=hW7▸(((((Fr.one _ _ _ _).same (Fr.one _ _ _ _)).same (Fr.one _ _ _ _)).same (Fr.one _ _ _ _)).same (Fr.one _ _ _ _)).same (Fr.one _ _ _ _)
   rw[<-hW7]
   clear hW7
   obtain⟨r0,r1,r2,r3,r4,r5⟩:=B7.c6
   refine bodyPost_ret (v:=.agg #[.int .i64 ST,.slice A1 n1 c1,.slice A2 n2 c2,.slice A3 n3 c3,.int .i64 a,.int .i64 b]) (by simp only[results,Tryz.results6];simp[go_sem,r0,r1,r2,r3,r4,r5]) rfl ?_
   exact⟨⟨_,_,_,_,_,_,_,_,_,_,_,rfl⟩,hvs.out,(hwr.trans hfr5 (fun b hb e=>by omega)).trans hf7 (fun b hb e=>by omega)⟩
def zxG (n:Int):Raw 1:=⟨[.int .i64 n],rfl⟩
theorem zxH:(Tryz.prog.info? 3).map (fun i=>(i.zero,i.size,i.bytes))=some (some (.int .i64 0),1,8):=by kernel_rfl
theorem zxI:ElT 26 3 1 8:=zqW Tryz.underlying26 zxH rfl (by decide) (by decide)
theorem Sl.intRaws {X:Nat->Prop} {w:World} {v:Value} {xs:List Int} (h:Sl X w 1 IntC v xs):Sl X w 1 RawC v (xs.map zxG):=by
 obtain⟨A,cap,rfl,h1,h2,h3⟩:=h
 refine⟨A,cap,by rw[List.length_map],by rw[List.length_map];exact h1,by rw[List.length_map];exact h2,fun h0=>?_⟩
 rw[List.length_map] at h0
 obtain⟨b,off,rfl,hX,hc⟩:=h3 h0
 refine⟨b,off,rfl,hX,fun k hk=>?_⟩
 rw[List.length_map] at hk
 obtain⟨cs,rfl,hl,hcs⟩:=hc k hk
 exact⟨_,by rw[List.getElem_map];rfl,hl,hcs⟩
theorem zxJ (xs:List Int):OneC (xs.map zxG):=by
 intro u hu
 obtain⟨k,hk,hu⟩:=List.mem_flatMap.1 hu
 obtain⟨x,_,rfl⟩:=List.mem_map.1 hk
 simp only[zxG,List.mem_cons,List.not_mem_nil,or_false] at hu
 subst hu;rfl
theorem zxK (xs:List Int):∀i (h1:i<(xs.map zxG).length) (h2:i<xs.length),OutC ((xs.map zxG)[i].1) xs[i]:=by
 intro i h1 h2
 rw[List.getElem_map]
 rfl
def zxL (n:Nat) (xs:List Int) (y:Int):Value->World->Prop:=fun v W=>∃g c,v=.slice (some ⟨g,0,none⟩) (xs.length+1) c∧Sl (fun b=>b<n) W 1 OutC (.slice (some ⟨g,0,none⟩) (xs.length+1) c) (xs ++ [y])
theorem zxM (n:Nat) (xs:List Int) (y:Int):MonP (zxL n xs y):=fun _ _ _ ⟨g,c,h1,h2⟩ hf=>⟨g,c,h1,h2.k0 hf⟩
theorem zxN {W:World} {a':Act} {o:Oper} {s x:Operand} {N:List PanicEntry->World->Prop} {R:Value->World->Prop} (ho:o.op=.call { callee:=.builtin .append,args:=#[s,x],argTypes:=#[26,26] })
  (n:Nat) (A:Option Addr) (m c:Nat) (xs:List Int) (hs:a'.eval s=.slice A m c) (hm:m=(xs.map zxG).length) (hrow:RowV W 3 1 (.slice A m c) m (rawL (xs.map zxG))) (hq:∀q,zcP (.slice A m c)=some q->n≤q) (hxl:xs.length≤1000)
  (b:Nat) (y:Int) (hx:a'.eval x=.slice (some ⟨b,0,none⟩) 1 1) (hB:Bx W b 3 #[.int .i64 y]) (hn:n≤W.heap.size)
  (k:∀v' W',zxL n xs y v' W'->Fr (fun b=>zcP (.slice A m c)=some b) W W'->R v' W'):zlP Tryz.prog N R ((execOp a'.eval o).run Tryz.prog W):=by
 obtain⟨i0,z,hi,hz0,hz1,hz2,hz3⟩:=zxI.info
 rw[List.length_map] at hm
 subst hm
 obtain⟨g,c',w',hr,h1,h2,h3,h4⟩:=zcR (P:=Tryz.prog) W 26 o.type 3 i0 z 1 8 zxI.und hi hz0 hz1 hz2 hz3 (by decide) _ xs.length (rawL (xs.map zxG)) hrow ⟨b,0,none⟩ 1 1 [.int .i64 y] rfl (Bx.news (cs:=[.int .i64 y]) hB) (by simp[Value.oneCell']) (by decide) (by unfold maxLen;omega) (by omega)
 have hg:n≤g:=h4.elim (fun h=>hq g h) (fun h=>by omega)
 have e:rawL (xs.map zxG) ++ [.int .i64 y]=rawL ((xs ++ [y]).map zxG):=by unfold rawL;simp[zxG]
 rw[e] at h1
 have hl:(xs ++ [y]).length=xs.length+1:=by simp
 unfold execOp
 simp only[ho,resolve,invoke,builtin,Sem.run_bind,Sem.run_pure,Result.andThen_ok,List.map_toArray,List.map_cons,List.map_nil,hs,hx,hr,zlP]
 refine k _ _ ⟨g,c',rfl,?_⟩ h3
 rw[<-hl] at h1 ⊢
 refine RowV.rawSl h1 (by simp) (zxK _) (fun q hq9=>?_)
 rw[zcQ] at hq9
 split at hq9
 ·cases hq9
 ·cases hq9
  exact fun e=>absurd e (Nat.not_lt.2 hg)
def stV9 (c:Int):Value->World->Prop:=fun v _=>∃A1 n1 c1 A2 n2 c2 A3 n3 c3 a b,v=.agg #[.int .i64 c,.slice A1 n1 c1,.slice A2 n2 c2,.slice A3 n3 c3,.int .i64 a,.int .i64 b]
theorem zxO (c:Int):MonP (stV9 c):=fun _ _ _ h _=>h
def zxP (t:TypeId) (W W':World):Prop:=∀b cs,Bx W b t cs->Bx W' b t cs
theorem zxQ {t:TypeId} {cs:Array Value} {base:Nat} {v:Value} {W W':World} (h:atB t cs base v W) (hs:zxP t W W'):atB t cs base v W':=let ⟨b,g1,g2,g3⟩:=h;⟨b,g1,hs b _ g2,g3⟩
def oneI (y:Int) (_:Nat):Value->World->Prop:=fun v W=>∃b,v=.slice (some ⟨b,0,none⟩) 1 1∧Bx W b 3 #[.int .i64 y]
theorem zxR (y:Int) (n:Nat):MonP (oneI y n):=fun _ _ _ ⟨b,h1,h2⟩ hf=>⟨b,h1,h2.keep hf⟩
theorem zxS (w:World):Calls Tryz.prog 7 #[] w (zgm true w):=by
 have H:=fun W=>zeE ⟨#[97]⟩ W (by unfold maxLen;decide)
 have e:namB ⟨#[97]⟩=true:=by decide +kernel
 rw[e] at H
 go_enter Tryz.func7,Tryz.ntmps7
 go_wp2_with (go_at_call 24;refine(H _).mono ?_;rintro e w1 ⟨rfl,rfl⟩)
 go_ret
 exact .mk rfl (Fr.refl _ _)
theorem zxT (v:Value) (bs:List Int) (w:World) (h:Sl No w 1 BytC v bs):
  Calls Tryz.prog 3 #[v] w (zgm true w):=by
 have HD:=fun W (hW:Fr No w W)=>zv1 v bs W (h.keep (R':=BytC) hW zN (fun _ _ _ h=>h))
 obtain⟨Ab,cb,rfl,_,_⟩:=h.form
 clear h
 by_cases hlen:(bs.length:Int) > 1048576
 ·go_enter Tryz.func3,Tryz.ntmps3
  go_wp2
  go_ret
  exact .mk rfl frc
 go_enter Tryz.func3,Tryz.ntmps3
 go_wp2_with (go_at_call 5;refine(HD _ (by exact frc)).mono ?_;rintro e w1 ⟨vp,ks,nm,mb,va,args,rfl,hok,hz1,hz2,hal,hab,hS,hSa,hf1⟩;refine Hid.out ?_)
 refine Lib.hid ?_
 obtain⟨Ap,cp,rfl,hcp,hcm⟩:=hS.form
 obtain⟨Aa,ca,rfl,hca1,hca2⟩:=hSa.form
 have hS1:Sl No w1 2 (KprC No w1) (.slice Ap ks.length cp) (⟨ks⟩:Plan).keepers:=hS.weaken zN (fun _ _ _ h=>h.weaken zN)
 have hSa1:Sl No w1 1 OutC (.slice Aa args.length ca) args:=hSa.weaken zN (fun _ _ _ h=>h)
 have hnM:nm.size≤maxLen:=by unfold maxLen;omega
 have hmM:mb.size≤maxLen:=by unfold maxLen;omega
 obtain⟨w2,hw2⟩:∃w2,w2=w1.alloc (.cells #[.slice Ap ks.length cp] 25):=⟨_,rfl⟩
 have hf12:Fr No w1 w2:=hw2▸frc
 have B3:Bx w2 w1.heap.size 25 #[.slice Ap ks.length cp]:=hw2▸bxc
 have hS2:=hS1.keep (R':=KprC No w2) hf12 zN (fun _ _ _ h=>h.keep hf12 zN)
 have hA2:=hSa1.keep (R':=OutC) hf12 zN (fun _ _ _ h=>h)
 have hw12:=hf1.trans0 hf12
 clear hf1 hS hS1 hSa hSa1 HD hf12
 have HV:=fun(v:Value) (xs:List Int) (hx:xs.length≤1000) W (hW:Fr No w2 W) (hv:Sl No W 1 OutC v xs)=>zxF ⟨ks⟩ nm mb xs v (.slice Ap ks.length cp) W (hS2.keep (R':=KprC No W) hW zN (fun _ _ _ h=>h.keep hW zN)) hnM hmM hv hx hok
 obtain⟨c,hc⟩:∃c,c=zxb ⟨ks⟩ nm mb args:=⟨_,rfl⟩
 have hor:=zxc ⟨ks⟩ nm mb args
 have hH1:=HV _ args (by omega) w2 (Fr.refl _ _) hA2
 rw[<-hc] at hH1 hor
 have p30:=B3.c1
 have p3l:=B3.lt
 replace HV:=Lib.hid HV
 replace hc:=Lib.hid hc
 replace hok:=Lib.hid hok
 go_wp2_with (go_at_call 6;rw[<-hw2];refine hH1.mono ?_;rintro e w3 ⟨⟨A1,n1,c1,A2,n2,c2,A3,n3,c3,a,b,rfl⟩,_,hf3⟩;refine Hid.out ?_)
 refine Lib.hid ?_
 replace hw2:=Lib.hid hw2
 obtain⟨w4,hw4⟩:∃w4,w4=w3.alloc (.cells #[.int .i64 c,.slice A1 n1 c1,.slice A2 n2 c2,.slice A3 n3 c3,.int .i64 a,.int .i64 b] 34):=⟨_,rfl⟩
 have hf24:Fr No w2 w4:=hf3.trans0 (hw4▸frc)
 have B7:Bx w4 w3.heap.size 34 #[.int .i64 c,.slice A1 n1 c1,.slice A2 n2 c2,.slice A3 n3 c3,.int .i64 a,.int .i64 b]:=hw4▸bxc
 have HO:=fun W=>zxS W
 have z0:=B7.cell 0
 have zl:=B7.lt
 clear hH1
 rcases hor with rfl|rfl|rfl
 ·go_wp2_with (go_at_call 7;refine(HO _).mono ?_;rintro e w5 ⟨rfl,hf5⟩)
  go_ret
  exact .mk rfl (by exact frc)
 ·have hn:=zxe hc.out.symm
  have h4:=zxd hc.out.symm (more:=args ++ [1]) (by rw[List.all_append,hn];rfl) (by simp)
  have HV4:=fun v W (hW:Fr No w2 W) (hv:Sl No W 1 OutC v (args ++ [1]))=>HV.out v (args ++ [1]) (by simp;omega) W hW hv
  rw[h4] at HV4
  have HV5:=fun v (xs:List Int) W (hW:Fr No w2 W) (hv:Sl No W 1 OutC v xs) (hx:xs.all numB=true) (hl:xs.length≤1000) (hne:xs.length≠args.length)=>(zxd hc.out.symm (more:=xs) hx hne)▸HV.out v xs hl W hW hv
  replace HV5:=Lib.hid HV5
  replace hn:=Lib.hid hn
  replace HV4:=Lib.hid HV4
  clear h4 HO
  have hA4:=hA2.keep (R':=OutC) hf24 zN (fun _ _ _ h=>h)
  have hraw:=Sl.intRaws hA4
  have hrl:(args.map zxG).length=args.length:=List.length_map ..
  have KP:=fun W (h:Fr No w4 W)=>(B3.keep (hf24.trans0 h)).c1
  have KPl:=fun W (h:Fr No w4 W)=>(B3.keep (hf24.trans0 h)).lt
  go_wp2_with fail
  rw[<-hw4]
  replace hw4:=Lib.hid hw4
  replace hraw:=Lib.hid hraw
  refine znI 10 47 [mV (.agg #[.slice Ap ks.length cp]),mV (.string nm),mV (.string mb),mC (litE) (ztC),mV (.slice Aa args.length ca),mC (cpP 3 (args.map zxG) w4.heap.size) (zrG _ _ _),mC (oneI 1 0) (zxR _ _),mC (zxL w4.heap.size args 1) (zxM _ _ _),mC (stV9 4) (zxO _),mB 34 (#[.int .i64 0,.slice none 0 0,.slice none 0 0,.slice none 0 0,.int .i64 0,.int .i64 0]) w4.heap.size] [mV (.agg #[.slice Ap ks.length cp]),mV (.string nm),mV (.string mb),mT,mV (.slice Aa args.length ca),mT,mT,mC (zxL w4.heap.size args 1) (zxM _ _ _),mC (stV9 4) (zxO _),mB 34 (#[.int .i64 0,.slice none 0 0,.slice none 0 0,.slice none 0 0,.int .i64 0,.int .i64 0]) w4.heap.size] [2,2,2,0,2,0,0,3,1,2] 7 (fun _ _=>False) (fun W=>Fr No w4 W) (zxP 34) (by kernel_rfl) (by kernel_rfl) (by simp) (fun _ _ h hf=>h.trans0 hf) ?_ ?_ ?_ ?_ ?_ ?_
  ·exact fun v W W' hs=>⟨fun _ h=>h,⟨fun _ h=>h,⟨fun _ h=>h,⟨fun _ _=>trivial,⟨fun _ h=>h,⟨fun _ _=>trivial,⟨fun _ _=>trivial,⟨fun h=>absurd h (by decide),⟨fun h=>absurd h (by decide),⟨fun _ h=>zxQ h hs,trivial⟩⟩⟩⟩⟩⟩⟩⟩⟩⟩
  ·refine⟨fun _=>?_,⟨fun _=>?_,⟨fun _=>?_,⟨fun _=>?_,⟨fun _=>?_,⟨fun _=>?_,⟨fun _=>?_,⟨fun h=>absurd h (by decide),⟨fun h=>absurd h (by decide),⟨fun _=>?_,trivial⟩⟩⟩⟩⟩⟩⟩⟩⟩⟩
   all_goals (intro a' W hW hoff hdep;have hbs:=hW.size;have H3:=hoff 3 rfl;have H4:=hoff 4 rfl;have H5:=hoff 5 rfl;have H6:=hoff 6 rfl;refine nE rfl ?_)
   ·clear hoff hdep;simp[execOp,Act.eval,go_sem,zaa, *]
    exact fr1 rfl
   ·simp[execOp,Act.eval,H4,go_sem,zaa]
    exact fr1 rfl
   ·simp[execOp,Act.eval,H5,go_sem,zaa]
    exact fr1 rfl
   ·simp[execOp,go_sem,zaa]
    exact⟨(Fr.refl _ _).alloc _,_,rfl⟩
   ·simp[execOp,Act.eval,H6,go_sem,zaa]
    exact fr1 rfl
   ·obtain⟨b,D41⟩:(litE) _ W:=hdep 3 41 rfl
    have D42:_=_:=hdep 4 42 rfl
    exact zrH zxI rfl (hraw.out.rawKeep hW zN) (by rw[hrl];omega) (zxJ _) D41 D42 hbs
   ·simp[execOp,go_sem,zaa]
    exact⟨(Fr.refl _ _).alloc _,_,rfl,Bx.new_ rfl⟩
   ·simp[execOp,go_sem,zaa]
    exact⟨(Fr.refl _ _).alloc _,⟨_,rfl,Bx.new_ rfl,hbs⟩,Nat.le_refl _⟩
  ·refine⟨fun _=>?_,⟨fun _=>?_,⟨fun _=>?_,⟨fun h=>absurd h (by decide),⟨fun _=>?_,⟨fun h=>absurd h (by decide),⟨fun h=>absurd h (by decide),⟨fun h=>absurd h (by decide),⟨fun _=>?_,⟨fun _=>?_,trivial⟩⟩⟩⟩⟩⟩⟩⟩⟩⟩
   all_goals (intro a' W hW hoff hdep;have hbs:=(fun _ h=>h.size) W hW;have H3:=hoff 3 rfl;have H4:=hoff 4 rfl;have H5:=hoff 5 rfl;have H6:=hoff 6 rfl;refine nE rfl ?_)
   ·clear hoff hdep;simp[execOp,Act.eval,go_sem,zaa, *]
    exact fr1 rfl
   ·simp[execOp,Act.eval,H4,go_sem,zaa]
    exact fr1 rfl
   ·simp[execOp,Act.eval,H5,go_sem,zaa]
    exact fr1 rfl
   ·simp[execOp,Act.eval,H6,go_sem,zaa]
    exact fr1 rfl
   ·have D38:_=_:=hdep 0 38 rfl
    have D39:_=_:=hdep 1 39 rfl
    have D40:_=_:=hdep 2 40 rfl
    obtain⟨g,c,D45,hS⟩:(zxL w4.heap.size args 1) _ W:=hdep 7 45 rfl
    simp[Act.eval,D38,D39,D40,D45,go_sem,zaa]
    exact(HV4.out _ _ (hf24.trans0 hW) (hS.weaken zN (fun _ _ _ h=>h))).mono (by rintro e w9 ⟨⟨A1,n1,c1,A2,n2,c2,A3,n3,c3,a,b,rfl⟩,_,hf9⟩;exact⟨_,rfl,hf9,A1,n1,c1,A2,n2,c2,A3,n3,c3,a,b,rfl⟩)
   ·simp[execOp,go_sem,zaa]
    exact⟨(Fr.refl _ _).alloc _,⟨_,rfl,Bx.new_ rfl,hbs⟩,Nat.le_refl _⟩
  ·intro o r ho hr a' W hW hoff hdep
   have hbs:=hW.size
   cases ho;cases hr
   obtain⟨A0,c0,D43,hA0,hq0⟩:(cpP 3 (args.map zxG) w4.heap.size) _ W:=hdep 5 43 rfl
   obtain⟨b,D44,hB⟩:(oneI 1 0) _ W:=hdep 6 44 rfl
   exact zxN rfl w4.heap.size _ _ _ args D43 rfl hA0 hq0 (by omega) _ 1 D44 hB hbs (fun v' W' h1 h2=>⟨hW.trans h2 (fun b h3 h4=>by have:=hq0 b h4;omega),fun b cs hb=>hb.keepX h2 (fun e=>RowV.ne hA0 hb (by decide) e rfl),h1⟩)
  ·exact fun _ _ _ _ h=>h.elim
  intro vs WR hWR hv hne
  obtain⟨gR7,cR7,e7,hSR7⟩:=hv 7 (by omega)
  obtain⟨A1R8,n1R8,c1R8,A2R8,n2R8,c2R8,A3R8,n3R8,c3R8,aR8,bR8,e8⟩:=hv 8 (by omega)
  obtain⟨b9,e9,hb9,hl9⟩:=hv 9 (by omega)
  simp only[lz6,List.drop_zero,znP,znM,znF,znK,znR,Nat.zero_add,Nat.reduceAdd,e7,e8,e9]
  simp only[Act.put,lz0,lz1,lz2]
  clear e7 e8 e9 hv
  clear hne hSR7 HV4 KP KPl hraw hrl
  have hS5:=hA4.keep (R':=OutC) hWR zN (fun _ _ _ h=>h)
  have KP:=fun W (h:Fr (fun x=>x=b9) WR W)=>((B3.keep (hf24.trans0 hWR)).keepX h (by have:=B3.lt;have:=hf24.size;omega)).c1
  have KPl:=fun W (h:Fr (fun x=>x=b9) WR W)=>((B3.keep (hf24.trans0 hWR)).keepX h (by have:=B3.lt;have:=hf24.size;omega)).lt
  obtain⟨x0,x1,x2,x3,x4,x5⟩:=hb9.c6
  have xf:=fun i=>hb9.frozen i
  have xl:=hb9.lt
  go_wp2_with fail
  obtain⟨W7,hW7⟩:∃W7,W7=((((((WR.setCell ⟨b9,0,none⟩ (.int .i64 4)).setCell ⟨b9,1,none⟩ (.slice A1R8 n1R8 c1R8)).setCell ⟨b9,2,none⟩ (.slice A2R8 n2R8 c2R8)).setCell ⟨b9,3,none⟩ (.slice A3R8 n3R8 c3R8)).setCell ⟨b9,4,none⟩ (.int .i64 aR8)).setCell ⟨b9,5,none⟩ (.int .i64 bR8)):=⟨_,rfl⟩
  have hf7:Fr (fun b=>b=b9) WR W7:=hW7▸(((((Fr.one _ _ _ _).same (Fr.one _ _ _ _)).same (Fr.one _ _ _ _)).same (Fr.one _ _ _ _)).same (Fr.one _ _ _ _)).same (Fr.one _ _ _ _)
  rw[<-hW7]
  have hfw7:Fr No w4 W7:=hWR.trans hf7 (fun b hb e=>by omega)
  have B37:=(B3.keep hf24).keep hfw7
  have KQ:=fun W (h:Fr No W7 W)=>(B37.keep h).c1
  have KQl:=fun W (h:Fr No W7 W)=>(B37.keep h).lt
  have hw7:=(hw12.trans0 hf24).trans0 hfw7
  have hf27:=hf24.trans0 hfw7
  clear KP KPl x0 x1 x2 x3 x4 x5 xf xl hb9 hf7
  replace hW7:=Lib.hid hW7
  by_cases h0:args.length=0
  ·rw[h0]
   (refine zgc (X:=No) (by kernel_rfl) (by kernel_rfl) ?_)
   (repeat((first|go_big_quiet_skip|(go_big_quiet_want;(apply Exists.intro;refine⟨fun W hW=>?_,?_⟩);(focus (exact fqc));go_big_quiet_on));(try simp only[Act.put,lz0,lz1,lz2])));refine wpQuiet_nil ?_
   intro w8 hf8
   go_wp2_with fail
   go_ret
   exact .mk rfl (hw7.trans0 hf8)
  ·have h1:args.length=1:=by omega
   obtain⟨bA,oA,cs,hAe,_,_,_⟩:=hS5.cells (k:=0) (by omega)
   subst hAe
   have HV6:=fun(A:Option Addr) (c:Nat) W (hW:Fr No W7 W)=>HV5.out (.slice A 0 c) [] W (hf27.trans0 hW) ⟨A,c,rfl,Nat.zero_le _,Nat.zero_le _,fun h=>absurd h (by simp)⟩ rfl (by simp) (by simp;omega)
   have hfd:∀W,(Instr.field 34 (.agg #[.int .i64 4,.slice none 0 0,.slice none 0 0,.slice none 0 0,.int .i64 0,.int .i64 0]) 0).run Tryz.prog W=.ok (.int .i64 4) W:=fun W=>by simp[Instr.field,asAgg,go_sem,underlying]
   rw[h1]
   rw[h1] at hca1
   replace HV5:=Lib.hid HV5
   clear hS5 hA2 hA4 hS2
   by_cases hc9:ca=1
   ·subst hc9
    (refine zgc (X:=No) (by kernel_rfl) (by kernel_rfl) ?_)
    (repeat((first|go_big_quiet_skip|(go_big_quiet_want;(apply Exists.intro;refine⟨fun W hW=>?_,?_⟩);(focus (first|exact fqc|(go_simp;first|(go_at_call 6;exact(HV6 _ _ W hW).mono (fun _ _ h=>⟨h.2.1 (by decide),hW.trans0 h.2.2⟩)))));go_big_quiet_on));(try simp only[Act.put,lz0,lz1,lz2])));refine wpQuiet_nil ?_
    intro w8 hf8
    go_wp2_with fail
    go_ret
    exact .mk rfl (hw7.trans0 hf8)
   ·have hc8:¬(1:Int)=ca:=by omega
    (refine zgc (X:=No) (by kernel_rfl) (by kernel_rfl) ?_)
    (repeat((first|go_big_quiet_skip|(go_big_quiet_want;(apply Exists.intro;refine⟨fun W hW=>?_,?_⟩);(focus (first|exact fqc|(go_simp;first|(go_at_call 6;exact(HV6 _ _ W hW).mono (fun _ _ h=>⟨h.2.1 (by decide),hW.trans0 h.2.2⟩)))));go_big_quiet_on));(try simp only[Act.put,lz0,lz1,lz2])));refine wpQuiet_nil ?_
    intro w8 hf8
    go_wp2_with fail
    go_ret
    exact .mk rfl (hw7.trans0 hf8)
 ·go_wp2_with (go_at_call 7;refine(HO _).mono ?_;rintro e w5 ⟨rfl,hf5⟩)
  go_ret
  exact .mk rfl (by exact frc)
theorem zlX {a b:Bool} (h:a=true) (k:b=true):(a&&b)=true:=by rw[h,k];rfl
theorem zlY:Tryz.pinned.checked.prog.mayEnter=true:=by kernel_rfl
theorem zlZ:(Rows.fnVmArgsRow.lifted == Tryz.pinned.checked.prog.liftsFinal)=true:=by kernel_rfl
theorem zl0:(Tryz.pinned.checked.prog.make == some Rows.fnVmArgsRow.make)=true:=by kernel_rfl
theorem zl1:Tryz.pinned.checked.prog.stopsHeard=true:=by kernel_rfl
theorem zl2:laidOutB Tryz.pinned.checked.prog=true:=by kernel_rfl
theorem zl3:mapsRowed Tryz.pinned.checked.prog=true:=by kernel_rfl
theorem zl4:(Rows.fnVmArgsRow.named == Tryz.pinned.checked.prog.varsNamed 3)=true:=by kernel_rfl
theorem zl5:(Rows.fnVmArgsRow.recurses == Tryz.pinned.checked.prog.recurses 3)=true:=by kernel_rfl
theorem zl6:(Rows.fnVmArgsRow.unfollowed == Tryz.pinned.checked.prog.unfollowed 3)=true:=by kernel_rfl
theorem zl7:(Rows.fnVmArgsRow.inPlace == Tryz.pinned.checked.prog.inPlace 3)=true:=by kernel_rfl
theorem zvi {H:Type} {enc:TypeId×Value->H} {W:World} {sp:Nat->Bool} {held:Bool} {fuel:Nat} {cs:List Value} {x:DataW H×List MemPlace} (h:DataW.trod enc Tryz.prog W 0 sp held fuel 5 cs=some x):∃k:Int,BytC cs k:=by
 have h9:=DataW.trod_int Tryz.underlying5 h
 obtain⟨n,e0,e1,e2⟩:=h9
 refine⟨n,e0,?_⟩
 simp[Lit.wf] at e2
 have h1:IntKind.u8.min=0:=by decide
 have h2:IntKind.u8.max=255:=by decide
 omega
theorem own:ownKnob Tryz.prog.godebug=none:=by kernel_rfl
theorem laidOut:laidOutB Tryz.prog=true:=by kernel_rfl
section
variable {H:Type} {enc:TypeId×Value->H} {P:Program}
theorem zgp {f:Func} {s:ChangeSpec} {apart fresh handsOn again:Bool} {W W':World} {args:Array Value} {v:Value} {ds gs:List (DataW H)} {before pa pv:List MemPlace}
  (hW:DataW.Whole enc P f.params.toList s.vars apart W args.toList ds gs before)
  (hres:∀(b:Nat) (sp:Nat->Bool) (hd:Bool),DataW.TrodAll enc P W' b sp hd f.resultTypes.toList (v.resultList f.resultTypes.size) (s.fn H (ds ++ gs)).results [])
  (hargs:∀sp:Nat->Bool,(∀p∈before,sp p.block=true)->DataW.TrodAll enc P W' 0 sp true f.params.toList args.toList (s.fn H (ds ++ gs)).args pa)
  (hvars:∀sp:Nat->Bool,(∀p∈before,sp p.block=true)->DataW.TrodVars enc P W' sp s.vars (s.fn H (ds ++ gs)).vars pv)
  (hps:before=pa ++ pv) (hb:Below W.heap.size W W')
  (hok:∀(j:Nat) (t:TypeId) (r:Value),f.resultTypes[j]? =some t->(v.resultList f.resultTypes.size)[j]? =some r->Value.okWide P W' .any 0 t r):
  s.post enc P f apart fresh handsOn again W args v W':=by
 have hlt:∀p∈before,p.block<W.heap.size:=fun p hp=>hW.lt p hp
 have hold:∀p∈before,(fun b=>decide (b<W.heap.size)) p.block=true:=fun p hp=>by simpa using hlt p hp
 refine⟨ds,gs,before,[],pa,pv,hW,hres _ _ _,hargs _ hold,hvars _ hold,World.keptBut_mono (fun p hp=>⟨hp,?_⟩) (hb.frame (·∈before)),fun _=>?_⟩
 ·rw[hps,List.mem_append] at hp
  exact Or.inr hp
 ·obtain⟨_,_,_,_,_,hz,hn⟩:=hW
  refine⟨hok,_,_,([] ++ pa) ++ pv,⟨[] ++ pa,pv,trodAll_append (hargs _ (fun _ _=>rfl)) (hres _ _ _),hvars _ (fun _ _=>rfl),rfl,?_,?_⟩,?_⟩
  ·intro b off hp
   have hin:MemPlace.cell b off∈before:=by rw[hps];simpa using hp
   rw[hb.frozen (hlt _ hin)]
   exact hz b off hin
  ·intro ha
   have:=hn ha
   rw[hps] at this
   simpa using this
  ·intro p hp _
   rw[hps]
   simpa using hp
end
theorem lifted (os:Os) (started:os.Started) (H:Type) (enc:TypeId×Value->H):
  ReturnsInHanded {} Tryz.checked os 3 .any (Rows.fnVmArgsSpec.pre6 enc Tryz.prog Tryz.f3 [] false)
   (Rows.fnVmArgsSpec.post enc Tryz.prog Tryz.f3 false true false false):=by
 refine returnsInHanded_of_change (C:=Tryz.checked) own started (by kernel_rfl) Tryz.func3
  (ChangeSpec.witness6 (enc:=enc) (C:=Tryz.checked) (os:=os) false ⟨#[],#[.slice none 0 0],[]⟩ 8 (by kernel_rfl) (by kernel_rfl) (by kernel_rfl) (by kernel_rfl)) ?_
 intro W base args ds gs before hval0 hW _ _
 have hval:∀(j:Nat) t v,Tryz.f3.params[j]? =some t->args[j]? =some v->Value.okWide Tryz.prog W .any base t v:=hval0
 have hW':=hW
 obtain⟨p,q,hA0,hV,rfl,hfz,hnd⟩:=hW
 have hA:DataW.TrodAll enc Tryz.prog W 0 (fun _=>true) true Tryz.f3.params.toList args.toList ds p:=hA0
 rw[Tryz.params3] at hA hval
 obtain⟨v0,d0,rfl,rfl,h0⟩:=trodAll_one hA
 obtain⟨rfl,rfl⟩:=trodVars_none hV
 obtain⟨a0,n0,c0,rfl⟩:=okWide_slice Tryz.underlying22 (hval 0 _ v0 rfl rfl)
 have g0:=h0
 obtain⟨fuel0,hf0⟩:=h0
 obtain⟨bs,hbs⟩:=ziF (R:=BytC) Tryz.underlying22 (show Tryz.prog.cellsOf 5=1 by kernel_rfl) (by decide) (fun _ _ _ h=>zvi h) hf0
 clear hA0 hval0
 have hlt:∀x∈p ++ [],x.block<W.heap.size:=fun x hx=>hW'.lt x hx
 refine(zxT _ bs W hbs).mono fun e W' ⟨he,hw⟩=>?_
 subst he
 exact⟨_,rfl,zgp (pa:=p) (pv:=[]) hW' (fun _ _ _=>trodAll_mk1 (shut_bool Tryz.underlying4 true))
  (fun sp hsp=>trodAll_mk1
   (WideElems.Trod_stays laidOut (by kernel_rfl) (of_decide_eq_true (by kernel_rfl)) g0 (fun x hx=>hw.below.same (hlt x (by simp[hx]))) (fun x hx=>hsp x (by simp[hx]))))
  (fun _ _=>rfl) (by simp) hw.below (ok_one (by kernel_rfl) rfl (okWide_bool_mk Tryz.underlying4 true))⟩
theorem closed:joinedFacts Tryz.pinned.checked.prog 3 Tryz.f3 Rows.fnVmArgsSpec Rows.fnVmArgsRow=true:=by
 unfold joinedFacts
 refine zlX (zlX (zlX (zlX (zlX (zlX (zlX (zlX (zlX (zlX (zlX (zlX (zlX (zlX (zlX (zlX (zlX (zlX (zlX (zlX (zlX (zlX (zlX (zlX (zlX (zlX (zlX (zlX (zlX (zlX (zlX ?_ zl2) zl3) ?_) ?_) ?_) ?_) ?_) ?_) zl7) zl6) zl5) zl4) ?_) ?_) ?_) ?_) ?_) ?_) ?_) ?_) ?_) ?_) ?_) zl1) zlY) zlZ) zl0) ?_) ?_) ?_) ?_
 all_goals kernel_rfl
theorem vmArgs_holds:Rows.FnVmArgsSaid:=
 OpenClaim.holds_of_wide 3 Tryz.f3 rfl rfl rfl rfl rfl rfl rfl ⟨rfl,rfl,rfl,rfl,rfl⟩ rfl rfl rfl rfl rfl (by kernel_rfl) Tryz.func3 closed
  (of_decide_eq_true (by kernel_rfl)) (by unfold Func.isWrapper;first|(rw[if_pos (by decide +kernel)];kernel_rfl)|(rw[if_neg (by decide +kernel)];exact⟨rfl,rfl⟩))
  (fun os started H enc _=>lifted os started H enc)
#print axioms vmArgs_holds
end Go.Proofs.YtmeaibjmnjcdfaaGreat
