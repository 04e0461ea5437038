/- The reference's l5Look: its walk. -/
import Derived.Test.YthembcdcdnffeaaGreatEG33
set_option maxHeartbeats 16000000
set_option maxRecDepth 100000
namespace Go.Proofs.YthembcdcdnffeaaGreat
open Go.RowKit
theorem zdl {p:Plan} {k:Int} {m:Mth} {j:Nat} {f:Frm} {goes:Bool} {out:List Frm}:zcL p k m j [] f goes out=if goes then ([],(j:Int)+1) else (out,0):=by cases goes<;>rfl
def zdm (p:Plan) (k:Int) (m:Mth) (j:Nat) (i:Ins) (is:List Ins) (out:List Frm) (g:Frm):List Frm×Int:=match insF p k m g i with
 | none=>([],(j:Int)+1)
 | some h=>if zcI p k m h i then zcL p k m (j+1) is h (zcK i) (out ++ [g]) else ([],(j:Int)+1)
theorem zdn {p:Plan} {k:Int} {m:Mth} {j:Nat} {i:Ins} {is:List Ins} {out:List Frm} {g:Frm} (h:insF p k m g i=none):zdm p k m j i is out g=([],(j:Int)+1):=by unfold zdm;rw[h]
theorem zdo {p:Plan} {k:Int} {m:Mth} {j:Nat} {i:Ins} {is:List Ins} {out:List Frm} {g x:Frm} (h:insF p k m g i=some x):zdm p k m j i is out g=if zcI p k m x i then zcL p k m (j+1) is x (zcK i) (out ++ [g]) else ([],(j:Int)+1):=by unfold zdm;rw[h]
theorem zdp {p:Plan} {k:Int} {m:Mth} {j:Nat} {i:Ins} {is:List Ins} {f:Frm} {goes:Bool} {out:List Frm} (h:zcJ p k m j f goes=none):zcL p k m j (i :: is) f goes out=([],(j:Int)+1):=by
 rw[zcL,h]
theorem zdq {p:Plan} {k:Int} {m:Mth} {j:Nat} {i:Ins} {is:List Ins} {f g:Frm} {goes:Bool} {out:List Frm} (h:zcJ p k m j f goes=some g):zcL p k m j (i :: is) f goes out=zdm p k m j i is out g:=by
 rw[zcL,h]
 rfl
theorem zdr {p:Plan} {k:Int} {m:Mth} {j:Int} {f:Frm} {goes:Bool} (h:mapF m j=none):zcJ p k m j f goes=if goes then some f else none:=by unfold zcJ;rw[h]
theorem zds {p:Plan} {k:Int} {m:Mth} {j:Int} {f:Frm} {goes:Bool} {x:Mp} (h:mapF m j=some x):zcJ p k m j f goes=if goes&&!zcH p k f x then none else some ⟨x.locals,x.stack⟩:=by unfold zcJ;rw[h]
theorem zdu (X Y:Nat->Prop) (p:Plan) (v:Value) (k0:Nat) (s:Str) (m:Mth) (ms:List Value) (w:World) (hp:lodB p=true) (h:Sl X w 2 (KprC X w) v p.keepers) (hXn:∀b,w.heap.size≤b->X b) (hk0:k0<p.keepers.length) (hm:MthC Y w ms m) (hYn:∀b,w.heap.size≤b->Y b) (hs:s.size≤maxLen) (hok:mthB m=true):
  Calls Tryz.prog 24 #[.agg #[v],.int .i64 k0,.string s,.agg ms.toArray] w (zdE (zcN p k0 s m) w):=by
 obtain⟨_,_,_,hlo,hhi,hs1,hs5,hcodeB,_⟩:=ze7 hok
 have hcode:m.code.length≤16∧∀i∈m.code,zfV m.locals m.code.length i=true:=by
  unfold zfW at hcodeB
  simp only[lz5,decide_eq_true_eq,List.all_eq_true] at hcodeB
  exact⟨hcodeB.1.2,hcodeB.2⟩
 obtain⟨hc16,hins⟩:=hcode
 clear hcodeB
 have hkw:=fun W (hW:Fr No w W)=>h.keep (R':=KprC X W) hW zN (fun _ _ _ h=>h.keep hW zN)
 have hmw:=fun W (hW:Fr No w W)=>hm.keep (Y:=No) hW zN
 have HBg:=fun W (hW:Fr No w W)=>zdw Y s m ms W (hmw W hW) hs hok
 have HMp:=fun(j:Int) W (hW:Fr No w W)=>zit Y m ms j W (hmw W hW)
 have HFr:=fun(Z:Nat->Prop) (fl fs ml mk:Value) (f:Frm) (x:Mp) W (hW:Fr No w W) (h1:Sl Z W 2 TagC fl f.locals) (h2:Sl Z W 2 TagC fs f.stack) (g1:Sl Y W 2 TagC ml x.locals) (g2:Sl Y W 2 TagC mk x.stack)=>ziq X Z Y p v fl fs ml mk k0 f x W hp (hkw W hW) hk0 h1 h2 g1 g2
 have HIn:=fun(ul us:Value) (f:Frm) (i:Ins) W (hW:Fr No w W) (hI:FrmI W ul us f) (hXr:∀q,rB ul us q->X q) (hl:f.stack.length≤1000) (hll:(f.locals.length:Int)=m.locals) (hn:i.name.size≤maxLen) (hx:i.member.size≤maxLen) (hia:zfV m.locals m.code.length i=true)=>zin X Y p v ul us k0 m ms f i W hp (hkw W hW) hk0 (hmw W hW) hs5 hhi hI hXr hl hll hn hx hia
 have HLd:=fun(Z:Nat->Prop) (fl fs:Value) (f:Frm) (i:Ins) W (hW:Fr No w W) (h1:Sl Z W 2 TagC fl f.locals) (h2:Sl Z W 2 TagC fs f.stack)=>ziC X Y Z p v fl fs k0 m ms f i W hp (hkw W hW) hk0 (hmw W hW) h1 h2
 obtain⟨A,cap,rfl,_,_⟩:=h.form
 obtain⟨va,vc,vm,rfl,_,hrn,har,hcr,hxr⟩:=hm
 obtain⟨Aa,ca,rfl,_,_⟩:=har.form
 obtain⟨Ac,cc,rfl,_,_⟩:=hcr.form
 obtain⟨Ax,cx,rfl,_,_⟩:=hxr.form
 clear h hkw hmw har hxr
 obtain⟨cm,hcm⟩:∃cm:Array Value,cm=#[.string m.name,.slice Aa m.args.length ca,.int .i64 m.ret.kind,.string m.ret.name,.int .i64 m.locals,.int .i64 m.stack,.slice Ac m.code.length cc,.slice Ax m.maps.length cx]:=⟨_,rfl⟩
 obtain⟨wA,hwA⟩:∃wA,wA=(((w.alloc (.cells #[.slice A p.keepers.length cap] 32)).alloc (.cells #[.string m.name,.slice Aa m.args.length ca,.int .i64 m.ret.kind,.string m.ret.name,.int .i64 m.locals,.int .i64 m.stack,.slice Ac m.code.length cc,.slice Ax m.maps.length cx] 60)).alloc (.cells #[] tFrm)):=⟨_,rfl⟩
 have hfA:Fr No w wA:=hwA▸frc
 have hsA:wA.heap.size=w.heap.size+3:=by rw[hwA];simp
 have B0:=(hwA▸bxc:Bx wA w.heap.size 32 #[.slice A p.keepers.length cap])
 have B1:=(hwA▸bxc:Bx wA (w.heap.size+1) 60 #[.string m.name,.slice Aa m.args.length ca,.int .i64 m.ret.kind,.string m.ret.name,.int .i64 m.locals,.int .i64 m.stack,.slice Ac m.code.length cc,.slice Ax m.maps.length cx])
 have HB:=HBg wA hfA
 obtain⟨R,hR⟩:∃R,R=zcN p k0 s m:=⟨_,rfl⟩
 rw[<-hR]
 obtain⟨i0,hi,hz0,hz1,hz2⟩:=info_parts zdD
 replace hi:=Lib.hid hi
 replace hz0:=Lib.hid hz0
 replace hz1:=Lib.hid hz1
 replace hz2:=Lib.hid hz2
 go_enter Tryz.func24,Tryz.ntmps24
 go_wp2_with fail
 rw[<-hwA]
 replace hwA:=Lib.hid hwA
 refine HB.mono ?_
 rintro e w1 ⟨hf1,Bl,dl,rfl,hJ,hq⟩
 clear HB HBg
 have hbl:(zcM s m).stack.length=0:=rfl
 have hbll:((zcM s m).locals.length:Int)=m.locals:=by unfold zcM;simp;omega
 obtain⟨wB,hwB⟩:∃wB,wB=(w1.alloc (.cells #[.slice Bl (zcM s m).locals.length dl,.slice none 0 0] tFr)):=⟨_,rfl⟩
 have hf2:Fr No w1 wB:=hwB▸frc
 have BF:=(hwB▸bxc:Bx wB w1.heap.size tFr #[.slice Bl (zcM s m).locals.length dl,.slice none 0 0])
 have hs1:=hf1.size
 have hI0:LkI p m A cap cm w1.heap.size w 0 (zcM s m) (.slice Bl (zcM s m).locals.length dl) (.slice none 0 0) (.slice (some ⟨w.heap.size+2,0,none⟩) 0 0) [] wB:=by
  have hJ2:=hJ.keep0 hf2
  have hne:∀q,rB (.slice Bl (zcM s m).locals.length dl) (.slice none 0 0) q->q≠w1.heap.size:=fun q hq e=>by have:=hJ.lt hq;omega
  exact⟨B0.keep (hf1.trans0 hf2),hcm▸B1.keep (hf1.trans0 hf2),BF,hJ2.loc.sl (fun q hq h=>h.elim (fun h=>by rw[zcQ,if_pos rfl] at h;cases h) (fun h=>hne q (.inl hq) h)),hJ2.stk.sl (fun q h _=>by cases h),hbll,by rw[hbl];omega,Frms.empty _ _ _,rfl,by omega,(hfA.trans0 hf1).trans0 hf2⟩
 have hgo0:Hid (R=zcL p k0 m 0 m.code (zcM s m) true []):=hR
 clear B0 B1
 obtain⟨fb,hfb⟩:∃fb,fb=w1.heap.size:=⟨_,rfl⟩
 rw[<-hfb] at hI0
 generalize zcM s m=f0 at *
 go_wp2_with fail
 refine zaE (fun W=>W=wB) (by rw[hwB]) ?_
 rintro W0 hW0
 rw[hW0]
 clear hW0
 replace hwB:=Lib.hid hwB
 rw[<-hfb]
 replace hfb:=Lib.hid hfb
 clear BF hJ hq hbl hbll
 go_loopw [13,10,12] (fun i out kn wr=>∃(j:Nat) (goes:Bool) (f:Frm) (fl fs:Value) (outs:List Frm),j≤m.code.length∧i=.int .i64 j∧kn=.bool goes∧Hid (LkI p m A cap cm fb w j f fl fs out outs wr)∧Hid (R=zcL p k0 m j (m.code.drop j) f goes outs)) (fun i _ _ _=>m.code.length-(intOf i).toNat)
 case atStart=>exact⟨0,true,f0,_,_,[],Nat.zero_le _,rfl,rfl,hI0,hgo0⟩
 case round=>
  clear hI0 hgo0
  obtain⟨j,goes,f,fl,fs,outs,hj,rfl,rfl,hM,hgo⟩:=hrel
  have hLk:=hM.out
  have go:=hgo.out
  clear hM hgo
  obtain⟨Fl,cfl,hfl,_,_⟩:=hLk.loc.form
  obtain⟨Fs,cfs,hfs,_,_⟩:=hLk.stk.form
  subst hfl hfs
  obtain⟨Ao,co,hout,hco1,hco2⟩:=hLk.os.form
  subst hout
  have hfr:=hLk.fr
  have KM:=(hcm▸hLk.bm:Bx wr (w.heap.size+1) 60 #[.string m.name,.slice Aa m.args.length ca,.int .i64 m.ret.kind,.string m.ret.name,.int .i64 m.locals,.int .i64 m.stack,.slice Ac m.code.length cc,.slice Ax m.maps.length cx]).r8
  obtain⟨d0,d1,d2,d3,d4,d5,d6,d7,_,dl⟩:=KM wr (Fr.refl _ _)
  by_cases hlt:j<m.code.length
  ·obtain⟨bc,oc,hAc,_⟩:=(hcr.k0 hfr).ins hlt
   subst hAc
   have hcode:=fun W (hW:Fr No w W)=>(hcr.k0 hW).ins hlt
   have hbcl:bc<w.heap.size:=by
    obtain⟨b9,o9,hA9,_,x0,_⟩:=hcode w (Fr.refl _ _)
    cases hA9
    exact lt_of_cell x0
   have hia:=hins _ (List.getElem_mem hlt)
   rw[List.drop_eq_getElem_cons hlt] at go
   generalize m.code[j]=i at *
   have HM1:=HMp j wr hfr
   unfold zir at HM1
   replace hLk:=Lib.hid hLk
   have hadd:IntKind.i64.wrap ((j:Int)+1)=(j:Int)+1:=IntWalk.i64_in _ (by omega)
   have hcase:(mapF m j=none∧goes=false)∨(∃x,mapF m j=some x∧goes=true∧zcH p k0 f x=false)∨(mapF m j=none∧goes=true)∨(∃x,mapF m j=some x∧goes=false)∨(∃x,mapF m j=some x∧goes=true∧zcH p k0 f x=true):=by
    cases hma:mapF m j with
    | none=>cases goes<;>simp
    | some x=>cases goes<;>cases hs:zcH p k0 f x<;>simp[hs]
   rcases hcase with ⟨hma,rfl⟩ | ⟨x,hma,rfl,hs0⟩ | ⟨hma,rfl⟩ | ⟨x,hma,rfl⟩ | ⟨x,hma,rfl,hs1'⟩
   ·rw[hma] at HM1
    dsimp only at HM1
    rw[zdp (by rw[zdr hma];rfl)] at go
    have hgo:Hid (R=([],(j:Int)+1)):=go
    clear go HIn HLd HFr HMp hcode
    go_wp2_with (go_at_call 44;refine HM1.mono ?_;rintro e w2 ⟨hf2,rfl⟩)
    refine bodyPost_ret (v:=.tuple #[.slice (some ⟨w2.heap.size+1,0,none⟩) 0 0,.int .i64 ((j:Int)+1)]) (by simp[results,Tryz.results24,go_sem]) rfl ?_
    rw[hgo.out]
    exact⟨frc,_,rfl,Frms.empty _ _ _⟩
   ·rw[hma] at HM1
    dsimp only at HM1
    have hx:=zdM hok hma
    rw[zdp (by rw[zds hma,hs0];rfl)] at go
    have hgo:Hid (R=([],(j:Int)+1)):=go
    clear go HIn HLd HMp hcode
    go_wp2_with (go_at_call 44;refine HM1.mono ?_;rintro e w2 ⟨hf2,xl,xs,rfl,g1,g2⟩;obtain⟨Bl,el,rfl,_,_⟩:=g1.form;obtain⟨Bs,es,rfl,_,_⟩:=g2.form;have hL2:=hLk.out.keep0 hf2;obtain⟨f0',f1'⟩:=hL2.bf.c2;have ff':=(fun i=>hL2.bf.frozen i);have flt:=hL2.bf.lt;have z0:=hL2.bp.c1;have zl:=hL2.bp.lt;have q2:Fr No w2 (w2.alloc (.cells #[.int .i64 x.at_,.slice Bl x.locals.length el,.slice Bs x.stack.length es] 93)):=frc;have g1':=g1.k0 q2;have g2':=g2.k0 q2;have hL3:=hL2.keep0 q2;have HFx:=HFr _ _ _ _ _ f x _ hL3.fr hL3.loc hL3.stk g1' g2';have BM:=(Bx.new w2 93 #[.int .i64 x.at_,.slice Bl x.locals.length el,.slice Bs x.stack.length es]);replace hL2:=Lib.hid hL2;replace hL3:=Lib.hid hL3)
    rw[hs0] at HFx
    refine HFx.mono ?_
    rintro e w3 ⟨rfl,hf3⟩
    clear f0' f1' ff' flt z0 zl HFx HFr BM hL2 hL3 HM1
    go_wp2
    refine bodyPost_ret (v:=.tuple #[.slice (some ⟨w3.heap.size,0,none⟩) 0 0,.int .i64 ((j:Int)+1)]) (by simp[results,Tryz.results24,go_sem]) rfl ?_
    rw[hgo.out]
    exact⟨frc,_,rfl,Frms.empty _ _ _⟩
   focus
    rw[hma] at HM1
    dsimp only at HM1
    rw[zdq (by rw[zdr hma];rfl)] at go
    replace go:=Lib.hid go
    go_wp2_with (go_at_call 44;refine HM1.mono ?_;rintro e w2 ⟨hf2,rfl⟩;have hL2:=hLk.out.keep0 hf2;obtain⟨f0',f1'⟩:=hL2.bf.c2;have flt:=hL2.bf.lt;replace hL2:=Lib.hid hL2)
    obtain⟨g,Gl,cgl,Gs,cgs,hargs,hP,hgo2⟩:∃(g:Frm) (Gl:Option Addr) (cgl:Nat) (Gs:Option Addr) (cgs:Nat),(#[.agg #[.slice Fl f.locals.length cfl,.slice Fs f.stack.length cfs]]:Array Value)=#[.agg #[.slice Gl g.locals.length cgl,.slice Gs g.stack.length cgs]]∧LkI p m A cap cm fb w j g (.slice Gl g.locals.length cgl) (.slice Gs g.stack.length cgs) (.slice Ao outs.length co) outs (w2.alloc (.cells #[.int .i64 0,.slice none 0 0,.slice none 0 0] 93))∧Hid (R=zdm p k0 m j i (m.code.drop (j+1)) outs g):=⟨f,Fl,cfl,Fs,cfs,rfl,hL2.out.keep0 frc,go⟩
    rw[hargs]
    refine zdP (fun W=>LkI p m A cap cm fb w j g (.slice Gl g.locals.length cgl) (.slice Gs g.stack.length cgs) (.slice Ao outs.length co) outs W) hP ?_
    clear hP hargs hL2 f0' f1' flt hf2 HM1 hma go hLk
    rintro W0 hP
   rotate_left
   focus
    rw[hma] at HM1
    dsimp only at HM1
    have hx:=zdM hok hma
    rw[zdq (by rw[zds hma];rfl)] at go
    replace go:=Lib.hid go
    have hZY:∀b,(zcP (.slice Ao outs.length co)=some b∨b=fb)->Y b:=fun b hb=>by
     obtain⟨_,_,_,_,_,_,h6⟩:=hLk.out.os
     have hfn:=hLk.out.fbn
     rcases hb with hb|rfl
     ·have:=(h6 b hb).1;exact hYn b (by omega)
     ·exact hYn _ (by omega)
    go_wp2_with (go_at_call 44;refine HM1.mono ?_;rintro e w2 ⟨hf2,xl,xs,rfl,g1,g2⟩;obtain⟨Bl,el,rfl,_,_⟩:=g1.form;obtain⟨Bs,es,rfl,_,_⟩:=g2.form;have hL2:=hLk.out.keep0 hf2;obtain⟨f0',f1'⟩:=hL2.bf.c2;have ff':=(fun i=>hL2.bf.frozen i);have flt:=hL2.bf.lt;have z0:=hL2.bp.c1;have zl:=hL2.bp.lt;have q2:Fr No w2 (w2.alloc (.cells #[.int .i64 x.at_,.slice Bl x.locals.length el,.slice Bs x.stack.length es] 93)):=frc;have g1':=g1.k0 q2;have g2':=g2.k0 q2;have hL3:=hL2.keep0 q2;have HFx:=HFr _ _ _ _ _ f x _ hL3.fr hL3.loc hL3.stk g1' g2';have BM:=(Bx.new w2 93 #[.int .i64 x.at_,.slice Bl x.locals.length el,.slice Bs x.stack.length es]);replace hL2:=Lib.hid hL2;replace hL3:=Lib.hid hL3)
    obtain⟨g,Gl,cgl,Gs,cgs,hargs,hP,hgo2⟩:∃(g:Frm) (Gl:Option Addr) (cgl:Nat) (Gs:Option Addr) (cgs:Nat),(#[.agg #[.slice Bl x.locals.length el,.slice Bs x.stack.length es]]:Array Value)=#[.agg #[.slice Gl g.locals.length cgl,.slice Gs g.stack.length cgs]]∧LkI p m A cap cm fb w j g (.slice Gl g.locals.length cgl) (.slice Gs g.stack.length cgs) (.slice Ao outs.length co) outs (((w2.setCell ⟨fb,0,none⟩ (.slice Bl x.locals.length el)).setCell ⟨fb,1,none⟩ (.slice Bs x.stack.length es)).alloc (.cells #[.int .i64 x.at_,.slice Bl x.locals.length el,.slice Bs x.stack.length es] 93))∧Hid (R=zdm p k0 m j i (m.code.drop (j+1)) outs g):=⟨⟨x.locals,x.stack⟩,Bl,el,Bs,es,rfl,(hL2.out.setF (g1.weaken hZY (fun _ _ _ h=>h)) (g2.weaken hZY (fun _ _ _ h=>h)) hx.1 hx.2).keep0 frc,go⟩
    rw[hargs]
    refine zdP (fun W=>LkI p m A cap cm fb w j g (.slice Gl g.locals.length cgl) (.slice Gs g.stack.length cgs) (.slice Ao outs.length co) outs W) hP ?_
    clear hP hargs hL2 hL3 f0' f1' ff' flt z0 zl BM HFx g1 g2 g1' g2' q2 hf2 HM1 hma go hLk hZY hx
    rintro W0 hP
   rotate_left
   focus
    rw[hma] at HM1
    dsimp only at HM1
    have hx:=zdM hok hma
    rw[zdq (by rw[zds hma,hs1'];rfl)] at go
    replace go:=Lib.hid go
    have hZY:∀b,(zcP (.slice Ao outs.length co)=some b∨b=fb)->Y b:=fun b hb=>by
     obtain⟨_,_,_,_,_,_,h6⟩:=hLk.out.os
     have hfn:=hLk.out.fbn
     rcases hb with hb|rfl
     ·have:=(h6 b hb).1;exact hYn b (by omega)
     ·exact hYn _ (by omega)
    go_wp2_with (go_at_call 44;refine HM1.mono ?_;rintro e w2 ⟨hf2,xl,xs,rfl,g1,g2⟩;obtain⟨Bl,el,rfl,_,_⟩:=g1.form;obtain⟨Bs,es,rfl,_,_⟩:=g2.form;have hL2:=hLk.out.keep0 hf2;obtain⟨f0',f1'⟩:=hL2.bf.c2;have ff':=(fun i=>hL2.bf.frozen i);have flt:=hL2.bf.lt;have z0:=hL2.bp.c1;have zl:=hL2.bp.lt;have q2:Fr No w2 (w2.alloc (.cells #[.int .i64 x.at_,.slice Bl x.locals.length el,.slice Bs x.stack.length es] 93)):=frc;have g1':=g1.k0 q2;have g2':=g2.k0 q2;have hL3:=hL2.keep0 q2;have HFx:=HFr _ _ _ _ _ f x _ hL3.fr hL3.loc hL3.stk g1' g2';have BM:=(Bx.new w2 93 #[.int .i64 x.at_,.slice Bl x.locals.length el,.slice Bs x.stack.length es]);replace hL2:=Lib.hid hL2;replace hL3:=Lib.hid hL3)
    rw[hs1'] at HFx
    refine HFx.mono ?_
    rintro e w3 ⟨rfl,hf3⟩
    have hL4:=hL3.out.keep0 hf3
    have BM3:=BM.keep hf3
    obtain⟨y0,y1,y2⟩:=BM3.c3
    have yl:=BM3.lt
    have g1'':=g1'.k0 hf3
    have g2'':=g2'.k0 hf3
    clear f0' f1' ff' flt z0 zl
    obtain⟨f0',f1'⟩:=hL4.bf.c2
    have ff':=fun i=>hL4.bf.frozen i
    have flt:=hL4.bf.lt
    replace hL4:=Lib.hid hL4
    go_wp2_with fail
    obtain⟨g,Gl,cgl,Gs,cgs,hargs,hP,hgo2⟩:∃(g:Frm) (Gl:Option Addr) (cgl:Nat) (Gs:Option Addr) (cgs:Nat),(#[.agg #[.slice Bl x.locals.length el,.slice Bs x.stack.length es]]:Array Value)=#[.agg #[.slice Gl g.locals.length cgl,.slice Gs g.stack.length cgs]]∧LkI p m A cap cm fb w j g (.slice Gl g.locals.length cgl) (.slice Gs g.stack.length cgs) (.slice Ao outs.length co) outs ((w3.setCell ⟨fb,0,none⟩ (.slice Bl x.locals.length el)).setCell ⟨fb,1,none⟩ (.slice Bs x.stack.length es))∧Hid (R=zdm p k0 m j i (m.code.drop (j+1)) outs g):=⟨⟨x.locals,x.stack⟩,Bl,el,Bs,es,rfl,hL4.out.setF (g1''.weaken hZY (fun _ _ _ h=>h)) (g2''.weaken hZY (fun _ _ _ h=>h)) hx.1 hx.2,go⟩
    rw[hargs]
    refine zdP (fun W=>LkI p m A cap cm fb w j g (.slice Gl g.locals.length cgl) (.slice Gs g.stack.length cgs) (.slice Ao outs.length co) outs W) hP ?_
    clear hP hargs hL2 hL3 hL4 f0' f1' ff' flt BM BM3 y0 y1 y2 yl HFx g1 g2 g1' g2' g1'' g2'' q2 hf2 hf3 HM1 hma go hLk hZY hx hs1'
    rintro W0 hP
   all_goals
    obtain⟨kvs,h1,h2,h3,h4,h5,h6⟩:=hP.os
    have hol16:outs.length≤16:=by have:=hP.ol;omega
    have hol:=Lib.hid hP.ol
    have hgll:=hP.ll
    have hgsl:=hP.sl
    have hgl1:g.locals.length≤1000:=by omega
    have hgs1:g.stack.length≤1000:=by omega
    have HC1:=ziz _ _ _ g W0 hP.loc hP.stk hgs1 hgl1
    refine HC1.mono ?_
    rintro e w2 ⟨hf2,Cl,ccl,Cs,ccs,rfl,hJ,hJq⟩
    have hW:Fr No w2 (w2.alloc (.cells #[.slice Cl g.locals.length ccl,.slice Cs g.stack.length ccs] tFrm)):=frc
    have hf0:=hf2.trans0 hW
    have hrow:=h1.keep0 hf0
    have hsrc:=Lib.hid (Bx.news (cs:=[.slice Cl g.locals.length ccl,.slice Cs g.stack.length ccs]) (Bx.new w2 tFrm #[.slice Cl g.locals.length ccl,.slice Cs g.stack.length ccs]))
    have hok3:=fun v' g' W2=>hP.grown (v':=v') (g':=g') (W2:=W2) hf0 (hJ.keep0 hW) (fun q hq=>hJq q hq) h1 h2 h3 h4 h5 h6
    replace hP:=Lib.hid hP
    clear HC1 h1 h2 h3 h4 h5 hW hJ hJq hfr KM d0 d1 d2 d3 d4 d5 d6 d7 dl
    go_wp2_with (at_builtin;refine zcS _ rfl _ _ 40 rfl tFrm i0 (.agg #[.slice none 0 0,.slice none 0 0]) 2 48 Tryz.underlying40 hi.out hz0.out hz1.out hz2.out rfl (by decide) (.slice Ao outs.length co) outs.length (kvs.flatMap kvC) rfl hrow ⟨w2.heap.size,0,none⟩ 1 1 [.slice Cl g.locals.length ccl,.slice Cs g.stack.length ccs] rfl rfl hsrc.out (by simp[Value.oneCell']) (by decide) (by unfold maxLen;omega) (by omega) ?_;intro g' cap' w3 hrow3 hcap hgf hor)
    have hv':zcP (.slice (some ⟨g',0,none⟩) (outs.length+1) cap')=some g':=by rw[zcQ,if_neg (by omega)]
    obtain⟨D0,D1,D2,hl3,hs3,hos3,hfr3⟩:=hok3 _ g' w3 hrow3 hgf hor hv'
    clear hok3 hrow3 hgf hor hsrc hrow hf0 hf2
    have K0:=D0.r1
    have K1:=(hcm▸D1:Bx w3 (w.heap.size+1) 60 #[.string m.name,.slice Aa m.args.length ca,.int .i64 m.ret.kind,.string m.ret.name,.int .i64 m.locals,.int .i64 m.stack,.slice (some ⟨bc,oc,none⟩) m.code.length cc,.slice Ax m.maps.length cx]).r8
    have K2:=D2.r2
    obtain⟨b9,o9,hA9,_,x0,x1,x2,x3,zx1,zx2⟩:=hcode w3 hfr3
    cases hA9
    have KX0:=cr x0
    have KX1:=cr x1
    have KX2:=cr x2
    have KX3:=cr x3
    have hws3:=hfr3.size
    have HIw:=fun(ul us:Value) W (hW:Fr No w3 W) (hI:FrmI W ul us g) (hq:∀q,rB ul us q->w3.heap.size≤q)=>HIn ul us g i W (hfr3.trans0 hW) hI (fun q h=>hXn q (by have:=hq q h;omega)) hgs1 hgll zx1 zx2 hia
    have HCw:=fun W (hW:Fr No w3 W)=>ziz _ _ _ g W (hl3.k0 hW) (hs3.k0 hW) hgs1 hgl1
    have hbnd:=fun(x:Frm) (hx:insF p k0 m g i=some x)=>zdK (by unfold zfV at hia;rw[lz5] at hia;exact hia.1) hx hgsl
    have hnx0:=zdn (p:=p) (k:=(k0:Int)) (m:=m) (j:=j) (i:=i) (is:=m.code.drop (j+1)) (out:=outs) (g:=g)
    have hnx1:=fun(x:Frm)=>zdo (p:=p) (k:=(k0:Int)) (m:=m) (j:=j) (i:=i) (is:=m.code.drop (j+1)) (out:=outs) (g:=g) (x:=x)
    generalize insF p k0 m g i=O at *
    replace hnx0:=Lib.hid hnx0
    replace hnx1:=Lib.hid hnx1
    replace hbnd:=Lib.hid hbnd
    replace HIw:=Lib.hid HIw
    replace HCw:=Lib.hid HCw
    replace HLd:=Lib.hid HLd
    replace hcode:=Lib.hid hcode
    replace hl3:=Lib.hid hl3
    replace hs3:=Lib.hid hs3
    replace hos3:=Lib.hid hos3
    have hinsh:=Lib.hid hins
    clear HIn HFr HMp x0 x1 x2 x3 hins
    refine znI 15 77 [mV (.agg #[.slice A p.keepers.length cap]),mV (.int .i64 k0),mV (.agg #[.string m.name,.slice Aa m.args.length ca,.int .i64 m.ret.kind,.string m.ret.name,.int .i64 m.locals,.int .i64 m.stack,.slice (some ⟨bc,oc,none⟩) m.code.length cc,.slice Ax m.maps.length cx]),mV (.agg #[.slice Gl g.locals.length cgl,.slice Gs g.stack.length cgs]),mC (cpA g w3.heap.size) (zdH _ _),mV (.pointer (some ⟨w.heap.size+1,6,none⟩)),mV (.slice (some ⟨bc,oc,none⟩) m.code.length cc),mV (.int .i64 j),mV (.pointer (some ⟨bc,oc+j * 4,none⟩)),mV (.agg #[.int .i64 i.op,.int .i64 i.a,.string i.name,.string i.member]),mC (nwV O w3.heap.size) (zdF _ _),mC (nwV O w3.heap.size) (zdF _ _),mC (nwA O w3.heap.size) (zdG _ _),mE (mV (.bool O.isSome)),mB 77 (#[.slice none 0 0,.slice none 0 0]) w3.heap.size] [mV (.agg #[.slice A p.keepers.length cap]),mV (.int .i64 k0),mV (.agg #[.string m.name,.slice Aa m.args.length ca,.int .i64 m.ret.kind,.string m.ret.name,.int .i64 m.locals,.int .i64 m.stack,.slice (some ⟨bc,oc,none⟩) m.code.length cc,.slice Ax m.maps.length cx]),mV (.agg #[.slice Gl g.locals.length cgl,.slice Gs g.stack.length cgs]),mT,mV (.pointer (some ⟨w.heap.size+1,6,none⟩)),mV (.slice (some ⟨bc,oc,none⟩) m.code.length cc),mV (.int .i64 j),mV (.pointer (some ⟨bc,oc+j * 4,none⟩)),mV (.agg #[.int .i64 i.op,.int .i64 i.a,.string i.name,.string i.member]),mC (nwV O w3.heap.size) (zdF _ _),mC (nwV O w3.heap.size) (zdF _ _),mC (nwA O w3.heap.size) (zdG _ _),mE (mV (.bool O.isSome)),mB 77 (#[.slice none 0 0,.slice none 0 0]) w3.heap.size] [0,0,0,0,0,0,0,0,0,0,3,1,1,1,2] 10 (fun _ _=>False) (fun W=>Fr No w3 W) (TagS) (by kernel_rfl) (by kernel_rfl) (by simp) (fun W W' h hf=>h.trans0 hf) ?_ ?_ ?_ ?_ ?_ ?_
    ·exact fun v W W' hs=>⟨fun _ h=>h,⟨fun _ h=>h,⟨fun _ h=>h,⟨fun _ h=>h,⟨fun _ _=>trivial,⟨fun _ h=>h,⟨fun _ h=>h,⟨fun _ h=>h,⟨fun _ h=>h,⟨fun _ h=>h,⟨fun h=>absurd h (by decide),⟨fun h=>absurd h (by decide),⟨fun h=>absurd h (by decide),⟨fun h=>absurd h (by decide),⟨fun _ h=>zdI zkN hs h,trivial⟩⟩⟩⟩⟩⟩⟩⟩⟩⟩⟩⟩⟩⟩⟩
    ·refine⟨fun _=>?_,⟨fun _=>?_,⟨fun _=>?_,⟨fun _=>?_,⟨fun _=>?_,⟨fun _=>?_,⟨fun _=>?_,⟨fun _=>?_,⟨fun _=>?_,⟨fun _=>?_,⟨fun h=>absurd h (by decide),⟨fun h=>absurd h (by decide),⟨fun h=>absurd h (by decide),⟨fun h=>absurd h (by decide),⟨fun _=>?_,trivial⟩⟩⟩⟩⟩⟩⟩⟩⟩⟩⟩⟩⟩⟩⟩
     all_goals (intro a' W hW hoff hdep;have hbs:=hW.size;have H4:=hoff 4 rfl;have H1:=hoff 1 rfl;have H7:=hoff 7 rfl;have H11:=hoff 11 rfl;have H13:=hoff 13 rfl)
     ·refine nE rfl ?_
      clear hoff hdep;simp[execOp,Act.eval,go_sem,zaa, *]
      exact fr1 rfl
     ·refine nE rfl ?_
      simp[execOp,Act.eval,H1,go_sem,zaa]
      exact fr1 rfl
     ·refine nE rfl ?_
      clear hoff hdep;simp[execOp,Act.eval,go_sem,zaa, *]
      exact fr1 rfl
     ·refine nE rfl ?_
      clear hoff hdep;simp[execOp,Act.eval,go_sem,zaa, *]
      exact fr1 rfl
     ·have D67:_=_:=hdep 3 67 rfl
      refine nE rfl ?_
      simp[Act.eval,D67,go_sem,zaa]
      exact(HCw.out W hW).mono fun e w'' h=>(let ⟨h1,Al,cl,As,cs,h2,h3,h4⟩:=h;⟨_,h2,h1,Al,cl,As,cs,rfl,h3,fun q hq=>Nat.le_trans hbs (h4 q hq)⟩)
     ·refine nE rfl ?_
      simp[execOp,Act.eval,H7,go_sem,zaa]
      exact fr1 rfl
     ·have D69:_=_:=hdep 5 69 rfl
      refine nE rfl ?_
      clear hoff hdep;simp[execOp,Act.eval,go_sem,zaa, *]
      exact fr1 rfl
     ·refine nE rfl ?_
      simp[execOp,Act.eval,H13,go_sem,zaa]
      exact fr1 rfl
     ·have D70:_=_:=hdep 6 70 rfl
      have D71:_=_:=hdep 7 71 rfl
      refine nE rfl ?_
      clear hoff hdep;simp[execOp,Act.eval,go_sem,zaa, *]
      exact fr1 rfl
     ·have D72:_=_:=hdep 8 72 rfl
      refine nE rfl ?_
      clear hoff hdep;simp[execOp,Act.eval,go_sem,zaa, *]
      exact fr1 rfl
     ·refine nE rfl ?_
      simp[execOp,go_sem,zaa]
      exact⟨(Fr.refl _ _).alloc _,⟨_,rfl,Bx.new_ rfl,hbs⟩,Nat.le_refl _⟩
    ·refine⟨fun h=>absurd h (by decide),⟨fun h=>absurd h (by decide),⟨fun h=>absurd h (by decide),⟨fun h=>absurd h (by decide),⟨fun h=>absurd h (by decide),⟨fun h=>absurd h (by decide),⟨fun h=>absurd h (by decide),⟨fun h=>absurd h (by decide),⟨fun h=>absurd h (by decide),⟨fun h=>absurd h (by decide),⟨fun h=>absurd h (by decide),⟨fun _=>?_,⟨fun _=>?_,⟨fun _=>?_,⟨fun _=>?_,trivial⟩⟩⟩⟩⟩⟩⟩⟩⟩⟩⟩⟩⟩⟩⟩
     all_goals (intro a' W hW hoff hdep;have hbs:=(fun W h=>h.size) W hW)
     ·obtain⟨A1,n1,c1,A2,n2,c2,D74,hr⟩:(nwV O w3.heap.size) _ W:=hdep 10 74 rfl
      refine nE rfl ?_
      simp[execOp,Act.eval,D74,go_sem,zaa]
      exact⟨Fr.refl _ _,_,_,_,_,_,_,rfl,hr⟩
     ·obtain⟨A1,n1,c1,A2,n2,c2,D63,hr⟩:(nwV O w3.heap.size) _ W:=hdep 11 63 rfl
      refine nE rfl ?_
      simp[execOp,Act.eval,D63,go_sem,zaa]
      exact⟨Fr.refl _ _,_,_,_,_,_,_,rfl,hr⟩
     ·obtain⟨A1,n1,c1,A2,n2,c2,D63,hr⟩:(nwV O w3.heap.size) _ W:=hdep 11 63 rfl
      exact yE rfl ⟨.bool O.isSome,fun W=>by simp[execOp,Act.eval,D63,go_sem],rfl,rfl⟩
     ·refine nE rfl ?_
      simp[execOp,go_sem,zaa]
      exact⟨(Fr.refl _ _).alloc _,⟨_,rfl,Bx.new_ rfl,hbs⟩,Nat.le_refl _⟩
    ·intro o r ho hr a' W hW hoff hdep
     have hbs:=hW.size
     cases ho;cases hr
     have D64:_=_:=hdep 0 64 rfl
     have D65:_=_:=hdep 1 65 rfl
     have D66:_=_:=hdep 2 66 rfl
     obtain⟨Ul,uc,Us,vc',D68,hI4,hq4⟩:(cpA g w3.heap.size) _ W:=hdep 4 68 rfl
     have D73:_=_:=hdep 9 73 rfl
     simp[Act.eval,D64,D65,D66,D68,D73,go_sem,zlP]
     exact(HIw.out _ _ W hW hI4 hq4).mono fun e w'' h=>(let ⟨v,h1,h2,h3,h4⟩:=zdJ hI4 hq4 rfl hW h;⟨v,h1,h2,h3,h4⟩)
    ·exact fun _ _ _ _ h=>h.elim
    intro vs WR hWR hv hne
    obtain⟨A1R10,n1R10,c1R10,A2R10,n2R10,c2R10,e10,hrR10⟩:=hv 10 (by omega)
    obtain⟨A1R11,n1R11,c1R11,A2R11,n2R11,c2R11,e11,hrR11⟩:=hv 11 (by omega)
    obtain⟨A1R12,n1R12,c1R12,A2R12,n2R12,c2R12,e12,hrR12⟩:=hv 12 (by omega)
    obtain⟨b14,e14,hb14,hl14⟩:=hv 14 (by omega)
    simp only[lz6,List.drop_zero,znP,znM,znL,znF,znK,znR,Nat.zero_add,Nat.reduceAdd,e10,e11,e12,e14]
    simp only[Act.put,lz0,lz1,lz2]
    clear e10 e11 e12 e14 hv
    have hfbn:=hP.out.fbn
    have hb3:=D2.lt
    obtain⟨y0,y1⟩:=hb14.c2
    have yf:=fun i=>hb14.frozen i
    have yl:=hb14.lt
    have hst:Fr (fun b=>b=b14) WR ((WR.setCell ⟨b14,0,none⟩ (.slice A1R12 n1R12 c1R12)).setCell ⟨b14,1,none⟩ (.slice A2R12 n2R12 c2R12)):=((Fr.refl (fun b=>b=b14) WR).setCellX (p:=⟨b14,0,none⟩) (Eq.refl b14) _).setCellX (p:=⟨b14,1,none⟩) (Eq.refl b14) _
    obtain⟨W4,hW4⟩:∃W4,W4=((WR.setCell ⟨b14,0,none⟩ (.slice A1R12 n1R12 c1R12)).setCell ⟨b14,1,none⟩ (.slice A2R12 n2R12 c2R12)):=⟨_,rfl⟩
    have h34:Fr No w3 W4:=hW4▸hWR.trans hst (fun b hb e=>by omega)
    have q4:=hfr3.trans0 h34
    have B14:Bx W4 b14 tFr #[.slice A1R12 n1R12 c1R12,.slice A2R12 n2R12 c2R12]:=by
     rw[hW4]
     exact(hb14.setc (i:=0) (u:=.slice A1R12 n1R12 c1R12) rfl).setc (i:=1) (u:=.slice A2R12 n2R12 c2R12) rfl
    rw[<-hW4] at hst
    clear K0 K1 K2 KX0 KX1 KX2 KX3 HIw HCw hrR10 hrR11 hne
    cases O with
    | none=>
     have hgo3:Hid (R=([],(j:Int)+1)):=hgo2.out.trans (hnx0.out rfl)
     clear hnx0 hnx1 hbnd hgo2 HLd hcode hl3 hs3 hos3 hP hrR12 hst
     simp only[Option.isSome_none]
     go_wp2_with fail
     rw[<-hW4]
     replace hW4:=Lib.hid hW4
     clear y0 y1 yf yl
     (refine zgc (X:=No) (by kernel_rfl) (by kernel_rfl) ?_)
     (repeat((first|go_big_quiet_skip|(go_big_quiet_want;(apply Exists.intro;refine⟨fun W hW=>?_,?_⟩);(focus (exact fqc));go_big_quiet_on));(try simp only[Act.put,lz0,lz1,lz2])));refine wpQuiet_nil ?_
     intro w5 hf5
     go_wp2
     refine bodyPost_ret (v:=.tuple #[.slice (some ⟨w5.heap.size,0,none⟩) 0 0,.int .i64 ((j:Int)+1)]) (by simp[results,Tryz.results24,go_sem]) rfl ?_
     rw[hgo3.out]
     exact⟨frc,_,rfl,Frms.empty _ _ _⟩
    | some x=>
     obtain⟨Vl,vl',Vs,vs',he,hJx,hbx⟩:=hrR12.some'
     simp only[Ending.returned.injEq,Value.tuple.injEq,Value.agg.injEq,Array.mk.injEq,List.cons.injEq,Value.slice.injEq,and_true] at he
     obtain⟨⟨⟨rfl,rfl,rfl⟩,rfl,rfl,rfl⟩,_⟩:=he
     have hJ4:=hJx.keep hst (fun q hq e=>by subst e;exact hJx.ne hb14 zkN hq)
     have hgo3:=hgo2.out.trans (hnx1.out x rfl)
     have hbl:=Lib.hid (hbnd.out x rfl).1
     have hbs:=Lib.hid (hbnd.out x rfl).2
     have E0:=D0.keep h34
     have E1:=(hcm▸D1:Bx w3 (w.heap.size+1) 60 #[.string m.name,.slice Aa m.args.length ca,.int .i64 m.ret.kind,.string m.ret.name,.int .i64 m.locals,.int .i64 m.stack,.slice (some ⟨bc,oc,none⟩) m.code.length cc,.slice Ax m.maps.length cx]).keep h34
     obtain⟨b9,o9,hA9,_,x0,x1,x2,x3,_,_⟩:=hcode.out W4 q4
     cases hA9
     have K0:=E0.r1
     have K1:=E1.r8
     have K14:=B14.r2
     have KX0:=cr x0
     have KX1:=cr x1
     have KX2:=cr x2
     have KX3:=cr x3
     have HLx:=fun W (hW:Fr No W4 W)=>HLd.out No _ _ x i W (q4.trans0 hW) ((hJ4.keep0 hW).loc.sl (fun _ _ h=>h)) ((hJ4.keep0 hW).stk.sl (fun _ _ h=>h))
     generalize zcI p k0 m x i=L at *
     clear hnx0 hnx1 hbnd hgo2 HLd hcode hl3 hs3 hrR12 hJx x0 x1 x2 x3
     replace hgo3:=Lib.hid hgo3
     replace hJ4:=Lib.hid hJ4
     replace hbx:=Lib.hid hbx
     simp only[Option.isSome_some]
     go_wp2_with fail
     rw[<-hW4]
     replace hW4:=Lib.hid hW4
     clear y0 y1 yf yl
     (refine zgc (X:=No) (by kernel_rfl) (by kernel_rfl) ?_)
     (repeat((first|go_big_quiet_skip|(go_big_quiet_want;(apply Exists.intro;refine⟨fun W hW=>?_,?_⟩);(focus (first|exact fqc|(go_simp;first|(go_at_call 48;exact(HLx W hW).mono (fun _ _ h=>⟨h.1,hW.trans0 h.2⟩)))));go_big_quiet_on));(try simp only[Act.put,lz0,lz1,lz2])));refine wpQuiet_nil ?_
     intro w5 hf5
     cases L with
     | false=>
      replace hgo3:Hid (R=([],(j:Int)+1)):=hgo3.out
      clear K0 K1 K14 KX0 KX1 KX2 KX3 HLx
      go_wp2
      refine bodyPost_ret (v:=.tuple #[.slice (some ⟨w5.heap.size,0,none⟩) 0 0,.int .i64 ((j:Int)+1)]) (by simp[results,Tryz.results24,go_sem]) rfl ?_
      rw[hgo3.out]
      exact⟨frc,_,rfl,Frms.empty _ _ _⟩
     | true=>
      replace hgo3:Hid (R=zcL p k0 m (j+1) (m.code.drop (j+1)) x (zcK i) (outs ++ [g])):=hgo3.out
      have q5:=q4.trans0 hf5
      have h35:=h34.trans0 hf5
      have hJ5:=hJ4.out.keep0 hf5
      have G0:=E0.keep hf5
      have G1:=E1.keep hf5
      have GF:=D2.keep h35
      have G14:=B14.keep hf5
      obtain⟨z0,z1⟩:=G14.c2
      have zl:=G14.lt
      obtain⟨t0,t1⟩:=GF.c2
      have tf:=fun i=>GF.frozen i
      have tl:=GF.lt
      obtain⟨m0,m1,m2,m3,m4,m5,m6,m7⟩:=G1.c8
      have ml:=G1.lt
      obtain⟨i0',il⟩:=KX0 w5 hf5
      have hopc:(i.op=10∧(i.op != 10)=false∧zcK i=false)∨((i.op != 10)=true∧(i.op != 13)=false∧zcK i=false)∨((i.op != 10)=true∧(i.op != 13)=true∧zcK i=true):=by
       unfold zcK
       by_cases h10:i.op=10
       ·exact .inl ⟨h10,by simp[h10],by simp[h10]⟩
       ·by_cases h13:i.op=13
        ·exact .inr (.inl ⟨by simp[h10],by simp[h13],by simp[h13]⟩)
        ·exact .inr (.inr ⟨by simp[h10],by simp[h13],by simp[h10,h13]⟩)
      have hfF:Fr (fun b=>b=fb) w5 ((w5.setCell ⟨fb,0,none⟩ (.slice A1R12 x.locals.length c1R12)).setCell ⟨fb,1,none⟩ (.slice A2R12 x.stack.length c2R12)):=(Fr.one _ _ _ _).same (Fr.one _ _ _ _)
      have hLn:LkI p m A cap cm fb w (j+1) x (.slice A1R12 x.locals.length c1R12) (.slice A2R12 x.stack.length c2R12) (.slice (some ⟨g',0,none⟩) (outs.length+1) cap') (outs ++ [g]) ((w5.setCell ⟨fb,0,none⟩ (.slice A1R12 x.locals.length c1R12)).setCell ⟨fb,1,none⟩ (.slice A2R12 x.stack.length c2R12)):=by
       have hob:∀q,zcP (.slice (some ⟨g',0,none⟩) (outs.length+1) cap')=some q->∃cs,Bx w5 q tFrm cs:=fun q hq=>by
        obtain⟨_,h1,_⟩:=hos3.out
        obtain⟨cs,hb⟩:=h1.box hq
        exact⟨cs,hb.keep h35⟩
       have hnl:∀q,rB (.slice A1R12 x.locals.length c1R12) (.slice A2R12 x.stack.length c2R12) q->¬(zcP (.slice (some ⟨g',0,none⟩) (outs.length+1) cap')=some q∨q=fb):=fun q hq h=>by
        rcases h with h|rfl
        ·obtain⟨cs,hb⟩:=hob q h
         exact hJ5.ne hb zdz hq
        ·exact hJ5.ne GF zkN hq
       refine⟨G0.keepX hfF (by omega),hcm▸G1.keepX hfF (by omega),(GF.setc (i:=0) (u:=.slice A1R12 x.locals.length c1R12) rfl).setc (i:=1) (u:=.slice A2R12 x.stack.length c2R12) rfl,
        (hJ5.loc.sl (fun q hq=>hnl q (.inl hq))).keep hfF (fun _ h=>.inr h) (fun _ _ _ h=>h),(hJ5.stk.sl (fun q hq=>hnl q (.inr hq))).keep hfF (fun _ h=>.inr h) (fun _ _ _ h=>h),by rw[hbl.out];exact hgll,hbs.out,?_,by simp[hol.out],hfbn,q5.trans hfF (fun b hb e=>by omega)⟩
       exact hos3.out.keep (h35.of0.same (hfF.mono (fun _ _ h=>h))) (fun b hb _ e=>hb.2 e) (fun _ h _=>h)
      replace hLn:=Lib.hid hLn
      clear K0 K1 K14 KX0 KX1 KX2 KX3 HLx hfF hos3 G0 G1 GF G14 E0 E1 B14 D0 D1 D2 hJ5 hJ4
      rcases hopc with ⟨o10,b10,hg⟩ | ⟨b10,b13,hg⟩ | ⟨b10,b13,hg⟩
      all_goals
       replace hg:=Lib.hid hg
       try replace o10:=Lib.hid o10
       go_wp2
       go_roundw
       case rel=>
        refine⟨j+1,zcK i,x,_,_,outs ++ [g],by omega,by go_num,by rw[hg.out],hLn,hgo3⟩
       case measure=>simp[intOf];omega
  ·have hje:j=m.code.length:=by omega
   subst hje
   rw[List.drop_length,zdl] at go
   have hos:=Lib.hid hLk.os
   have hfl:=hLk.fbn
   have hadd:IntKind.i64.wrap ((m.code.length:Int)+1)=(m.code.length:Int)+1:=IntWalk.i64_in _ (by omega)
   clear HIn HLd HFr HMp hLk hins
   cases goes with
   | true=>
    have hgo:Hid (R=([],(m.code.length:Int)+1)):=go
    clear go
    go_wp2_with fail
    clear d0 d1 d2 d3 d4 d5 d6 d7 dl
    refine zn0 6 118 [mC (empV) (zix),mV (.pointer (some ⟨w.heap.size+1,6,none⟩)),mV (.slice Ac m.code.length cc),mV (.int .i64 m.code.length),mV (.int .i64 ((m.code.length:Int)+1)),mC (empV) (zix)] (by kernel_rfl) (by kernel_rfl) (by simp) ?_ ?_
    ·refine hc4 ?_ ?_ ?_ ?_ <| hopC ?_ <| hopC ?_ <| hopZ
     all_goals (intro a' W hW hoff hdep;have hbs:=hW.size;have H7:=hoff 7 rfl;refine nE rfl ?_)
     ·simp[execOp,go_sem,zaa];exact⟨(Fr.refl _ _).alloc _,_,rfl⟩
     ·simp[execOp,Act.eval,H7,go_sem,zaa];exact fr1 rfl
     ·have D114:_=_:=hdep 1 114 rfl;clear hoff hdep;simp[execOp,Act.eval,go_sem,zaa, *];exact fr1 rfl
     ·have D115:_=_:=hdep 2 115 rfl;simp[Act.eval,D115,go_sem,zaa];exact fr1 rfl
     ·have D116:_=_:=hdep 3 116 rfl;simp[execOp,Act.eval,D116,go_sem,zaa];exact⟨Fr.refl _ _,by show Value.int _ _=_;rw[hadd]⟩
     ·obtain⟨b0,D113⟩:(empV) _ W:=hdep 0 113 rfl;simp[execOp,Act.eval,D113,go_sem,zaa];exact⟨Fr.refl _ _,_,rfl⟩
    intro vs WR hWR hv hne
    obtain⟨b0R0,e0⟩:=hv 0 (by omega)
    obtain⟨b0R5,e5⟩:=hv 5 (by omega)
    simp only[lz6,List.drop_zero,znM,znK,znR,Nat.zero_add,Nat.reduceAdd,e0,e5]
    simp only[Act.put,lz0,lz1,lz2]
    clear e0 e5 hv
    clear KM
    go_wp2
    refine bodyPost_ret (v:=.tuple #[.slice (some ⟨b0R5,0,none⟩) 0 0,.int .i64 ((m.code.length:Int)+1)]) (by simp[results,Tryz.results24,go_sem]) rfl ?_
    rw[hgo.out]
    exact⟨hfr.trans0 hWR,_,rfl,Frms.empty _ _ _⟩
   | false=>
    have hgo:Hid (R=(outs,0)):=go
    clear go KM
    go_wp2
    refine bodyPost_ret (v:=.tuple #[.slice Ao outs.length co,.int .i64 0]) (by simp[results,Tryz.results24,go_sem]) rfl ?_
    rw[hgo.out]
    exact⟨hfr,_,rfl,hos.out.more (fun b hb=>by omega)⟩
end Go.Proofs.YthembcdcdnffeaaGreat
