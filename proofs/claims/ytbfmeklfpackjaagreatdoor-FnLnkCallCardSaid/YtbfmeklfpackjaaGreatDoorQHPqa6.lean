/- The law FnLnkCall's walk. -/
import Derived.Test.YtbfmeklfpackjaaGreatDoorQHPqa5
import Derived.Test.YtbfmeklfpackjaaGreatDoorTie
import Derived.Test.YtbfmeklfpackjaaGreatDoorCards
import Derived.ProofKit
import Derived.KernelRfl
import Derived.Below
import Derived.ChangeSame
import Derived.LaidMore
import Derived.LaidHandle
import Derived.Carry
import Derived.Stop.Joined
import Derived.SevenTiedAt
set_option maxHeartbeats 8000000
set_option maxRecDepth 100000
namespace Go.Proofs.YtbfmeklfpackjaaGreatDoor
open Go.RowKit Go.ChangeShapes Go.WideShapes Go.ChangeAt
theorem zvg (w:World) (a b c d:Value):(Instr.field 41 (.agg #[a,b,c,d]) 3).run Tryz.prog w=.ok d w:=by
 simp[Instr.field,asAgg,go_sem]
theorem zvh (v:Value) (bs:List Int) (w:World) (h:Sl No w 1 BytC v bs) (hg:ErrT w):
  Calls Tryz.prog 3 #[v] w (zgm true w):=by
 have HD:=fun W (hW:Fr No w W)=>zuZ v bs W (h.keep (R':=BytC) hW zN (fun _ _ _ h=>h))
 obtain⟨Ab,cb,rfl,_,_⟩:=h.form
 clear h
 by_cases hlen:(bs.length:Int) > 1048576
 ·go_enter Tryz.func3,Tryz.ntmps3
  go_wp2
  go_ret
  exact .mk rfl frc
 go_enter Tryz.func3,Tryz.ntmps3
 go_wp2_with (go_at_call 6;refine(HD _ (by exact frc)).mono ?_;rintro e w1 ⟨vp,ks,k,s,m,rfl,hsz,hmz,hS,hf1⟩;refine Hid.out ?_)
 refine Lib.hid ?_
 obtain⟨Ap,cp,rfl,hcp,hcm⟩:=hS.form
 have hS1:Sl No w1 2 (KprC No w1) (.slice Ap ks.length cp) (⟨ks⟩:Plan).keepers:=hS.weaken zN (fun _ _ _ h=>h.weaken zN)
 obtain⟨p,hp⟩:∃p:Plan,p=⟨ks⟩:=⟨_,rfl⟩
 rw[<-hp] at hS1
 have hpl:p.keepers.length=ks.length:=by rw[hp]
 replace hp:=Lib.hid hp
 replace hpl:=Lib.hid hpl
 have hsM:s.size≤maxLen:=by unfold maxLen;omega
 have hmM:m.size≤maxLen:=by unfold maxLen;omega
 obtain⟨w2,hw2⟩:∃w2,w2=w1.alloc (.cells #[.slice Ap ks.length cp] 25):=⟨_,rfl⟩
 have hf12:Fr No w1 w2:=hw2▸frc
 have B3:Bx w2 w1.heap.size 25 #[.slice Ap ks.length cp]:=hw2▸bxc
 have hS2:=hS1.keep (R':=KprC No w2) hf12 zN (fun _ _ _ h=>h.keep hf12 zN)
 have hw12:=hf1.trans0 hf12
 have hg2:=hw12.keep0 hg
 clear hf1 hS hS1 HD hf12 hg
 have HI:=fun W (hW:Fr No w2 W)=>zu5 p (.slice Ap ks.length cp) k s m W (hS2.keep (R':=KprC No W) hW zN (fun _ _ _ h=>h.keep hW zN)) hsM hmM (hW.keep0 hg2)
 have HS:=fun W (hW:Fr No w2 W)=>zu6 No p (.slice Ap ks.length cp) k s m W (hS2.keep (R':=KprC No W) hW zN (fun _ _ _ h=>h.keep hW zN)) hsM hmM
 obtain⟨V,hV⟩:∃V,V=zu3 p k s m:=⟨_,rfl⟩
 rw[<-hV] at HI HS
 obtain⟨⟨⟨uk,un⟩,ui⟩,uc⟩:=V
 unfold zd5 at HI HS
 dsimp only at HI HS
 replace hV:=Lib.hid hV
 have hcc:(uc != uc)=false:=by simp
 have p30:=B3.c1
 have p3l:=B3.lt
 go_wp2_with (go_at_call 7;rw[<-hw2];refine(HI _ (Fr.refl _ _)).mono ?_;rintro e w3 ⟨rfl,hf3⟩;refine Hid.out ?_)
 refine Lib.hid ?_
 replace hw2:=Lib.hid hw2
 have B33:=B3.keep hf3
 have p30:=B33.c1
 have p3l:=B33.lt
 obtain⟨w4,hw4⟩:∃w4,w4=w3.alloc (.cells #[.int .i64 uk,.string un,.int .i64 ui] 31):=⟨_,rfl⟩
 have hf34:Fr No w3 w4:=hw4▸frc
 have B7:Bx w4 w3.heap.size 31 #[.int .i64 uk,.string un,.int .i64 ui]:=hw4▸bxc
 have HS4:=HS w4 (hf3.trans0 hf34)
 have q4:=hf3.trans0 hf34
 go_wp2_with (go_at_call 8;rw[<-hw4];refine HS4.mono ?_;rintro e w5 ⟨rfl,hf5⟩;refine Hid.out ?_)
 refine Lib.hid ?_
 replace hw4:=Lib.hid hw4
 have q5:=q4.trans0 hf5
 have B9:Bx (w5.alloc (.cells #[.int .i64 uk,.string un,.int .i64 ui] 31)) w5.heap.size 31 #[.int .i64 uk,.string un,.int .i64 ui]:=bxc
 have hf56:=(Fr.refl No w5).alloc (.cells #[.int .i64 uk,.string un,.int .i64 ui] 31)
 have B76:=(B7.keep hf5).keep hf56
 have B36:=B3.keep (q5.trans0 hf56)
 obtain⟨m0,m1,m2⟩:=B76.c3
 have ml:=B76.lt
 obtain⟨n0,n1,n2⟩:=B9.c3
 have nl:=B9.lt
 have p30:=B36.c1
 have p3l:=B36.lt
 have q6:=q5.trans0 hf56
 clear HI HS HS4 B33 hf3 hf34 q4 hf5 q5 hf56 B3 B7
 go_upto_if 52 with (fail)
 generalize w5.alloc (.cells #[.int .i64 uk,.string un,.int .i64 ui] 31)=w6 at *
 by_cases hc1:uc=1
 ·subst hc1
  obtain⟨hlp,hkp,kc,ic,kq,iq,a,hfS,hh,hqk,hhq,hzq,ha,hpk,hl,hnm,hag,hmb⟩:=zvf hV.out.symm
  obtain⟨rfl,_⟩:=Ref.mk.inj hqk
  subst ha
  have hS6:=hS2.keep (R':=KprC No w6) q6 zN (fun _ _ _ h=>h.keep q6 zN)
  have hw9:=hw12.trans0 q6
  have hkcl:kc<4:=by have:=zbM hlp;have:=hh.2.1;omega
  have HF:=zu9 p (.slice Ap ks.length cp) k s w6 hS6 hsM
  rw[hfS] at HF
  unfold refV at HF
  dsimp only at HF
  clear hqk hV hS2 hfS q6
  go_wp2_with (go_at_call 9;refine HF.mono ?_;rintro e w7 ⟨rfl,hf7⟩;refine Hid.out ?_)
  refine Lib.hid ?_
  have hS7:=hS6.keep (R':=KprC No w7) hf7 zN (fun _ _ _ h=>h.keep hf7 zN)
  have p30:=(B36.keep hf7).c1
  have p3l:=(B36.keep hf7).lt
  obtain⟨w8,hw8⟩:∃w8,w8=w7.alloc (.cells #[.int .i64 kc,.string s] 29):=⟨_,rfl⟩
  have hf78:Fr No w7 w8:=hw8▸frc
  have hS8:=hS7.keep (R':=KprC No w8) hf78 zN (fun _ _ _ h=>h.keep hf78 zN)
  have B38:=(B36.keep hf7).keep hf78
  have B78:=(B76.keep hf7).keep hf78
  have q8:=(hw9.trans0 hf7).trans0 hf78
  have HPk:=zu7 p (.slice Ap ks.length cp) ⟨kc,s⟩ m w8 hS8 hsM hmM (zdW hkcl)
  rw[hpk] at HPk
  unfold zku at HPk
  dsimp only at HPk
  clear HF hS6 hS7 hf7 hf78 B36 B76 hw9 hh hpk B9 m0 m1 m2 ml n0 n1 n2 nl
  go_wp2_with (go_at_call 10;rw[<-hw8];refine HPk.mono ?_;rintro e w9 ⟨rfl,hf9⟩;refine Hid.out ?_)
  refine Lib.hid ?_
  replace hw8:=Lib.hid hw8
  have B79:=B78.keep hf9
  obtain⟨m0,m1,m2⟩:=B79.c3
  have ml:=B79.lt
  have p30:=(B38.keep hf9).c1
  have p3l:=(B38.keep hf9).lt
  obtain⟨w10,hw10⟩:∃w10,w10=w9.alloc (.cells #[.int .i64 kq,.string un,.int .i64 a] 31):=⟨_,rfl⟩
  have hf10:Fr No w9 w10:=hw10▸frc
  have B13:Bx w10 w9.heap.size 31 #[.int .i64 kq,.string un,.int .i64 a]:=hw10▸bxc
  have q10:=(q8.trans0 hf9).trans0 hf10
  have B710:=B79.keep hf10
  have B310:=(B38.keep hf9).keep hf10
  have hS10:=(hS8.keep (R':=KprC No w9) hf9 zN (fun _ _ _ h=>h.keep hf9 zN)).keep (R':=KprC No w10) hf10 zN (fun _ _ _ h=>h.keep hf10 zN)
  have HLo:=zvc p (.slice Ap ks.length cp) un kq iq w10 hS10 hhq
  clear HPk hS8 hf9 hf10 B38 B78 B79 q8
  go_wp2_with (go_at_call 11;rw[<-hw10];refine HLo.mono ?_;rintro e w11 ⟨Af,Am,cf,cm,rfl,hcl,hf11⟩;refine Hid.out ?_)
  refine Lib.hid ?_
  replace hw10:=Lib.hid hw10
  have hhk:=hhq.2.1
  have hkq:hasK p (kq:Int)=true:=by unfold hasK;simp;omega
  clear hhq HLo
  generalize zbG p ⟨(kq:Int),un⟩=x at *
  obtain⟨vf,vm,er,z0,z1,hvf,hvm⟩:=hcl
  cases er
  obtain⟨bm,om,Aa,ca,Ac,cc,Amm,cmm,rfl,_,e0,e1,e2,e3,_,_,_,_,_,hrz,hva,_⟩:=hvm.mth hl
  rw[hnm] at e0
  clear hvf hvm z0 z1
  have hq11:=q10.trans0 hf11
  have B711:=B710.keep hf11
  have B311:=B310.keep hf11
  have B131:=B13.keep hf11
  have hS11:=hS10.keep (R':=KprC No w11) hf11 zN (fun _ _ _ h=>h.keep hf11 zN)
  obtain⟨m0,m1,m2⟩:=B711.c3
  have ml:=B711.lt
  obtain⟨n0,n1,n2⟩:=B131.c3
  have nl:=B131.lt
  have el:=lt_of_cell e0
  have hln:¬(x.methods.length:Int)≤(a:Int):=by omega
  have hli:(a:Int)<(x.methods.length:Int):=by omega
  generalize x.methods[a]=y at *
  clear hS10 B310 B710 B13 q10 hf11 hnm
  have hmb':=hmb
  unfold mthB at hmb'
  simp only[lz5,decide_eq_true_eq,List.all_eq_true] at hmb'
  have hal:=hmb'.1.1.1.1.1.1.1.1.2
  have hkr:=hmb'.1.1.1.1.1.1.1.2
  have hka:=hmb'.1.1.1.1.1.1.2
  unfold zgM at hag
  simp only[lz5,List.all_eq_true] at hag
  obtain⟨hga,hgr⟩:=hag
  have HS:=fun W (hW:Fr No w11 W)=>hS11.keep (R':=KprC No W) hW zN (fun _ _ _ h=>h.keep hW zN)
  have HA:=fun(W:World) (hW:Fr No w11 W) (kd:Knd) (hz:kd.name.size≤maxLen) (h1:kndB kd=true) (h2:zmJ p k kq kd=true)=>zva p (.slice Ap ks.length cp) k kq kd W (HS W hW) hz hlp hkp hkq h1 h2
  have HR:=fun W hW=>HA W hW y.ret hrz hkr hgr
  have HAA:=Lib.hid (fun W hW (j:Nat) (hj:j<y.args.length) (hz:y.args[j].name.size≤maxLen)=>HA W hW y.args[j] hz (hka _ (List.getElem_mem hj)) (hga _ (List.getElem_mem hj)))
  clear hmb' hmb hkr hka hga hgr HS HA hS11
  have hfd:=zvg w11 (.string x.name) (.string x.super) (.slice Af x.fields.length cf) (.slice (some ⟨bm,om,none⟩) x.methods.length cm)
  go_wp2_with fail
  clear m0 m1 m2 ml n0 n1 n2 nl p30 p3l hfd
  go_loopw [16] (fun i wr=>∃j:Nat,j≤y.args.length∧i=.int .i64 j∧Hid (Fr No w11 wr)) (fun i _=>y.args.length-(intOf i).toNat)
  case atStart=>exact⟨0,Nat.zero_le _,rfl,Lib.hid (Fr.refl _ _)⟩
  case round=>
   obtain⟨j,hj,rfl,hI⟩:=hrel
   have f:=hI.out
   replace hI:=Lib.hid hI
   obtain⟨m0,m1,m2⟩:=(B711.keep f).c3
   have ml:=(B711.keep f).lt
   have p30:=(B311.keep f).c1
   have p3l:=(B311.keep f).lt
   have d0:=f.keep0 e0
   have d1:=f.keep0 e1
   have d2:=f.keep0 e2
   have d3:=f.keep0 e3
   have dl:=lt_of_cell d0
   by_cases hlt:j<y.args.length
   ·have hlt9:(j:Int)<(y.args.length:Int):=by omega
    obtain⟨bg,og,rfl,_,g0,g1,gz⟩:=(hva.k0 f).knd hlt
    have gl:=lt_of_cell g0
    have H:=fun W (hW:Fr No wr W)=>HAA.out W (f.trans0 hW) j hlt gz
    have K3:=(B311.keep f).r1
    have K7:=(B711.keep f).r3
    have KE:=fun W (hW:Fr No wr W)=>(⟨hW.keep0 d0,hW.keep0 d1,hW.keep0 d2,hW.keep0 d3⟩:_∧_∧_∧_)
    have KG:=fun W (hW:Fr No wr W)=>(⟨hW.keep0 g0,hW.keep0 g1⟩:_∧_)
    have hadd:IntKind.i64.wrap ((j:Int)+1)=((j+1:Nat):Int):=by rw[IntWalk.i64_in _ (by omega)];simp
    clear e0 e1 e2 e3 hva
    generalize y.args[j]=kd at *
    go_wp2_with fail
    (refine zgc (X:=No) (by kernel_rfl) (by kernel_rfl) ?_);(repeat(first|(apply zgb;(focus (exact rfl));simp only[Act.put,lz0,lz1,lz2])|(apply zga;(focus (exact rfl));(focus (intro W hW;go_simp;first|done|exact rfl|(go_at_call 12;exact(H W hW).mono (fun _ _ h=>⟨h.1,hW.trans0 h.2⟩))));simp only[Act.put,lz0,lz1,lz2])));refine wpQuiet_nil ?_
    intro w12 hf12
    have f9:=f.trans0 hf12
    clear K3 K7 KE KG H m0 m1 m2 ml p30 p3l d0 d1 d2 d3 dl g0 g1 gl f
    go_wp2_with fail
    exact⟨⟨j+1,by omega,by simp,Lib.hid f9⟩,by simp[intOf];omega⟩
   ·have hlt9:¬(j:Int)<(y.args.length:Int):=by omega
    have H:=fun W (hW:Fr No wr W)=>HR W (f.trans0 hW)
    have K3:=(B311.keep f).r1
    have K7:=(B711.keep f).r3
    have KE:=fun W (hW:Fr No wr W)=>(⟨hW.keep0 d0,hW.keep0 d1,hW.keep0 d2,hW.keep0 d3⟩:_∧_∧_∧_)
    have hw9:=hq11.trans0 f
    clear e0 e1 e2 e3
    go_wp2_with fail
    (refine zgc (X:=No) (by kernel_rfl) (by kernel_rfl) ?_);(repeat(first|(apply zgb;(focus (exact rfl));simp only[Act.put,lz0,lz1,lz2])|(apply zga;(focus (exact rfl));(focus (intro W hW;go_simp;first|done|exact rfl|(go_at_call 12;exact(H W hW).mono (fun _ _ h=>⟨h.1,hW.trans0 h.2⟩))));simp only[Act.put,lz0,lz1,lz2])));refine wpQuiet_nil ?_
    intro w12 hf12
    clear K3 K7 KE H m0 m1 m2 ml p30 p3l d0 d1 d2 d3 dl f
    go_wp2_with fail
    go_ret
    exact .mk rfl (hw9.trans0 hf12)
 ·obtain⟨c9,hV9,hc2,hc4⟩:=zvd (p:=p) (k:=k) (s:=s) (m:=m) (by rw[<-hV.out];exact hc1)
  rw[<-hV.out] at hV9
  simp only[zbH,Prod.mk.injEq,Ref.mk.injEq] at hV9
  obtain⟨⟨⟨rfl,rfl⟩,rfl⟩,rfl⟩:=hV9
  have hne:(uc != 1)=true:=by simpa using hc1
  have hw9:=hw12.trans0 q6
  clear hV hcc
  go_wp2_with fail
  go_ret
  exact .mk (by simp[*]) hw9
theorem ziE {α:Type}:∀(n:Nat) (p:Nat->α->Prop),(∀i,i<n->∃a,p i a)->∃l:List α,l.length=n∧∀i (hi:i<l.length),p i l[i]
 | 0,_,_=>⟨[],rfl,fun i hi=>absurd hi (by simp)⟩
 | n+1,p,h=>by
  obtain⟨a,ha⟩:=h 0 (by omega)
  obtain⟨l,hl,hp⟩:=ziE n (fun i=>p (i+1)) (fun i hi=>h (i+1) (by omega))
  refine⟨a :: l,by simp[hl],fun i hi=>?_⟩
  cases i with
  | zero=>exact ha
  | succ j=>exact hp j (by simpa using hi)
theorem ziF {α:Type} {R:List Value->α->Prop} {H:Type} {enc:TypeId×Value->H} {P:Program} {W:World} {sp:Nat->Bool} {held:Bool} {t e:TypeId} {sz:Nat} {v:Value} {fuel:Nat} {x:DataW H×List MemPlace}
  (ht:P.underlying t=some (.slice e)) (hc:P.cellsOf e=sz) (hpos:0<sz) (hR:∀fuel cs (y:DataW H×List MemPlace),DataW.trod enc P W 0 sp held fuel e cs=some y->∃a,R cs a)
  (h:DataW.trod enc P W 0 sp held fuel t [v]=some x):∃xs:List α,Sl No W sz R v xs:=by
 rcases DataW.trod_slice ht h with ⟨hv,_⟩ | ⟨a,len,cap,elems,rest,n,_,hv,_,_,hlc,hcm,hel,he,_,_⟩
 ·obtain rfl:=(List.cons.inj hv).1
  exact⟨[],Sl.nil _ _ _ _⟩
 ·obtain rfl:=(List.cons.inj hv).1
  rw[hc] at he
  obtain⟨xs,hxl,hxs⟩:=ziE (α:=α) len (fun i y=>∃cs,R cs y∧cs.length=sz∧∀j,j<sz->W.cell? ((a.add (i * sz)).add j)=cs[j]?) (fun i hi=>by
   have h1:=he i hi
   rw[lz8 (show i<elems.length by omega),Option.bind_eq_some_iff] at h1
   obtain⟨cs,h2,h3⟩:=h1
   obtain⟨y,hy⟩:=hR _ _ _ h3
   obtain⟨_,h4,h5⟩:=World.cells?_some h2
   exact⟨y,cs,hy,h4,h5⟩)
  refine⟨xs,some a,cap,by rw[hxl],by omega,by omega,fun h0=>?_⟩
  have hspot:a.spot=none:=by
   obtain⟨cs,_,hl,hcell⟩:=hxs 0 h0
   have h1:=hcell 0 hpos
   rw[lz8 (show 0<cs.length by omega)] at h1
   have h2:W.cell? a=some cs[0]:=by
    have e:(a.add (0 * sz)).add 0=a:=by simp[Addr.add]
    rwa [e] at h1
   unfold World.cell? at h2
   split at h2
   ·cases hs:a.spot
    ·rfl
    ·rw[hs] at h2;simp at h2
   ·cases h2
  obtain⟨b,off,spot⟩:=a
  dsimp only at hspot
  subst hspot
  refine⟨b,off,rfl,fun h=>h.elim,fun k hk=>?_⟩
  obtain⟨cs,hRc,hl,hcell⟩:=hxs k hk
  refine⟨cs,hRc,hl,fun j hj=>?_⟩
  rw[<-hcell j hj]
  congr 1
  unfold Addr.add
  split<;>split<;>simp_all [Nat.add_assoc]
section
variable {H:Type} {enc:TypeId×Value->H} {W:World} {sp:Nat->Bool} {held:Bool}
end
theorem zvi {H:Type} {enc:TypeId×Value->H} {W:World} {sp:Nat->Bool} {held:Bool} {fuel:Nat} {cs:List Value} {x:DataW H×List MemPlace} (h:DataW.trod enc Tryz.prog W 0 sp held fuel 5 cs=some x):∃k:Int,BytC cs k:=by
 have h9:=DataW.trod_int Tryz.underlying5 h
 obtain⟨n,e0,e1,e2⟩:=h9
 refine⟨n,e0,?_⟩
 simp[Lit.wf] at e2
 have h1:IntKind.u8.min=0:=by decide
 have h2:IntKind.u8.max=255:=by decide
 omega
theorem own:ownKnob Tryz.prog.godebug=none:=by kernel_rfl
theorem laidOut:laidOutB Tryz.prog=true:=by kernel_rfl
theorem zvj:Tryz.prog.globalNamed "errors.errorType"=some 0:=by kernel_rfl
theorem zvk:(Tryz.prog.cutTypes.find? (·.1 == "internal/reflectlite.rtype")).map (·.2)=some 187:=by kernel_rfl
theorem zvl:((List.range 274).filter fun t=>Tryz.prog.rowNamed t [101,114,114,111,114])=[75]:=by kernel_rfl
theorem zvm:Tryz.prog.types.size=274:=by kernel_rfl
theorem zvn {W:World} (h:laidMetH Tryz.prog Rows.fnLnkCallRow.laid W):ErrT W:=by
 have h':laidMet Tryz.prog [] W∧handlesMet Tryz.prog Rows.fnLnkCallRow.laid W:=h
 obtain⟨name,u,ty,e1,e2,e3,e4,e5⟩:=h'.2 _ (List.mem_singleton.2 rfl)
 have en:name=[101,114,114,111,114]:=(Option.some.inj e1).symm
 subst en
 obtain rfl:=Option.some.inj (zvk.symm.trans e2)
 have hm:ty∈(List.range 274).filter fun t=>Tryz.prog.rowNamed t [101,114,114,111,114]:=List.mem_filter.2 ⟨List.mem_range.2 (by rw[<-zvm];exact e3),e4⟩
 rw[zvl] at hm
 obtain rfl:=List.mem_singleton.1 hm
 have hh:typeHandle Tryz.prog 75=.pointer (some ⟨1,75,none⟩):=by kernel_rfl
 rw[hh] at e5
 have h9:=World.var?_cell zvj e5 0
 unfold ErrT
 simpa using h9
noncomputable def laidWorld (os:Os):World:=
 let w0:=World.holding Tryz.prog os ⟨#[],#[],[]⟩
 { w0 with heap:=w0.heap.modify 0 fun
   | .cells _ t frozen=>.cells #[.iface 187 (.agg #[.pointer (some ⟨1,75,none⟩)])] t frozen
   | o=>o }
theorem zvo (os:Os) (args:Array Value):laidMetH Tryz.prog Rows.fnLnkCallRow.laid ((laidWorld os).forCall (fun _ _=>0) ⟨#[],args,[]⟩).memory:=
 laidMetH_of_parts (laidMet_nil _ _) (by kernel_rfl)
section
variable {H:Type} {enc:TypeId×Value->H} {P:Program}
theorem zgp {f:Func} {s:ChangeSpec} {apart fresh handsOn again:Bool} {W W':World} {args:Array Value} {v:Value} {ds gs:List (DataW H)} {before pa pv:List MemPlace}
  (hW:DataW.Whole enc P f.params.toList s.vars apart W args.toList ds gs before)
  (hres:∀(b:Nat) (sp:Nat->Bool) (hd:Bool),DataW.TrodAll enc P W' b sp hd f.resultTypes.toList (v.resultList f.resultTypes.size) (s.fn H (ds ++ gs)).results [])
  (hargs:∀sp:Nat->Bool,(∀p∈before,sp p.block=true)->DataW.TrodAll enc P W' 0 sp true f.params.toList args.toList (s.fn H (ds ++ gs)).args pa)
  (hvars:∀sp:Nat->Bool,(∀p∈before,sp p.block=true)->DataW.TrodVars enc P W' sp s.vars (s.fn H (ds ++ gs)).vars pv)
  (hps:before=pa ++ pv) (hb:Below W.heap.size W W')
  (hok:∀(j:Nat) (t:TypeId) (r:Value),f.resultTypes[j]? =some t->(v.resultList f.resultTypes.size)[j]? =some r->Value.okWide P W' .any 0 t r):
  s.post enc P f apart fresh handsOn again W args v W':=by
 have hlt:∀p∈before,p.block<W.heap.size:=fun p hp=>hW.lt p hp
 have hold:∀p∈before,(fun b=>decide (b<W.heap.size)) p.block=true:=fun p hp=>by simpa using hlt p hp
 refine⟨ds,gs,before,[],pa,pv,hW,hres _ _ _,hargs _ hold,hvars _ hold,World.keptBut_mono (fun p hp=>⟨hp,?_⟩) (hb.frame (·∈before)),fun _=>?_⟩
 ·rw[hps,List.mem_append] at hp
  exact Or.inr hp
 ·obtain⟨_,_,_,_,_,hz,hn⟩:=hW
  refine⟨hok,_,_,([] ++ pa) ++ pv,⟨[] ++ pa,pv,trodAll_append (hargs _ (fun _ _=>rfl)) (hres _ _ _),hvars _ (fun _ _=>rfl),rfl,?_,?_⟩,?_⟩
  ·intro b off hp
   have hin:MemPlace.cell b off∈before:=by rw[hps];simpa using hp
   rw[hb.frozen (hlt _ hin)]
   exact hz b off hin
  ·intro ha
   have:=hn ha
   rw[hps] at this
   simpa using this
  ·intro p hp _
   rw[hps]
   simpa using hp
end
theorem lifted (os:Os) (started:os.Started) (H:Type) (enc:TypeId×Value->H):
  ReturnsInHanded {} Tryz.checked os 3 .any (fun w args=>(Rows.fnLnkCallSpec.pre enc Tryz.prog Tryz.f3 [] false w args∧laidMetH Tryz.prog Rows.fnLnkCallRow.laid w)∧sizedMet enc Tryz.prog Tryz.f3 (OpenSpec.ofChange Rows.fnLnkCallSpec) false w args)
   (Rows.fnLnkCallSpec.post enc Tryz.prog Tryz.f3 false true false false):=by
 refine returnsInHanded_of_change_and (C:=Tryz.checked) (X:=fun w _=>laidMetH Tryz.prog Rows.fnLnkCallRow.laid w) (fun _ _ _ hh h=>h.of_heap hh) own started (by kernel_rfl) Tryz.func3
  (ChangeSpec.witness_at (enc:=enc) (C:=Tryz.checked) (os:=os) (X:=fun w _=>laidMetH Tryz.prog Rows.fnLnkCallRow.laid w) false (laidWorld os) #[.slice none 0 0] 8 rfl (by kernel_rfl) (by kernel_rfl) (by kernel_rfl) (by kernel_rfl) (by kernel_rfl) (zvo os _)) ?_
 intro W base args ds gs before hval0 hW _ _ hL _
 have hg:ErrT W:=zvn hL
 have hval:∀(j:Nat) t v,Tryz.f3.params[j]? =some t->args[j]? =some v->Value.okWide Tryz.prog W .any base t v:=hval0
 have hW':=hW
 obtain⟨p,q,hA0,hV,rfl,hfz,hnd⟩:=hW
 have hA:DataW.TrodAll enc Tryz.prog W 0 (fun _=>true) true Tryz.f3.params.toList args.toList ds p:=hA0
 rw[Tryz.params3] at hA hval
 obtain⟨v0,d0,rfl,rfl,h0⟩:=trodAll_one hA
 obtain⟨rfl,rfl⟩:=trodVars_none hV
 obtain⟨a0,n0,c0,rfl⟩:=okWide_slice Tryz.underlying22 (hval 0 _ v0 rfl rfl)
 have g0:=h0
 obtain⟨fuel0,hf0⟩:=h0
 obtain⟨bs,hbs⟩:=ziF (R:=BytC) Tryz.underlying22 (show Tryz.prog.cellsOf 5=1 by kernel_rfl) (by decide) (fun _ _ _ h=>zvi h) hf0
 clear hA0 hval0
 have hlt:∀x∈p ++ [],x.block<W.heap.size:=fun x hx=>hW'.lt x hx
 refine(zvh _ bs W hbs hg).mono fun e W' ⟨he,hw⟩=>?_
 subst he
 exact⟨_,rfl,zgp (pa:=p) (pv:=[]) hW' (fun _ _ _=>trodAll_mk1 (shut_bool Tryz.underlying4 true))
  (fun sp hsp=>trodAll_mk1
   (WideElems.Trod_stays laidOut (by kernel_rfl) (of_decide_eq_true (by kernel_rfl)) g0 (fun x hx=>hw.below.same (hlt x (by simp[hx]))) (fun x hx=>hsp x (by simp[hx]))))
  (fun _ _=>rfl) (by simp) hw.below (ok_one (by kernel_rfl) rfl (okWide_bool_mk Tryz.underlying4 true))⟩
theorem row_holds:Rows.FnLnkCallSaid:=
 OpenClaim.holds_of_wide 3 Tryz.f3 rfl rfl rfl rfl rfl rfl rfl ⟨rfl,rfl,rfl,rfl,rfl⟩ rfl rfl rfl rfl rfl (by kernel_rfl) Tryz.func3 (by kernel_rfl)
  (of_decide_eq_true (by kernel_rfl)) (by unfold Func.isWrapper;first|(rw[if_pos (by decide +kernel)];kernel_rfl)|(rw[if_neg (by decide +kernel)];exact⟨rfl,rfl⟩))
  (fun os started H enc _=>lifted os started H enc)
theorem lnkCall_holds:Rows.FnLnkCallCardSaid:=
 Claim7.holds_tied_plain_at .later [] [.handle] true (true,"1ff69f33d7a93bdb1e19c48fd6e7faa106e908aadf6f0d4800c839e5f341ef69") true
  row_holds (fun _ h=>by cases h) (by kernel_rfl) (fun _ h=>by cases h) fnLnkCall_row_tie rfl ⟨rfl,rfl⟩ (by kernel_rfl) rfl
  (fun f fn hf hfn=>by
   obtain rfl:f=3:=Option.some.inj ((show Tryz.prog.funcNamed "loop.example/lodgekeeper/laws.FnLnkCall"=some 3 by kernel_rfl).symm.trans hf) |>.symm
   obtain rfl:fn=Tryz.f3:=(Option.some.inj (Tryz.func3.symm.trans hfn)).symm
   exact⟨by kernel_rfl,fun j t ht=>by
    rw[Tryz.params3] at ht
    have h3:t=22:=by
     rcases j with _|j
     ·simpa using ht.symm
     ·simp at ht
    subst h3
    exact(show Tryz.prog.wantsStandIn 22=false by kernel_rfl)⟩)
  (by kernel_rfl)
#print axioms lnkCall_holds
end Go.Proofs.YtbfmeklfpackjaaGreatDoor
