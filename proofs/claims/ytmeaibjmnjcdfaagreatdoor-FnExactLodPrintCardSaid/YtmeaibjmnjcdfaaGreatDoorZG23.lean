/- A class's text, as the program writes it. -/
import Derived.Test.YtmeaibjmnjcdfaaGreatDoorZG22
import Derived.Deep.DeepCutAuto
import Derived.Deep.CutBlock
set_option maxHeartbeats 8000000
set_option maxRecDepth 100000
namespace Go.Proofs.YtmeaibjmnjcdfaaGreatDoor
open Go.RowKit
def zyJ (c:Cls):Prop:=c.name.size≤6∧c.super.size≤6∧c.fields.length≤3∧c.methods.length≤4∧(∀f∈c.fields,f.name.size≤6)∧∀m∈c.methods,zyu m
theorem zyK {m:Mth} (h:zyu m):(mthT m).length≤22:=by
 obtain⟨_,_,_,_,_,_,h7,h8,_⟩:=h
 unfold mthT
 simp
 omega
theorem zyL {α β:Type} {f:α->List β} {k:Nat}:∀xs:List α,(∀x∈xs,(f x).length≤k)->(xs.flatMap f).length≤k * xs.length
 | [],_=>by simp
 | x :: xs,h=>by
  have h1:=h x (by simp)
  have h2:=zyL xs (fun y hy=>h y (by simp[hy]))
  rw[List.flatMap_cons,List.length_append,List.length_cons,Nat.mul_succ]
  omega
theorem zyM {m:Mth} (h:zyu m):∀x∈mthT m,x.size≤200:=by
 intro x hx
 have h0:=zyw h
 obtain⟨_,h2,_,_,_,_,_,_,h9⟩:=h
 unfold mthT at hx
 simp only[List.cons_append,List.mem_cons,List.mem_append,List.mem_map] at hx
 rcases hx with rfl | ⟨y,hy,rfl⟩ | ⟨y,hy,rfl⟩
 ·rw[zpT]
  have h3:=zyc m.args
  unfold zx3
  simp
  omega
 ·rw[zpT]
  have h4:=zyz (h9 y hy) y.locals.length y.stack.length
  rw[List.take_length,List.take_length] at h4
  unfold mapT
  omega
 ·rw[zpT]
  have:=zyA y
  omega
theorem zyN (c:Cls):(⟨#[99,108,97,115,115,32]⟩:Str) ++ c.name ++ ⟨#[32]⟩ ++ zbl (zx4 c.super)=zbl (zx5 c):=by
 unfold zx5 zxY
 rw[<-zqJ,<-zqJ,<-zqJ]
 rfl
theorem zyO (n:Str) (k:Knd):(⟨#[102,105,101,108,100,32]⟩:Str) ++ n ++ ⟨#[32]⟩ ++ zbl (kndT k)=zbl (fldT ⟨n,k⟩):=by
 unfold fldT zxZ
 rw[<-zqJ,<-zqJ,<-zqJ]
 rfl
theorem zyP (n:Str) (k:Knd) (h:n.size≤6):(zbl (fldT ⟨n,k⟩)).size≤20:=by
 have h1:(Str.l n).length≤6:=by rw[zkb];exact h
 have h2:=zya k
 rw[zpT]
 unfold fldT zxZ
 simp
 omega
theorem zyQ (X:Nat->Prop) (c:Cls) (cs:List Value) (w:World) (hc:ClsC X w cs c) (hsm:zyJ c) (ht:TabW w):
  Calls Tryz.prog 33 #[.agg cs.toArray] w (zyv No (clsT c) w):=by
 obtain⟨hs1,hs2,hs3,hs4,hs5,hs6⟩:=hsm
 obtain⟨vf,vm,rfl,hz1,hz2,hvf,hvm⟩:=hc
 obtain⟨Af,cf,rfl,pvf,qvf⟩:=hvf.form
 obtain⟨Am,cm,rfl,pvm,qvm⟩:=hvm.form
 obtain⟨wA,hwA⟩:∃wA,wA=w.alloc (.cells #[.string c.name,.string c.super,.slice Af c.fields.length cf,.slice Am c.methods.length cm] 59):=⟨_,rfl⟩
 have hfA:Fr No w wA:=hwA▸frc
 have B1:Bx wA w.heap.size 59 #[.string c.name,.string c.super,.slice Af c.fields.length cf,.slice Am c.methods.length cm]:=hwA▸bxc
 have htA:=ht.keep hfA
 have hvfA:=hvf.k0 hfA
 have hvmA:=hvm.keep (R':=MthC X wA) hfA zN (fun _ _ _ h=>h.keep hfA zN)
 have hsz:(zbl (zx4 c.super)).size≤6:=by
  rw[zpT]
  unfold zx4
  split
  ·simp
  ·rw[zkb];exact hs2
 have hnl:w.heap.size<wA.heap.size:=B1.lt
 have hzA:wA.heap.size=w.heap.size+1:=by rw[hwA];simp
 have hcl:(zbl (zx5 c)).size≤30:=by
  have h1:(Str.l c.name).length≤6:=by rw[zkb];exact hs1
  rw[zpT] at hsz ⊢
  unfold zx5 zxY
  simp
  omega
 have hcz:=Lib.hid (zyN c)
 have hcase:∃S:Str,((c.super.toList.isEmpty=true∧S=⟨#[45]⟩)∨(c.super.toList.isEmpty=false∧S=c.super))∧(⟨#[99,108,97,115,115,32]⟩:Str) ++ c.name ++ ⟨#[32]⟩ ++ S=zbl (zx5 c):=by
  refine⟨zbl (zx4 c.super),?_,zyN c⟩
  unfold zx4
  cases h0:c.super.toList.isEmpty
  ·exact .inr ⟨rfl,rfl⟩
  ·exact .inl ⟨rfl,rfl⟩
 have hb1:=B1.c4
 obtain⟨p0,p1,p2,p3⟩:=hb1
 clear hvf hvm ht
 obtain⟨S,hSS,hS0⟩:=hcase
 replace hS0:=Lib.hid hS0
 rcases hSS with ⟨h0,rfl⟩ | ⟨h0,rfl⟩
 all_goals
  go_enter Tryz.func33,Tryz.ntmps33
  go_wp2_with fail
  rw[hS0.out,<-hwA]
  replace hwA:=Lib.hid hwA
  clear hS0 h0 p0 p1 p2 p3
  have hrow0:=zqY.one wA (zbl (zx5 c))
  rw[show(⟨wA.heap.size,0,none⟩:Addr)=⟨w.heap.size+1,0,none⟩ by rw[hzA]] at hrow0
  have hfB:Fr No wA (wA.alloc (.cells #[.string (zbl (zx5 c))] 9)):=frc
  have hI0:Hid (zqY (wA.alloc (.cells #[.string (zbl (zx5 c))] 9)) wA.heap.size (.slice (some ⟨w.heap.size+1,0,none⟩) 1 1) (zbl (zx5 c) :: (c.fields.take 0).map fun f=>zbl (fldT f))∧Fr No wA (wA.alloc (.cells #[.string (zbl (zx5 c))] 9))):=Lib.hid ⟨hrow0,hfB⟩
  clear hrow0 hfB
  go_loopw [4,23] (fun v i wr=>∃j:Nat,j≤c.fields.length∧i=.int .i64 j∧Hid (zqY wr wA.heap.size v (zbl (zx5 c) :: (c.fields.take j).map fun f=>zbl (fldT f))∧Fr No wA wr)) (fun _ i _=>c.fields.length-(intOf i).toNat)
  case atStart=>exact⟨0,Nat.zero_le _,rfl,hI0⟩
  case round=>
   clear hI0
   obtain⟨j,hj,rfl,hI⟩:=hrel
   obtain⟨hrow,hfr⟩:=hI.out
   clear hI
   by_cases hlt:j<c.fields.length
   ·obtain⟨b,off,rfl,_,k0,k1,k2,kz1,kz2⟩:=(hvfA.k0 hfr).fld hlt
    have hadd:IntKind.i64.wrap ((j:Int)+1)=((j+1:Nat):Int):=by rw[IntWalk.i64_in _ (by omega)];simp
    have hnext:Hid ((zbl (zx5 c) :: (c.fields.take j).map fun f=>zbl (fldT f)) ++ [zbl (fldT c.fields[j])]=zbl (zx5 c) :: (c.fields.take (j+1)).map fun f=>zbl (fldT f)):=Lib.hid (by rw[List.take_succ_eq_append_getElem hlt,List.map_append];rfl)
    have hrl:(zbl (zx5 c) :: (c.fields.take j).map fun f=>zbl (fldT f)).length≤50000:=by simp;omega
    have hf6:=hs5 _ (List.getElem_mem hlt)
    generalize c.fields[j]=x at *
    generalize(zbl (zx5 c) :: (c.fields.take j).map fun f=>zbl (fldT f))=RS at *
    obtain⟨fn,fk⟩:=x
    dsimp only at *
    have HK:=fun W=>zys fk W kz2
    have hkz:(zbl (kndT fk)).size≤6:=by rw[zpT];exact zya _
    have hfs:=zyP fn fk hf6
    have hft:=zyO fn fk
    replace hft:=Lib.hid hft
    obtain⟨w2,hw2⟩:∃w2,w2=wr.alloc (.cells #[.string fn,.int .i64 fk.kind,.string fk.name] 93):=⟨_,rfl⟩
    have hf12:Fr No wr w2:=hw2▸frc
    have BF:Bx w2 wr.heap.size 93 #[.string fn,.int .i64 fk.kind,.string fk.name]:=hw2▸bxc
    have KF:=fun W (h:Fr No w2 W)=>(BF.keep h).c3
    have KFl:=fun W (h:Fr No w2 W)=>(BF.keep h).lt
    have hrow2:=Lib.hid (hrow.keep hf12)
    have hfr2:=Lib.hid (hfr.trans0 hf12)
    have hlw2:wA.heap.size≤w2.heap.size:=(hfr.trans0 hf12).size
    clear hrow
    go_upto_region 8 with (fail)
    rw[<-hw2]
    replace hw2:=Lib.hid hw2
    clear k0 k1 k2 BF
    refine zn0 10 37 [mV (u4),mV (.pointer (some ⟨wr.heap.size,0,none⟩)),mV (.string fn),mV (.string ((⟨#[102,105,101,108,100,32]⟩:Str) ++ fn)),mV (.string ((⟨#[102,105,101,108,100,32]⟩:Str) ++ fn ++ ⟨#[32]⟩)),mV (.pointer (some ⟨wr.heap.size,1,none⟩)),mV (.agg #[.int .i64 fk.kind,.string fk.name]),mV (.string (zbl (kndT fk))),mV (.string ((⟨#[102,105,101,108,100,32]⟩:Str) ++ fn ++ ⟨#[32]⟩ ++ zbl (kndT fk))),mS 9 (#[.string ((⟨#[102,105,101,108,100,32]⟩:Str) ++ fn ++ ⟨#[32]⟩ ++ zbl (kndT fk))]) 1 w2.heap.size] (by kernel_rfl) (by kernel_rfl) (by simp) ?_ ?_
    ·refine hc4 ?_ ?_ ?_ ?_ <| hc4 ?_ ?_ ?_ ?_ <| hopC ?_ <| hopC ?_ <| hopZ
     all_goals (intro a' W hW hoff hdep;have hbs:=hW.size;have H4:=hoff 4 rfl;have H6:=hoff 6 rfl;refine nE rfl ?_)
     ·simp[execOp,Act.eval,H4,go_sem,zaa];exact fr1 rfl
     ·simp[execOp,Act.eval,H6,go_sem,zaa];exact fr1 rfl
     ·have D28:_=_:=hdep 1 28 rfl;clear hoff hdep;simp[execOp,Act.eval,go_sem,zaa, *];exact fr1 rfl
     ·have D29:_=_:=hdep 2 29 rfl;simp[execOp,Act.eval,D29,go_sem,zaa];rw[if_neg (by omega)];exact fr1 rfl
     ·have D30:_=_:=hdep 3 30 rfl;simp[execOp,Act.eval,D30,go_sem,zaa];rw[if_neg (by omega)];exact fr1 rfl
     ·simp[execOp,Act.eval,H6,go_sem,zaa];exact fr1 rfl
     ·have D32:_=_:=hdep 5 32 rfl;clear hoff hdep;simp[execOp,Act.eval,go_sem,zaa, *];exact fr1 rfl
     ·have D33:_=_:=hdep 6 33 rfl;simp[Act.eval,D33,go_sem,zaa];exact(HK W).mono fun e w' h=>⟨_,h.1,h.2,rfl⟩
     ·have D31:_=_:=hdep 4 31 rfl;have D34:_=_:=hdep 7 34 rfl;simp[execOp,Act.eval,D31,D34,go_sem,zaa];rw[if_neg (by omega)];exact fr1 rfl
     ·have D35:_=_:=hdep 8 35 rfl;simp at D35;simp[execOp,Act.eval,D35,go_sem,zaa];exact⟨(Fr.refl _ _).alloc _,⟨_,rfl,Bx.new_ rfl,hbs⟩,Nat.le_refl _⟩
    intro vs WR hWR hv hne
    obtain⟨b9,e9,hb9,hl9⟩:=hv 9 (by omega)
    simp only[lz6,List.drop_zero,znQ,znK,znR,Nat.zero_add,Nat.reduceAdd,e9]
    simp only[Act.put,lz0,lz1,lz2]
    clear e9 hv
    rw[hft.out] at hb9
    have hsS:=Sl.oneStr (X:=No) hb9 (fun h=>h) (by unfold maxLen;omega)
    have hrow9:=Lib.hid (hrow2.out.keep hWR)
    have hlw:wA.heap.size≤WR.heap.size:=Nat.le_trans hlw2 hWR.size
    have hfwS:=Lib.hid (hfr2.out.trans0 hWR)
    generalize fldT ⟨fn,fk⟩=TX at *
    clear hne hrow2 hfr2 HK KF KFl
    refine ztA rfl _ _ rfl wA.heap.size _ RS rfl hrow9.out hrl No _ [zbl TX] rfl hsS (by simp) hlw ?_
    intro v8 w8 hr8 hf8
    simp only[Act.put,lz0,lz1,lz2]
    go_wp2_with fail
    refine⟨⟨j+1,by omega,by simp,Lib.hid ⟨?_,hfwS.out.trans hf8 (fun b hb e=>by omega)⟩⟩,by simp[intOf];omega⟩
    rw[<-hnext.out]
    exact hr8
   ·obtain rfl:j=c.fields.length:=by omega
    rw[List.take_length] at hrow
    have B1r:=B1.keep hfr
    obtain⟨p0,p1,p2,p3⟩:=B1r.c4
    have pl:=B1r.lt
    generalize hRS:(zbl (zx5 c) :: c.fields.map fun f=>zbl (fldT f))=RS at *
    have hRl:RS.length≤10:=by rw[<-hRS];simp;omega
    have hfin:Hid (RS ++ c.methods.flatMap mthT=clsT c):=Lib.hid (by rw[<-hRS];rfl)
    replace hRS:=Lib.hid hRS
    have hI1:Hid (zqY wr wA.heap.size u4 (RS ++ (c.methods.take 0).flatMap mthT)∧Fr No wA wr):=Lib.hid ⟨by rw[List.take_zero,List.flatMap_nil,List.append_nil];exact hrow,hfr⟩
    clear hrow hfr B1r
    go_wp2_with fail
    go_loopw [4,42] (fun v i wr=>∃j:Nat,j≤c.methods.length∧i=.int .i64 j∧Hid (zqY wr wA.heap.size v (RS ++ (c.methods.take j).flatMap mthT)∧Fr No wA wr)) (fun _ i _=>c.methods.length-(intOf i).toNat)
    case atStart=>exact⟨0,Nat.zero_le _,rfl,hI1⟩
    case round=>
     clear hI1 p0 p1 p2 p3 pl
     obtain⟨j,hj,rfl,hI⟩:=hrel
     obtain⟨hrow,hfr⟩:=hI.out
     clear hI
     by_cases hlt:j<c.methods.length
     ·have hvmr:=hvmA.keep (R':=MthC X wr) hfr zN (fun _ _ _ h=>h.keep hfr zN)
      obtain⟨b,off,Aa,ca,Ac,cc,Am,cm,rfl,_,c0,c1,c2,c3,c4,c5,c6,c7,z1,z2,hva,hvc,hvp,pa1,pa2,pc1,pc2,pm1,pm2⟩:=hvmr.mth hlt
      have hadd:IntKind.i64.wrap ((j:Int)+1)=((j+1:Nat):Int):=by rw[IntWalk.i64_in _ (by omega)];simp
      have hnext:Hid ((RS ++ (c.methods.take j).flatMap mthT) ++ mthT c.methods[j]=RS ++ (c.methods.take (j+1)).flatMap mthT):=Lib.hid (by rw[List.take_succ_eq_append_getElem hlt,List.flatMap_append,List.append_assoc];simp)
      have hrl:(RS ++ (c.methods.take j).flatMap mthT).length≤50000:=by
       have h9:=zyL (f:=mthT) (k:=22) (c.methods.take j) (fun m hm=>zyK (hs6 m (List.mem_of_mem_take hm)))
       rw[List.length_append]
       rw[List.length_take] at h9
       omega
      have hmp:=Lib.hid (hs6 _ (List.getElem_mem hlt))
      generalize c.methods[j]=x at *
      generalize(RS ++ (c.methods.take j).flatMap mthT)=QS at *
      have hml:=zyK hmp.out
      have hmz:=Lib.hid (zyM hmp.out)
      have htr:=htA.keep hfr
      have HM:=fun W (hW:Fr No wr W)=>zyI X x [.string x.name,.slice Aa x.args.length ca,.int .i64 x.ret.kind,.string x.ret.name,.int .i64 x.locals,.int .i64 x.stack,.slice Ac x.code.length cc,.slice Am x.maps.length cm] W ⟨_,_,_,rfl,z1,z2,hva.k0 hW,hvc.k0 hW,hvp.keep (R':=MapC X W) hW zN (fun _ _ _ h=>h.keep hW zN)⟩ hmp.out (htr.keep hW)
      unfold zyv at HM
      replace hrow:=Lib.hid hrow
      clear hva hvc hvp hvmr
      go_wp2_with (go_at_call 58;refine(HM _ (by exact frc)).mono ?_;rintro e w5 ⟨v5,rfl,hr5,hf5⟩;refine Hid.out ?_)
      refine Lib.hid ?_
      have hf05:Fr No wr w5:=(by exact frc:Fr No wr _).trans0 hf5
      have hfw:=Lib.hid (hfr.trans0 hf05)
      have hrow9:=Lib.hid (hrow.out.keep hf05)
      have hsS:=hr5.sl (fun y hy=>by have:=hmz.out y hy;unfold maxLen;omega)
      have hlw:wA.heap.size≤w5.heap.size:=hfw.out.size
      generalize mthT x=TX at *
      clear hrow hr5 hf05 hf5 HM hmz
      go_wp2_with (at_builtin;(refine ztA rfl _ _ rfl wA.heap.size _ QS rfl hrow9.out hrl _ _ TX rfl hsS (by omega) hlw ?_);(intro v8 w8 hr8 hf8))
      refine⟨⟨j+1,by omega,by simp,Lib.hid ⟨?_,hfw.out.trans hf8 (fun b hb e=>by omega)⟩⟩,by simp[intOf];omega⟩
      rw[<-hnext.out]
      exact hr8
     ·obtain rfl:j=c.methods.length:=by omega
      rw[List.take_length,hfin.out] at hrow
      have hz:=hrow.low (Nat.le_of_lt hnl)
      replace hrow:=Lib.hid hrow
      go_wp2_with fail
      refine bodyPost_ret (results_tmp rfl _ _ _) rfl ?_
      exact⟨_,rfl,hz,hfA.trans0 hfr⟩
end Go.Proofs.YtmeaibjmnjcdfaaGreatDoor
