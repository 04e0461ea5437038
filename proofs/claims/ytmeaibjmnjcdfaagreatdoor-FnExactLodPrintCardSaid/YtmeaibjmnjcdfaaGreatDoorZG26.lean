/- A class's text, as the reference writes it. -/
import Derived.Test.YtmeaibjmnjcdfaaGreatDoorZG25
set_option maxHeartbeats 8000000
set_option maxRecDepth 100000
namespace Go.Proofs.YtmeaibjmnjcdfaaGreatDoor
open Go.RowKit
def zzb (c:Cls):Prop:=∀m∈c.methods,zy8 m
theorem zzc {c:Cls} (h:clsB c=true):zzb c:=by
 unfold clsB at h
 simp only[lz5,decide_eq_true_eq,Bool.or_eq_true] at h
 exact fun m hm=>zy9 (zyV _ _ h.2 m hm)
theorem zqY.ofBx {w:World} {n b:Nat} {s:Str} (hb:Bx w b 9 #[.string s]) (hn:n≤b):zqY w n (.slice (some ⟨b,0,none⟩) 1 1) [s]:=
 ⟨.inl ⟨by rw[ztk];rfl,.inr ⟨b,1,#[.string s],rfl,Nat.zero_le _,hb,Nat.le_refl _,by unfold maxLen;decide,rfl,by rw[ztk];rfl⟩⟩,fun q hq=>by rw[zqC (by decide)] at hq;have:=Option.some.inj hq;omega⟩
theorem zzd (X:Nat->Prop) (c:Cls) (cs:List Value) (w:World) (hc:ClsC X w cs c) (hsm:zyJ c) (hnn:zzb c):
  Calls Tryz.prog 30 #[.agg cs.toArray] w (zyv No (clsT c) w):=by
 obtain⟨hs1,hs2,hs3,hs4,hs5,hs6⟩:=hsm
 obtain⟨vf,vm,rfl,hz1,hz2,hvf,hvm⟩:=hc
 obtain⟨Af,cf,rfl,pvf,qvf⟩:=hvf.form
 obtain⟨Am,cm,rfl,pvm,qvm⟩:=hvm.form
 obtain⟨wA,hwA⟩:∃wA,wA=w.alloc (.cells #[.string c.name,.string c.super,.slice Af c.fields.length cf,.slice Am c.methods.length cm] 59):=⟨_,rfl⟩
 have hfA:Fr No w wA:=hwA▸frc
 have B1:Bx wA w.heap.size 59 #[.string c.name,.string c.super,.slice Af c.fields.length cf,.slice Am c.methods.length cm]:=hwA▸bxc
 have hvfA:=hvf.k0 hfA
 have hvmA:=hvm.keep (R':=MthC X wA) hfA zN (fun _ _ _ h=>h.keep hfA zN)
 have hsz:(zbl (zx4 c.super)).size≤6:=by
  rw[zpT]
  unfold zx4
  split
  ·simp
  ·rw[zkb];exact hs2
 have hnl:w.heap.size<wA.heap.size:=B1.lt
 have hcz:=Lib.hid (zyN c)
 have HS:=fun W=>zy6 c.super W
 have KB:=fun W (h:Fr No wA W)=>(B1.keep h).c4
 have KBl:=fun W (h:Fr No wA W)=>(B1.keep h).lt
 clear hvf hvm
 go_enter Tryz.func30,Tryz.ntmps30
 go_upto_region 1 with (fail)
 rw[<-hwA]
 replace hwA:=Lib.hid hwA
 refine zn0 9 15 [mV (.pointer (some ⟨w.heap.size,0,none⟩)),mV (.string c.name),mV (.string ((⟨#[99,108,97,115,115,32]⟩:Str) ++ c.name)),mV (.string ((⟨#[99,108,97,115,115,32]⟩:Str) ++ c.name ++ ⟨#[32]⟩)),mV (.pointer (some ⟨w.heap.size,1,none⟩)),mV (.string c.super),mV (.string (zbl (zx4 c.super))),mV (.string ((⟨#[99,108,97,115,115,32]⟩:Str) ++ c.name ++ ⟨#[32]⟩ ++ zbl (zx4 c.super))),mS 9 (#[.string ((⟨#[99,108,97,115,115,32]⟩:Str) ++ c.name ++ ⟨#[32]⟩ ++ zbl (zx4 c.super))]) 1 wA.heap.size] (by kernel_rfl) (by kernel_rfl) (by simp) ?_ ?_
 ·refine hc4 ?_ ?_ ?_ ?_ <| hc4 ?_ ?_ ?_ ?_ <| hopC ?_ <| hopZ
  all_goals (intro a' W hW hoff hdep;have hbs:=hW.size;have H1:=hoff 1 rfl;refine nE rfl ?_)
  ·simp[execOp,Act.eval,H1,go_sem,zaa];exact fr1 rfl
  ·have D6:_=_:=hdep 0 6 rfl;clear hoff hdep;simp[execOp,Act.eval,go_sem,zaa, *];exact fr1 rfl
  ·have D7:_=_:=hdep 1 7 rfl;simp[execOp,Act.eval,D7,go_sem,zaa];rw[if_neg (by omega)];exact fr1 rfl
  ·have D8:_=_:=hdep 2 8 rfl;simp[execOp,Act.eval,D8,go_sem,zaa];rw[if_neg (by omega)];exact fr1 rfl
  ·simp[execOp,Act.eval,H1,go_sem,zaa];exact fr1 rfl
  ·have D10:_=_:=hdep 4 10 rfl;clear hoff hdep;simp[execOp,Act.eval,go_sem,zaa, *];exact fr1 rfl
  ·have D11:_=_:=hdep 5 11 rfl;simp[Act.eval,D11,go_sem,zaa];exact(HS W).mono fun e w' h=>⟨_,h.1,h.2,rfl⟩
  ·have D9:_=_:=hdep 3 9 rfl;have D12:_=_:=hdep 6 12 rfl;simp[execOp,Act.eval,D9,D12,go_sem,zaa];rw[if_neg (by omega)];exact fr1 rfl
  ·have D13:_=_:=hdep 7 13 rfl;simp at D13;simp[execOp,Act.eval,D13,go_sem,zaa];exact⟨(Fr.refl _ _).alloc _,⟨_,rfl,Bx.new_ rfl,hbs⟩,Nat.le_refl _⟩
 intro vs WR hWR hv hne
 obtain⟨b8,e8,hb8,hl8⟩:=hv 8 (by omega)
 simp only[lz6,List.drop_zero,znQ,znK,znR,Nat.zero_add,Nat.reduceAdd,e8]
 simp only[Act.put,lz0,lz1,lz2]
 clear e8 hv
 rw[hcz.out] at hb8
 have hrow0:zqY WR wA.heap.size (.slice (some ⟨b8,0,none⟩) 1 1) [zbl (zx5 c)]:=zqY.ofBx hb8 hl8
 have hI0:Hid (zqY WR wA.heap.size (.slice (some ⟨b8,0,none⟩) 1 1) (zbl (zx5 c) :: (c.fields.take 0).map fun f=>zbl (fldT f))∧Fr No wA WR):=Lib.hid ⟨hrow0,hWR⟩
 clear hrow0 hb8 hl8 hne hWR KB KBl HS hcz hsz
 obtain⟨w1,hw1⟩:∃w1,w1=WR:=⟨_,rfl⟩
 rw[<-hw1] at hI0
 have B1w:Bx WR w.heap.size 59 #[.string c.name,.string c.super,.slice Af c.fields.length cf,.slice Am c.methods.length cm]:=hw1▸B1.keep hI0.out.2
 go_wp2_with fail
 go_loopw [3,4] (fun v i wr=>∃j:Nat,j≤c.fields.length∧i=.int .i64 j∧Hid (zqY wr wA.heap.size v (zbl (zx5 c) :: (c.fields.take j).map fun f=>zbl (fldT f))∧Fr No wA wr)) (fun _ i _=>c.fields.length-(intOf i).toNat)
 case atStart=>rw[<-hw1];exact⟨0,Nat.zero_le _,rfl,hI0⟩
 case round=>
  clear hI0 hw1 B1w
  obtain⟨j,hj,rfl,hI⟩:=hrel
  obtain⟨hrow,hfr⟩:=hI.out
  clear hI
  have B1r:=B1.keep hfr
  obtain⟨p0,p1,p2,p3⟩:=B1r.c4
  have pl:=B1r.lt
  by_cases hlt:j<c.fields.length
  ·obtain⟨b,off,rfl,_,k0,k1,k2,kz1,kz2⟩:=(hvfA.k0 hfr).fld hlt
   have hadd:IntKind.i64.wrap ((j:Int)+1)=((j+1:Nat):Int):=by rw[IntWalk.i64_in _ (by omega)];simp
   have hnext:Hid ((zbl (zx5 c) :: (c.fields.take j).map fun f=>zbl (fldT f)) ++ [zbl (fldT c.fields[j])]=zbl (zx5 c) :: (c.fields.take (j+1)).map fun f=>zbl (fldT f)):=Lib.hid (by rw[List.take_succ_eq_append_getElem hlt,List.map_append];rfl)
   have hrl:(zbl (zx5 c) :: (c.fields.take j).map fun f=>zbl (fldT f)).length≤50000:=by simp;omega
   have hf6:=hs5 _ (List.getElem_mem hlt)
   generalize c.fields[j]=x at *
   generalize(zbl (zx5 c) :: (c.fields.take j).map fun f=>zbl (fldT f))=RS at *
   obtain⟨fn,fk⟩:=x
   dsimp only at *
   have HK:=fun W=>zy4 fk W kz2
   have hkz:(zbl (kndT fk)).size≤6:=by rw[zpT];exact zya _
   have hfs:=zyP fn fk hf6
   have hft:=Lib.hid (zyO fn fk)
   have KB2:=fun W (h:Fr No wr W)=>(B1r.keep h).c4.2.2.1
   have KBl:=fun W (h:Fr No wr W)=>(B1r.keep h).lt
   have K0:=kp k0
   have K1:=kp k1
   have K2:=kp k2
   have hlw2:wA.heap.size≤wr.heap.size:=hfr.size
   replace hrow:=Lib.hid hrow
   replace hfr:=Lib.hid hfr
   go_upto_region 5 with (fail)
   clear k0 k1 k2 p0 p1 p2 p3 pl B1r
   refine zn0 18 40 [mV (u3),mV (.pointer (some ⟨w.heap.size,2,none⟩)),mV (.slice (some ⟨b,off,none⟩) c.fields.length cf),mV (.int .i64 (j:Int)),mV (.pointer (some ⟨b,off+j * 3,none⟩)),mV (.pointer (some ⟨b,off+j * 3,none⟩)),mV (.string fn),mV (.string ((⟨#[102,105,101,108,100,32]⟩:Str) ++ fn)),mV (.string ((⟨#[102,105,101,108,100,32]⟩:Str) ++ fn ++ ⟨#[32]⟩)),mV (.pointer (some ⟨w.heap.size,2,none⟩)),mV (.slice (some ⟨b,off,none⟩) c.fields.length cf),mV (.int .i64 (j:Int)),mV (.pointer (some ⟨b,off+j * 3,none⟩)),mV (.pointer (some ⟨b,off+j * 3+1,none⟩)),mV (.agg #[.int .i64 fk.kind,.string fk.name]),mV (.string (zbl (kndT fk))),mV (.string ((⟨#[102,105,101,108,100,32]⟩:Str) ++ fn ++ ⟨#[32]⟩ ++ zbl (kndT fk))),mS 9 (#[.string ((⟨#[102,105,101,108,100,32]⟩:Str) ++ fn ++ ⟨#[32]⟩ ++ zbl (kndT fk))]) 1 wr.heap.size] (by kernel_rfl) (by kernel_rfl) (by simp) ?_ ?_
   ·refine hc4 ?_ ?_ ?_ ?_ <| hc4 ?_ ?_ ?_ ?_ <| hc4 ?_ ?_ ?_ ?_ <| hc4 ?_ ?_ ?_ ?_ <| hopC ?_ <| hopC ?_ <| hopZ
    all_goals (intro a' W hW hoff hdep;have hbs:=hW.size;have H3:=hoff 3 rfl;have H1:=hoff 1 rfl;have H4:=hoff 4 rfl;refine nE rfl ?_)
    ·simp[execOp,Act.eval,H3,go_sem,zaa];exact fr1 rfl
    ·simp[execOp,Act.eval,H1,go_sem,zaa];exact fr1 rfl
    ·have D23:_=_:=hdep 1 23 rfl;clear hoff hdep;simp[execOp,Act.eval,go_sem,zaa, *];exact fr1 rfl
    ·simp[execOp,Act.eval,H4,go_sem,zaa];exact fr1 rfl
    ·have D24:_=_:=hdep 2 24 rfl;have D25:_=_:=hdep 3 25 rfl;clear hoff hdep;simp[execOp,Act.eval,go_sem,zaa, *];exact fr1 rfl
    ·have D26:_=_:=hdep 4 26 rfl;simp[execOp,Act.eval,D26,go_sem,zaa];exact fr1 rfl
    ·have D27:_=_:=hdep 5 27 rfl;clear hoff hdep;simp[execOp,Act.eval,go_sem,zaa, *];exact fr1 rfl
    ·have D28:_=_:=hdep 6 28 rfl;simp[execOp,Act.eval,D28,go_sem,zaa];rw[if_neg (by omega)];exact fr1 rfl
    ·have D29:_=_:=hdep 7 29 rfl;simp[execOp,Act.eval,D29,go_sem,zaa];rw[if_neg (by omega)];exact fr1 rfl
    ·simp[execOp,Act.eval,H1,go_sem,zaa];exact fr1 rfl
    ·have D31:_=_:=hdep 9 31 rfl;clear hoff hdep;simp[execOp,Act.eval,go_sem,zaa, *];exact fr1 rfl
    ·simp[execOp,Act.eval,H4,go_sem,zaa];exact fr1 rfl
    ·have D32:_=_:=hdep 10 32 rfl;have D33:_=_:=hdep 11 33 rfl;clear hoff hdep;simp[execOp,Act.eval,go_sem,zaa, *];exact fr1 rfl
    ·have D34:_=_:=hdep 12 34 rfl;simp[execOp,Act.eval,D34,go_sem,zaa];exact fr1 rfl
    ·have D35:_=_:=hdep 13 35 rfl;clear hoff hdep;simp[execOp,Act.eval,go_sem,zaa, *];exact fr1 rfl
    ·have D36:_=_:=hdep 14 36 rfl;simp[Act.eval,D36,go_sem,zaa];exact(HK W).mono fun e w' h=>⟨_,h.1,h.2,rfl⟩
    ·have D30:_=_:=hdep 8 30 rfl;have D37:_=_:=hdep 15 37 rfl;simp[execOp,Act.eval,D30,D37,go_sem,zaa];rw[if_neg (by omega)];exact fr1 rfl
    ·have D38:_=_:=hdep 16 38 rfl;simp at D38;simp[execOp,Act.eval,D38,go_sem,zaa];exact⟨(Fr.refl _ _).alloc _,⟨_,rfl,Bx.new_ rfl,hbs⟩,Nat.le_refl _⟩
   intro vs WR hWR hv hne
   obtain⟨b17,e17,hb17,hl17⟩:=hv 17 (by omega)
   simp only[lz6,List.drop_zero,znQ,znK,znR,Nat.zero_add,Nat.reduceAdd,e17]
   simp only[Act.put,lz0,lz1,lz2]
   clear e17 hv
   rw[hft.out] at hb17
   have hsS:=Sl.oneStr (X:=No) hb17 (fun h=>h) (by unfold maxLen;omega)
   have hrow9:=Lib.hid (hrow.out.keep hWR)
   have hlw:wA.heap.size≤WR.heap.size:=Nat.le_trans hlw2 hWR.size
   have hfwS:=Lib.hid (hfr.out.trans0 hWR)
   generalize fldT ⟨fn,fk⟩=TX at *
   clear hne hrow hfr HK KB2 KBl K0 K1 K2 hb17
   refine ztA rfl _ _ rfl wA.heap.size _ RS rfl hrow9.out hrl No _ [zbl TX] rfl hsS (by simp) hlw ?_
   intro v8 w8 hr8 hf8
   simp only[Act.put,lz0,lz1,lz2]
   go_wp2_with fail
   refine⟨⟨j+1,by omega,by simp,Lib.hid ⟨?_,hfwS.out.trans hf8 (fun b hb e=>by omega)⟩⟩,by simp[intOf];omega⟩
   rw[<-hnext.out]
   exact hr8
  ·obtain rfl:j=c.fields.length:=by omega
   rw[List.take_length] at hrow
   generalize hRS:(zbl (zx5 c) :: c.fields.map fun f=>zbl (fldT f))=RS at *
   have hRl:RS.length≤10:=by rw[<-hRS];simp;omega
   have hfin:Hid (RS ++ c.methods.flatMap mthT=clsT c):=Lib.hid (by rw[<-hRS];rfl)
   replace hRS:=Lib.hid hRS
   have hI1:Hid (zqY wr wA.heap.size u3 (RS ++ (c.methods.take 0).flatMap mthT)∧Fr No wA wr):=Lib.hid ⟨by rw[List.take_zero,List.flatMap_nil,List.append_nil];exact hrow,hfr⟩
   clear hrow hfr B1r
   go_wp2_with fail
   go_loopw [3,5] (fun v i wr=>∃j:Nat,j≤c.methods.length∧i=.int .i64 j∧Hid (zqY wr wA.heap.size v (RS ++ (c.methods.take j).flatMap mthT)∧Fr No wA wr)) (fun _ i _=>c.methods.length-(intOf i).toNat)
   case atStart=>exact⟨0,Nat.zero_le _,rfl,hI1⟩
   case round=>
    clear hI1 p0 p1 p2 p3 pl
    obtain⟨j,hj,rfl,hI⟩:=hrel
    obtain⟨hrow,hfr⟩:=hI.out
    clear hI
    have B1r:=B1.keep hfr
    obtain⟨p0,p1,p2,p3⟩:=B1r.c4
    have pl:=B1r.lt
    by_cases hlt:j<c.methods.length
    ·have hvmr:=hvmA.keep (R':=MthC X wr) hfr zN (fun _ _ _ h=>h.keep hfr zN)
     obtain⟨b,off,Aa,ca,Ac,cc,Am,cm,rfl,_,c0,c1,c2,c3,c4,c5,c6,c7,z1,z2,hva,hvc,hvp,pa1,pa2,pc1,pc2,pm1,pm2⟩:=hvmr.mth hlt
     have hadd:IntKind.i64.wrap ((j:Int)+1)=((j+1:Nat):Int):=by rw[IntWalk.i64_in _ (by omega)];simp
     have hnext:Hid ((RS ++ (c.methods.take j).flatMap mthT) ++ mthT c.methods[j]=RS ++ (c.methods.take (j+1)).flatMap mthT):=Lib.hid (by rw[List.take_succ_eq_append_getElem hlt,List.flatMap_append,List.append_assoc];simp)
     have hrl:(RS ++ (c.methods.take j).flatMap mthT).length≤50000:=by
      have h9:=zyL (f:=mthT) (k:=22) (c.methods.take j) (fun m hm=>zyK (hs6 m (List.mem_of_mem_take hm)))
      rw[List.length_append]
      rw[List.length_take] at h9
      omega
     have hmp:=Lib.hid (hs6 _ (List.getElem_mem hlt))
     have hmn:=Lib.hid (hnn _ (List.getElem_mem hlt))
     generalize c.methods[j]=x at *
     generalize(RS ++ (c.methods.take j).flatMap mthT)=QS at *
     have hml:=zyK hmp.out
     have hmz:=Lib.hid (zyM hmp.out)
     have HM:=fun W (hW:Fr No wr W)=>zza X x [.string x.name,.slice Aa x.args.length ca,.int .i64 x.ret.kind,.string x.ret.name,.int .i64 x.locals,.int .i64 x.stack,.slice Ac x.code.length cc,.slice Am x.maps.length cm] W ⟨_,_,_,rfl,z1,z2,hva.k0 hW,hvc.k0 hW,hvp.keep (R':=MapC X W) hW zN (fun _ _ _ h=>h.keep hW zN)⟩ hmp.out hmn.out
     unfold zyv at HM
     replace hrow:=Lib.hid hrow
     clear hva hvc hvp hvmr B1r
     go_wp2_with (go_at_call 54;refine(HM _ (by exact frc)).mono ?_;rintro e w5 ⟨v5,rfl,hr5,hf5⟩;refine Hid.out ?_)
     refine Lib.hid ?_
     have hfw:=Lib.hid (hfr.trans0 hf5)
     have hrow9:=Lib.hid (hrow.out.keep hf5)
     have hsS:=hr5.sl (fun y hy=>by have:=hmz.out y hy;unfold maxLen;omega)
     have hlw:wA.heap.size≤w5.heap.size:=hfw.out.size
     generalize mthT x=TX at *
     clear hrow hr5 hf5 HM hmz
     go_wp2_with (at_builtin;(refine ztA rfl _ _ rfl wA.heap.size _ QS rfl hrow9.out hrl _ _ TX rfl hsS (by omega) hlw ?_);(intro v8 w8 hr8 hf8))
     refine⟨⟨j+1,by omega,by simp,Lib.hid ⟨?_,hfw.out.trans hf8 (fun b hb e=>by omega)⟩⟩,by simp[intOf];omega⟩
     rw[<-hnext.out]
     exact hr8
    ·obtain rfl:j=c.methods.length:=by omega
     rw[List.take_length,hfin.out] at hrow
     have hz:=hrow.low (Nat.le_of_lt hnl)
     replace hrow:=Lib.hid hrow
     go_wp2_with fail
     refine bodyPost_ret (results_tmp rfl _ _ _) rfl ?_
     exact⟨_,rfl,hz,hfA.trans0 hfr⟩
end Go.Proofs.YtmeaibjmnjcdfaaGreatDoor
