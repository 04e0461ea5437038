/- Keepers' text, as the reference writes it (LodPrint). -/
import Derived.Test.YtmeaibjmnjcdfaaGreatDoorZG26
import Derived.Test.YtmeaibjmnjcdfaaGreatDoorZG31
import Derived.Test.YtmeaibjmnjcdfaaGreatDoorZG32
set_option maxHeartbeats 8000000
set_option maxRecDepth 100000
namespace Go.Proofs.YtmeaibjmnjcdfaaGreatDoor
open Go.RowKit
def zzl (k:Kpr):Prop:=∀c∈k.owns,zzb c
theorem zzm {p:Plan} (h:lodB p=true):∀k∈p.keepers,zzl k:=by
 unfold lodB at h
 simp only[lz5,decide_eq_true_eq,List.all_eq_true] at h
 intro k hk
 have h1:=h.2 k hk
 unfold kprB at h1
 simp only[lz5,decide_eq_true_eq] at h1
 exact fun c hc=>zzc (zyS _ _ h1.1.2 c hc)
theorem zzn (X:Nat->Prop) (p:Plan) (v:Value) (w:World) (h:Sl X w 2 (KprC X w) v p.keepers):
  Calls Tryz.prog 8 #[.agg #[v]] w (zyv No (zx6 p) w):=by
 obtain⟨A,cap,rfl,_,hlen⟩:=h.form
 obtain⟨wA,hwA⟩:∃wA,wA=(w.alloc (.cells #[.slice A p.keepers.length cap] 30)).alloc (.cells #[] 9):=⟨_,rfl⟩
 have hfA:Fr No w wA:=hwA▸frc
 have B1:Bx wA w.heap.size 30 #[.slice A p.keepers.length cap]:=hwA▸(Bx.new _ _ _).alloc _
 have hA:=h.keep (R':=KprC X wA) hfA zN (fun _ _ _ h=>h.keep hfA zN)
 have HO:=zaP X p _ wA hA
 have hpt:Hid (zx6 p=if lodB p then p.keepers.flatMap kprT else []):=Lib.hid rfl
 have hpr:=@zy0 p
 have hnn:=@zzm p
 have p00:=B1.c1
 have p0l:=B1.lt
 clear h
 cases hb:lodB p
 ·rw[hb] at HO
  have hn:zx6 p=[]:=by rw[hpt.out,hb];rfl
  rw[hn]
  clear hb hn hpt hpr hnn
  go_enter Tryz.func8,Tryz.ntmps8
  go_wp2_with (go_at_call 23;rw[<-hwA];refine HO.mono ?_;rintro e w1 ⟨rfl,hf1⟩)
  go_ret
  exact⟨_,rfl,zqY.empty _ _ _,hfA.trans0 hf1⟩
 ·rw[hb] at HO
  have hn:zx6 p=p.keepers.flatMap kprT:=by rw[hpt.out,hb];rfl
  obtain⟨hk3,hkp⟩:=hpr hb
  have hkn:=hnn hb
  rw[hn]
  clear hb hn hpt hpr hnn
  go_enter Tryz.func8,Tryz.ntmps8
  go_wp2_with (go_at_call 23;rw[<-hwA];refine HO.mono ?_;rintro e w1 ⟨rfl,hf1⟩;refine Hid.out ?_)
  refine Lib.hid ?_
  replace hwA:=Lib.hid hwA
  have B11:=B1.keep hf1
  have hK:=hA.keep (R':=KprC X w1) hf1 zN (fun _ _ _ h=>h.keep hf1 zN)
  have hw1:=hfA.trans0 hf1
  have hnl:w.heap.size<w1.heap.size:=B11.lt
  clear hA HO hfA hf1 B1 p00 p0l
  have hI0:Hid (zqY w1 w1.heap.size (.slice (some ⟨w.heap.size+1,0,none⟩) 0 0) ((p.keepers.take 0).flatMap kprT)∧Fr No w1 w1):=Lib.hid ⟨zqY.empty _ _ _,Fr.refl _ _⟩
  go_wp2_with fail
  go_loopw [3,4] (fun v i wr=>∃j:Nat,j≤p.keepers.length∧i=.int .i64 j∧Hid (zqY wr w1.heap.size v ((p.keepers.take j).flatMap kprT)∧Fr No w1 wr)) (fun _ i _=>p.keepers.length-(intOf i).toNat)
  case atStart=>exact⟨0,Nat.zero_le _,rfl,hI0⟩
  case round=>
   clear hI0
   obtain⟨j,hj,rfl,hI⟩:=hrel
   obtain⟨hrow,hfr⟩:=hI.out
   clear hI
   have B1r:=B11.keep hfr
   have p00:=B1r.c1
   have p0l:=B1r.lt
   by_cases hlt:j<p.keepers.length
   ·obtain⟨b,off,Ao,co,Aa,ca,rfl,_,c0,c1,hvo,hva,po1,po2,pa1,pa2⟩:=hK.kpr hlt
    have hadd:IntKind.i64.wrap ((j:Int)+1)=((j+1:Nat):Int):=by rw[IntWalk.i64_in _ (by omega)];simp
    have hnext:Hid ((p.keepers.take j).flatMap kprT ++ kprT p.keepers[j]=(p.keepers.take (j+1)).flatMap kprT):=Lib.hid (by rw[List.take_succ_eq_append_getElem hlt,List.flatMap_append];simp)
    have hrl:((p.keepers.take j).flatMap kprT).length≤2000:=by
     have h9:=zyL (f:=kprT) (k:=505) (p.keepers.take j) (fun m hm=>zzh (hkp m (List.mem_of_mem_take hm)))
     rw[List.length_take] at h9
     omega
    obtain⟨hq1,hq2,hq3,hq4⟩:=hkp _ (List.getElem_mem hlt)
    have hq5:=hkn _ (List.getElem_mem hlt)
    generalize p.keepers[j]=x at *
    generalize((p.keepers.take j).flatMap kprT)=RS at *
    have hf12:Fr No wr (wr.alloc (.cells #[.string ⟨#[107,101,101,112,101,114]⟩] 9)):=frc
    have BS:Bx (wr.alloc (.cells #[.string ⟨#[107,101,101,112,101,114]⟩] 9)) wr.heap.size 9 #[.string ⟨#[107,101,101,112,101,114]⟩]:=bxc
    have hsS:=Sl.oneStr (X:=No) BS (fun h=>h) (by unfold maxLen;decide)
    have hf13:=hfr.trans0 hf12
    have hrow3:=Lib.hid (hrow.keep hf12)
    have hlw:w1.heap.size≤(wr.alloc (.cells #[.string ⟨#[107,101,101,112,101,114]⟩] 9)).heap.size:=hf13.size
    clear hrow
    go_wp2_with (at_builtin;(refine ztA rfl _ _ rfl w1.heap.size _ RS rfl hrow3.out (by omega) No _ [⟨#[107,101,101,112,101,114]⟩] rfl hsS (by simp) hlw ?_);(intro v4 w4 hr4 hf4);refine Hid.out ?_)
    refine Lib.hid ?_
    have hw4:Fr No w1 w4:=hf13.trans hf4 (fun b hb e=>by omega)
    have hI0:Hid (zqY w4 w1.heap.size v4 (RS ++ (zbl zx1 :: (x.asks.take 0).map fun a=>zbl (askT a)))∧Fr No w1 w4):=Lib.hid ⟨hr4,hw4⟩
    clear hrow3 hf4 hf13 hf12 BS hsS hlw hr4 hw4 B1r p00 p0l hfr
    go_wp2_with fail
    go_loopw [3,5] (fun v i wr=>∃k:Nat,k≤x.asks.length∧i=.int .i64 k∧Hid (zqY wr w1.heap.size v (RS ++ (zbl zx1 :: (x.asks.take k).map fun a=>zbl (askT a)))∧Fr No w1 wr)) (fun _ i _=>x.asks.length-(intOf i).toNat)
    case atStart=>exact⟨0,Nat.zero_le _,rfl,hI0⟩
    case round=>
     clear hI0
     obtain⟨k,hk,rfl,hI⟩:=hrel
     obtain⟨hrow,hfq⟩:=hI.out
     clear hI
     have B1q:=B11.keep hfq
     have p00:=B1q.c1
     have p0l:=B1q.lt
     have k0:=hfq.keep0 c0
     have k1:=hfq.keep0 c1
     by_cases hlk:k<x.asks.length
     ·obtain⟨ba,oa,rfl,_,e0,e1,ez⟩:=(hva.k0 hfq).ask hlk
      have hadd2:IntKind.i64.wrap ((k:Int)+1)=((k+1:Nat):Int):=by rw[IntWalk.i64_in _ (by omega)];simp
      have hnx:Hid ((RS ++ (zbl zx1 :: (x.asks.take k).map fun a=>zbl (askT a))) ++ [zbl (askT x.asks[k])]=RS ++ (zbl zx1 :: (x.asks.take (k+1)).map fun a=>zbl (askT a))):=Lib.hid (by rw[List.take_succ_eq_append_getElem hlk,List.map_append,List.append_assoc];rfl)
      have hql:(RS ++ (zbl zx1 :: (x.asks.take k).map fun a=>zbl (askT a))).length≤50000:=by simp;omega
      obtain⟨ha6,ha7,ha8⟩:=hq4 _ (List.getElem_mem hlk)
      generalize x.asks[k]=y at *
      generalize(RS ++ (zbl zx1 :: (x.asks.take k).map fun a=>zbl (askT a)))=QS at *
      obtain⟨an,ak⟩:=y
      dsimp only at *
      have has:=zzg an ak ha6 (by omega) (by omega)
      have hat:=Lib.hid (zzf an ak)
      have hnz:(zbl (numL ak)).size≤7:=by rw[zpT];exact zyi ak (by omega) (by omega)
      have HI:=fun W=>zy3 ak W ha7 (by omega)
      have KB:=fun W (h:Fr No wr W)=>(B1q.keep h).c1
      have KBl:=fun W (h:Fr No wr W)=>(B1q.keep h).lt
      have K1:=kp k1
      have E0:=kp e0
      have E1:=kp e1
      have hlw2:w1.heap.size≤wr.heap.size:=hfq.size
      replace hrow:=Lib.hid hrow
      replace hfq:=Lib.hid hfq
      go_upto_region 11 with (fail)
      clear p00 p0l k0 k1 e0 e1 B1q
      refine zn0 26 59 [mV (u3),mV (.pointer (some ⟨w.heap.size,0,none⟩)),mV (.slice (some ⟨b,off,none⟩) p.keepers.length cap),mV (.int .i64 (j:Int)),mV (.pointer (some ⟨b,off+j * 2,none⟩)),mV (.pointer (some ⟨b,off+j * 2+1,none⟩)),mV (.slice (some ⟨ba,oa,none⟩) x.asks.length ca),mV (.int .i64 (k:Int)),mV (.pointer (some ⟨ba,oa+k * 2,none⟩)),mV (.pointer (some ⟨ba,oa+k * 2,none⟩)),mV (.string an),mV (.string ((⟨#[97,115,107,115,32]⟩:Str) ++ an)),mV (.string ((⟨#[97,115,107,115,32]⟩:Str) ++ an ++ ⟨#[32]⟩)),mV (.pointer (some ⟨w.heap.size,0,none⟩)),mV (.slice (some ⟨b,off,none⟩) p.keepers.length cap),mV (.int .i64 (j:Int)),mV (.pointer (some ⟨b,off+j * 2,none⟩)),mV (.pointer (some ⟨b,off+j * 2+1,none⟩)),mV (.slice (some ⟨ba,oa,none⟩) x.asks.length ca),mV (.int .i64 (k:Int)),mV (.pointer (some ⟨ba,oa+k * 2,none⟩)),mV (.pointer (some ⟨ba,oa+k * 2+1,none⟩)),mV (.int .i64 ak),mV (.string (zbl (numL ak))),mV (.string ((⟨#[97,115,107,115,32]⟩:Str) ++ an ++ ⟨#[32]⟩ ++ zbl (numL ak))),mS 9 (#[.string ((⟨#[97,115,107,115,32]⟩:Str) ++ an ++ ⟨#[32]⟩ ++ zbl (numL ak))]) 1 wr.heap.size] (by kernel_rfl) (by kernel_rfl) (by simp) ?_ ?_
      ·refine hc4 ?_ ?_ ?_ ?_ <| hc4 ?_ ?_ ?_ ?_ <| hc4 ?_ ?_ ?_ ?_ <| hc4 ?_ ?_ ?_ ?_ <| hc4 ?_ ?_ ?_ ?_ <| hc4 ?_ ?_ ?_ ?_ <| hopC ?_ <| hopC ?_ <| hopZ
       all_goals (intro a' W hW hoff hdep;have hbs:=hW.size;have H3:=hoff 3 rfl;have H1:=hoff 1 rfl;have H4:=hoff 4 rfl;have H5:=hoff 5 rfl;refine nE rfl ?_)
       ·simp[execOp,Act.eval,H3,go_sem,zaa];exact fr1 rfl
       ·simp[execOp,Act.eval,H1,go_sem,zaa];exact fr1 rfl
       ·have D34:_=_:=hdep 1 34 rfl;clear hoff hdep;simp[execOp,Act.eval,go_sem,zaa, *];exact fr1 rfl
       ·simp[execOp,Act.eval,H4,go_sem,zaa];exact fr1 rfl
       ·have D35:_=_:=hdep 2 35 rfl;have D36:_=_:=hdep 3 36 rfl;clear hoff hdep;simp[execOp,Act.eval,go_sem,zaa, *];exact fr1 rfl
       ·have D37:_=_:=hdep 4 37 rfl;simp[execOp,Act.eval,D37,go_sem,zaa];exact fr1 rfl
       ·have D38:_=_:=hdep 5 38 rfl;clear hoff hdep;simp[execOp,Act.eval,go_sem,zaa, *];exact fr1 rfl
       ·simp[execOp,Act.eval,H5,go_sem,zaa];exact fr1 rfl
       ·have D39:_=_:=hdep 6 39 rfl;have D40:_=_:=hdep 7 40 rfl;clear hoff hdep;simp[execOp,Act.eval,go_sem,zaa, *];exact fr1 rfl
       ·have D41:_=_:=hdep 8 41 rfl;simp[execOp,Act.eval,D41,go_sem,zaa];exact fr1 rfl
       ·have D42:_=_:=hdep 9 42 rfl;clear hoff hdep;simp[execOp,Act.eval,go_sem,zaa, *];exact fr1 rfl
       ·have D43:_=_:=hdep 10 43 rfl;simp[execOp,Act.eval,D43,go_sem,zaa];rw[if_neg (by omega)];exact fr1 rfl
       ·have D44:_=_:=hdep 11 44 rfl;simp[execOp,Act.eval,D44,go_sem,zaa];rw[if_neg (by omega)];exact fr1 rfl
       ·simp[execOp,Act.eval,H1,go_sem,zaa];exact fr1 rfl
       ·have D46:_=_:=hdep 13 46 rfl;clear hoff hdep;simp[execOp,Act.eval,go_sem,zaa, *];exact fr1 rfl
       ·simp[execOp,Act.eval,H4,go_sem,zaa];exact fr1 rfl
       ·have D47:_=_:=hdep 14 47 rfl;have D48:_=_:=hdep 15 48 rfl;clear hoff hdep;simp[execOp,Act.eval,go_sem,zaa, *];exact fr1 rfl
       ·have D49:_=_:=hdep 16 49 rfl;simp[execOp,Act.eval,D49,go_sem,zaa];exact fr1 rfl
       ·have D50:_=_:=hdep 17 50 rfl;clear hoff hdep;simp[execOp,Act.eval,go_sem,zaa, *];exact fr1 rfl
       ·simp[execOp,Act.eval,H5,go_sem,zaa];exact fr1 rfl
       ·have D51:_=_:=hdep 18 51 rfl;have D52:_=_:=hdep 19 52 rfl;clear hoff hdep;simp[execOp,Act.eval,go_sem,zaa, *];exact fr1 rfl
       ·have D53:_=_:=hdep 20 53 rfl;simp[execOp,Act.eval,D53,go_sem,zaa];exact fr1 rfl
       ·have D54:_=_:=hdep 21 54 rfl;clear hoff hdep;simp[execOp,Act.eval,go_sem,zaa, *];exact fr1 rfl
       ·have D55:_=_:=hdep 22 55 rfl;simp[Act.eval,D55,go_sem,zaa];exact(HI W).mono fun e w' h=>⟨_,h.1,h.2,rfl⟩
       ·have D45:_=_:=hdep 12 45 rfl;have D56:_=_:=hdep 23 56 rfl;simp[execOp,Act.eval,D45,D56,go_sem,zaa];rw[if_neg (by omega)];exact fr1 rfl
       ·have D57:_=_:=hdep 24 57 rfl;simp at D57;simp[execOp,Act.eval,D57,go_sem,zaa];exact⟨(Fr.refl _ _).alloc _,⟨_,rfl,Bx.new_ rfl,hbs⟩,Nat.le_refl _⟩
      intro vs WR hWR hv hne
      obtain⟨b25,e25,hb25,hl25⟩:=hv 25 (by omega)
      simp only[lz6,List.drop_zero,znQ,znK,znR,Nat.zero_add,Nat.reduceAdd,e25]
      simp only[Act.put,lz0,lz1,lz2]
      clear e25 hv
      rw[hat.out] at hb25
      have hsS:=Sl.oneStr (X:=No) hb25 (fun h=>h) (by unfold maxLen;omega)
      have hrow9:=Lib.hid (hrow.out.keep hWR)
      have hlw:w1.heap.size≤WR.heap.size:=Nat.le_trans hlw2 hWR.size
      have hfwS:=Lib.hid (hfq.out.trans0 hWR)
      generalize askT ⟨an,ak⟩=TX at *
      clear hne hrow hfq HI KB KBl K1 E0 E1 hb25
      refine ztA rfl _ _ rfl w1.heap.size _ QS rfl hrow9.out hql No _ [zbl TX] rfl hsS (by simp) hlw ?_
      intro v8 w8 hr8 hf8
      simp only[Act.put,lz0,lz1,lz2]
      have hfin:Hid (zqY w8 w1.heap.size v8 (QS ++ [zbl TX])∧Fr No w1 w8):=Lib.hid ⟨hr8,hfwS.out.trans hf8 (fun b hb e=>by omega)⟩
      rw[hnx.out] at hfin
      clear hr8 hf8 hrow9 hfwS
      go_wp2_with fail
      exact⟨⟨k+1,by omega,by simp,hfin⟩,by simp[intOf];omega⟩
     ·obtain rfl:k=x.asks.length:=by omega
      rw[List.take_length] at hrow
      generalize hQS:(RS ++ (zbl zx1 :: x.asks.map fun a=>zbl (askT a)))=QS at *
      have hQl:QS.length≤2010:=by rw[<-hQS];simp;omega
      have hfk:Hid (QS ++ x.owns.flatMap clsT=RS ++ kprT x):=Lib.hid (by rw[<-hQS,List.append_assoc];rfl)
      replace hQS:=Lib.hid hQS
      have hI1:Hid (zqY wr w1.heap.size u3 (QS ++ (x.owns.take 0).flatMap clsT)∧Fr No w1 wr):=Lib.hid ⟨by rw[List.take_zero,List.flatMap_nil,List.append_nil];exact hrow,hfq⟩
      clear hrow hfq B1q
      go_wp2_with fail
      go_loopw [3,6] (fun v i wr=>∃k:Nat,k≤x.owns.length∧i=.int .i64 k∧Hid (zqY wr w1.heap.size v (QS ++ (x.owns.take k).flatMap clsT)∧Fr No w1 wr)) (fun _ i _=>x.owns.length-(intOf i).toNat)
      case atStart=>exact⟨0,Nat.zero_le _,rfl,hI1⟩
      case round=>
       clear hI1 p00 p0l k0 k1
       obtain⟨k,hk9,rfl,hI⟩:=hrel
       obtain⟨hrow,hfq⟩:=hI.out
       clear hI
       have B1q:=B11.keep hfq
       have p00:=B1q.c1
       have p0l:=B1q.lt
       have k0:=hfq.keep0 c0
       by_cases hlk:k<x.owns.length
       ·have hvor:=hvo.keep (R':=ClsC X wr) hfq zN (fun _ _ _ h=>h.keep hfq zN)
        obtain⟨bo,oo,Af,cf,Am,cm,rfl,_,e0,e1,e2,e3,z1,z2,hvf,hvm,pf1,pf2,pm1,pm2⟩:=hvor.cls hlk
        have hadd2:IntKind.i64.wrap ((k:Int)+1)=((k+1:Nat):Int):=by rw[IntWalk.i64_in _ (by omega)];simp
        have hnx:Hid ((QS ++ (x.owns.take k).flatMap clsT) ++ clsT x.owns[k]=QS ++ (x.owns.take (k+1)).flatMap clsT):=Lib.hid (by rw[List.take_succ_eq_append_getElem hlk,List.flatMap_append,List.append_assoc];simp)
        have hql:(QS ++ (x.owns.take k).flatMap clsT).length≤50000:=by
         have h9:=zyL (f:=clsT) (k:=100) (x.owns.take k) (fun m hm=>zy1 (hq3 m (List.mem_of_mem_take hm)))
         rw[List.length_append]
         rw[List.length_take] at h9
         omega
        have hcp:=Lib.hid (hq3 _ (List.getElem_mem hlk))
        have hcn:=Lib.hid (hq5 _ (List.getElem_mem hlk))
        generalize x.owns[k]=y at *
        generalize(QS ++ (x.owns.take k).flatMap clsT)=PS at *
        have hcl:=zy1 hcp.out
        have hcz:=Lib.hid (zy2 hcp.out)
        have HM:=fun W (hW:Fr No wr W)=>zzd X y [.string y.name,.string y.super,.slice Af y.fields.length cf,.slice Am y.methods.length cm] W ⟨_,_,rfl,z1,z2,hvf.k0 hW,hvm.keep (R':=MthC X W) hW zN (fun _ _ _ h=>h.keep hW zN)⟩ hcp.out hcn.out
        unfold zyv at HM
        replace hrow:=Lib.hid hrow
        clear hvf hvm hvor B1q
        go_wp2_with (go_at_call 30;refine(HM _ (by exact frc)).mono ?_;rintro e w5 ⟨v5,rfl,hr5,hf5⟩;refine Hid.out ?_)
        refine Lib.hid ?_
        have hfw:=Lib.hid (hfq.trans0 hf5)
        have hrow9:=Lib.hid (hrow.out.keep hf5)
        have hsS:=hr5.sl (fun y hy=>by have:=hcz.out y hy;unfold maxLen;omega)
        have hlw:w1.heap.size≤w5.heap.size:=hfw.out.size
        generalize clsT y=TX at *
        clear hrow hr5 hf5 HM hcz
        go_wp2_with (at_builtin;(refine ztA rfl _ _ rfl w1.heap.size _ PS rfl hrow9.out hql _ _ TX rfl hsS (by omega) hlw ?_);(intro v8 w8 hr8 hf8);refine Hid.out ?_)
        refine Lib.hid ?_
        have hfin:Hid (zqY w8 w1.heap.size v8 (PS ++ TX)∧Fr No w1 w8):=Lib.hid ⟨hr8,hfw.out.trans hf8 (fun b hb e=>by omega)⟩
        rw[hnx.out] at hfin
        clear hr8 hf8 hrow9 hfw
        go_wp2_with fail
        exact⟨⟨k+1,by omega,by simp,hfin⟩,by simp[intOf];omega⟩
       ·obtain rfl:k=x.owns.length:=by omega
        rw[List.take_length,hfk.out,hnext.out] at hrow
        have hfin:=Lib.hid (And.intro hrow hfq)
        clear hrow hfq B1q
        go_wp2_with fail
        exact⟨⟨j+1,by omega,by simp,hfin⟩,by simp[intOf];omega⟩
   ·obtain rfl:j=p.keepers.length:=by omega
    rw[List.take_length] at hrow
    have hz:=Lib.hid (hrow.low (Nat.le_of_lt hnl))
    clear hrow
    go_wp2_with fail
    refine bodyPost_ret (results_tmp rfl _ _ _) rfl ?_
    exact⟨_,rfl,hz.out,hw1.trans0 hfr⟩
end Go.Proofs.YtmeaibjmnjcdfaaGreatDoor
