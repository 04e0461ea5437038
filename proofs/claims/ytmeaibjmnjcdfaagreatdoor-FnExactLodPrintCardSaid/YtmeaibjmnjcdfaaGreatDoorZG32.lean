/- Keepers' text, as the program writes it (LodPrint). -/
import Derived.Test.YtmeaibjmnjcdfaaGreatDoorZG24
import Derived.Test.YtmeaibjmnjcdfaaGreatDoorZG28
set_option maxHeartbeats 8000000
set_option maxRecDepth 100000
namespace Go.Proofs.YtmeaibjmnjcdfaaGreatDoor
open Go.RowKit
theorem zze (p:Plan) (v:Value) (w:World) (h:Sl No w 2 (KprC No w) v p.keepers):Calls Tryz.prog 27 #[.agg #[v]] w (zgm (lodB p) w):=by
 obtain⟨A,cap,rfl,_,_⟩:=h.form
 have hf1:Fr No w (w.alloc (.cells #[.slice A p.keepers.length cap] 30)):=frc
 have HN:=zgH p _ _ (h.keep (R':=KprC No _) hf1 zN (fun _ _ _ h=>h.keep hf1 zN))
 clear h
 unfold zgG at HN
 go_enter Tryz.func27,Tryz.ntmps27
 go_wp2_with fail
 refine HN.mono ?_
 rintro e w1 ⟨hf2,⟨hb,rfl⟩ | ⟨hb,l,bl,rfl,_⟩⟩
 ·replace hb:=Lib.hid hb
  clear HN
  go_wp2_with fail
  go_ret
  exact .mk hb.out.symm (hf1.trans0 hf2)
 ·replace hb:=Lib.hid hb
  clear HN
  go_wp2_with fail
  go_ret
  exact .mk hb.out.symm (hf1.trans0 hf2)
theorem zzf (n:Str) (k:Int):(⟨#[97,115,107,115,32]⟩:Str) ++ n ++ ⟨#[32]⟩ ++ zbl (numL k)=zbl (askT ⟨n,k⟩):=by
 unfold askT zx0
 rw[<-zqJ,<-zqJ,<-zqJ]
 rfl
theorem zzg (n:Str) (k:Int) (h:n.size≤6) (h0:-100000<k) (h1:k<100000):(zbl (askT ⟨n,k⟩)).size≤20:=by
 have h1:(Str.l n).length≤6:=by rw[zkb];exact h
 have h2:=zyi k h0 (by omega)
 rw[zpT]
 unfold askT zx0
 simp
 omega
theorem zzh {k:Kpr} (h:zyZ k):(kprT k).length≤505:=by
 obtain⟨h1,h2,h3,_⟩:=h
 have h9:=zyL (f:=clsT) (k:=100) k.owns (fun c hc=>zy1 (h3 c hc))
 unfold kprT
 simp
 simp at h9
 omega
theorem zzi (n:Nat) (v:Value) (xs:List Str) (w:World) (ty:TypeId) (hrow:zqY w n v xs) (hxl:xs.length≤50000) (X:Nat->Prop) (u:Value) (ys:List Str) (hu:Sl X w 1 StrC u ys) (hyl:ys.length≤50000) (hn:n≤w.heap.size):
  ∃v' w',(Builtin.append_ #[26,26] ty #[v,u]).run Tryz.prog w=.ok v' w'∧zqY w' n v' (xs ++ ys)∧Fr (fun b=>zcP v=some b) w w':=by
 obtain⟨i0,z,hi,hz0,hz1,hz2,hz3⟩:=zqX.info
 obtain⟨A,c,rfl,hc⟩:=hrow.form
 obtain⟨B,cb,rfl,_,_⟩:=hu.form
 rcases Nat.eq_zero_or_pos ys.length with h0|h0
 ·obtain rfl:=List.eq_nil_of_length_eq_zero h0
  exact⟨_,w,zty w _ ty _ i0 zqX.und hi A B xs.length c cb hc,by simpa using hrow,Fr.refl _ _⟩
 ·obtain⟨b,off,cs,rfl,_,_,_⟩:=hu.cells h0
  have hraw:=hu.strRaws
  have hl9:(ys.map zqT).length=ys.length:=List.length_map ..
  rw[<-hl9] at hraw ⊢
  obtain⟨g,c',w',hr,h1,h2,h3,h4⟩:=zcR (P:=Tryz.prog) w 26 ty 9 i0 z 1 16 zqX.und hi hz0 hz1 hz2 hz3 (by decide) _ xs.length (rawL (xs.map zqT)) hrow.1 ⟨b,off,none⟩ (ys.map zqT).length cb (rawL (ys.map zqT)) (zqD _) (hraw.rawNews (by decide)) (zqU ys) (by omega) (by unfold maxLen;omega) (by omega)
  have hg:n≤g:=h4.elim (fun h=>hrow.2 g h) (fun h=>by omega)
  refine⟨_,w',hr,⟨?_,fun q hq=>?_⟩,h3⟩
  ·rw[List.length_append,List.map_append]
   rw[hl9] at h1 ⊢
   unfold rawL at h1 ⊢
   rw[List.flatMap_append]
   exact h1
  ·rw[zcQ] at hq
   split at hq
   ·cases hq
   ·cases hq;exact hg
theorem zzj {w:World} {a:Act} {o:Oper} {ops:Array Oper} {Q:Exit->Act->World->Prop} {rest:List Oper} (hgd:o.guard=none) (s x:Operand) (ho:o.op=.call { callee:=.builtin .append,args:=#[s,x],argTypes:=#[26,26] })
  (n:Nat) (v:Value) (xs:List Str) (hs:a.eval s=v) (hrow:zqY w n v xs) (hxl:xs.length≤50000) (X:Nat->Prop) (u:Value) (ys:List Str) (hx:a.eval x=u) (hu:Sl X w 1 StrC u ys) (hyl:ys.length≤50000) (hn:n≤w.heap.size)
  (k:∀v' w',zqY w' n v' (xs ++ ys)->Fr (fun b=>zcP v=some b) w w'->wpList Tryz.prog ops Q rest (a.put o.dst v') w'):wpList Tryz.prog ops Q (o :: rest) a w:=by
 refine wpList_plain hgd fun K hK=>?_
 obtain⟨v',w',hr,h1,h2⟩:=zzi n v xs w o.type hrow hxl X u ys hu hyl hn
 unfold Oper.wp execOp
 simp only[ho,resolve,invoke,builtin,Sem.run_bind,Sem.run_pure,Result.andThen_ok,List.map_toArray,List.map_cons,List.map_nil,hs,hx,hr]
 exact hK _ _ (k v' w' h1 h2)
theorem Bx.apart {w w':World} {n b:Nat} {t:TypeId} {cs:Array Value} {v:Value} {xs:List Str} (h:Bx w b t cs) (hr:zqY w n v xs) (hf:Fr (fun b=>zcP v=some b) w w') (ht:9≠t):Bx w' b t cs:=h.keepX hf (fun e=>RowV.ne hr.1 h ht e rfl)
abbrev tKpr:TypeId:=51
theorem zzk (p:Plan) (v:Value) (w:World) (h:Sl No w 2 (KprC No w) v p.keepers) (ht:TabW w):
  Calls Tryz.prog 10 #[.agg #[v]] w (zyv No (zx6 p) w):=by
 obtain⟨A,cap,rfl,_,hlen⟩:=h.form
 obtain⟨wA,hwA⟩:∃wA,wA=w.alloc (.cells #[.slice A p.keepers.length cap] 30):=⟨_,rfl⟩
 have hfA:Fr No w wA:=hwA▸frc
 have B1:Bx wA w.heap.size 30 #[.slice A p.keepers.length cap]:=hwA▸bxc
 have hA:=h.keep (R':=KprC No wA) hfA zN (fun _ _ _ h=>h.keep hfA zN)
 have HO:=zze p _ wA hA
 have htA:=ht.keep hfA
 have hpt:Hid (zx6 p=if lodB p then p.keepers.flatMap kprT else []):=Lib.hid rfl
 have hpr:=@zy0 p
 have p00:=B1.c1
 have p0l:=B1.lt
 clear h ht
 cases hb:lodB p
 ·rw[hb] at HO
  have hn:zx6 p=[]:=by rw[hpt.out,hb];rfl
  rw[hn]
  clear hb hn hpt hpr
  go_enter Tryz.func10,Tryz.ntmps10
  go_wp2_with (go_at_call 27;rw[<-hwA];refine HO.mono ?_;rintro e w1 ⟨rfl,hf1⟩)
  go_ret
  exact⟨_,rfl,⟨RowV.nil _ _ _,fun q hq=>by cases hq⟩,hfA.trans0 hf1⟩
 ·rw[hb] at HO
  have hn:zx6 p=p.keepers.flatMap kprT:=by rw[hpt.out,hb];rfl
  obtain⟨hk3,hkp⟩:=hpr hb
  rw[hn]
  clear hb hn hpt hpr
  go_enter Tryz.func10,Tryz.ntmps10
  go_wp2_with (go_at_call 27;rw[<-hwA];refine HO.mono ?_;rintro e w1 ⟨rfl,hf1⟩;have p00:=(B1.keep hf1).c1;have p0l:=(B1.keep hf1).lt)
  replace hwA:=Lib.hid hwA
  have B11:=B1.keep hf1
  have hK:=hA.keep (R':=KprC No w1) hf1 zN (fun _ _ _ h=>h.keep hf1 zN)
  have ht1:=htA.keep hf1
  have hw1:=hfA.trans0 hf1
  have hnl:w.heap.size<w1.heap.size:=B11.lt
  clear hA htA HO hfA hf1 B1 p00 p0l
  have hI0:Hid (zqY w1 w1.heap.size (.slice none 0 0) ((p.keepers.take 0).flatMap kprT)∧Fr No w1 w1):=Lib.hid ⟨⟨RowV.nil _ _ _,fun q hq=>by cases hq⟩,Fr.refl _ _⟩
  have p00:=B11.c1
  have p0l:=B11.lt
  go_wp2_with fail
  go_loopw [3,16] (fun v i wr=>∃j:Nat,j≤p.keepers.length∧i=.int .i64 j∧Hid (zqY wr w1.heap.size v ((p.keepers.take j).flatMap kprT)∧Fr No w1 wr)) (fun _ i _=>p.keepers.length-(intOf i).toNat)
  case atStart=>exact⟨0,Nat.zero_le _,rfl,hI0⟩
  case round=>
   clear hI0 p00 p0l
   obtain⟨j,hj,rfl,hI⟩:=hrel
   obtain⟨hrow,hfr⟩:=hI.out
   clear hI
   by_cases hlt:j<p.keepers.length
   ·obtain⟨b,off,Ao,co,Aa,ca,rfl,_,c0,c1,hvo,hva,po1,po2,pa1,pa2⟩:=hK.kpr hlt
    replace c0:=hfr.keep0 c0
    replace c1:=hfr.keep0 c1
    have hadd:IntKind.i64.wrap ((j:Int)+1)=((j+1:Nat):Int):=by rw[IntWalk.i64_in _ (by omega)];simp
    have hnext:Hid ((p.keepers.take j).flatMap kprT ++ kprT p.keepers[j]=(p.keepers.take (j+1)).flatMap kprT):=Lib.hid (by rw[List.take_succ_eq_append_getElem hlt,List.flatMap_append];simp)
    have hrl:((p.keepers.take j).flatMap kprT).length≤2000:=by
     have h9:=zyL (f:=kprT) (k:=505) (p.keepers.take j) (fun m hm=>zzh (hkp m (List.mem_of_mem_take hm)))
     rw[List.length_take] at h9
     omega
    obtain⟨hq1,hq2,hq3,hq4⟩:=hkp _ (List.getElem_mem hlt)
    generalize p.keepers[j]=x at *
    generalize((p.keepers.take j).flatMap kprT)=RS at *
    have htr:=ht1.keep hfr
    obtain⟨w2,hw2⟩:∃w2,w2=wr.alloc (.cells #[.slice Ao x.owns.length co,.slice Aa x.asks.length ca] 51):=⟨_,rfl⟩
    have hf12:Fr No wr w2:=hw2▸frc
    have BK:Bx w2 wr.heap.size 51 #[.slice Ao x.owns.length co,.slice Aa x.asks.length ca]:=hw2▸bxc
    obtain⟨w3,hw3⟩:∃w3,w3=w2.alloc (.cells #[.string ⟨#[107,101,101,112,101,114]⟩] 9):=⟨_,rfl⟩
    have hf23:Fr No w2 w3:=hw3▸frc
    have BS:Bx w3 w2.heap.size 9 #[.string ⟨#[107,101,101,112,101,114]⟩]:=hw3▸bxc
    have hsS:=Sl.oneStr (X:=No) BS (fun h=>h) (by unfold maxLen;decide)
    have hf13:=hfr.trans0 (hf12.trans0 hf23)
    have hrow3:=Lib.hid (hrow.keep (hf12.trans0 hf23))
    have hlw:w1.heap.size≤w3.heap.size:=hf13.size
    have hwr1:=hfr.size
    have hBl:=BK.lt
    have hsz2:w2.heap.size=wr.heap.size+1:=by rw[hw2];simp
    clear hrow
    go_wp2_with (at_builtin;rw[<-hw2,<-hw3];(rw[hsz2] at hsS);(refine zzj rfl _ _ rfl w1.heap.size _ RS rfl hrow3.out (by omega) No _ [⟨#[107,101,101,112,101,114]⟩] rfl hsS (by simp) hlw ?_);(intro v4 w4 hr4 hf4);refine Hid.out ?_)
    refine Lib.hid ?_
    have BK4:=(BK.keep hf23).apart hrow3.out hf4 (by decide)
    have hw4:Fr No w1 w4:=hf13.trans hf4 (fun b hb e=>by have:=hrow3.out.2 b e;omega)
    obtain⟨d0,d1⟩:=BK4.c2
    have dl:=BK4.lt
    have hI0:Hid (zqY w4 w1.heap.size v4 (RS ++ (zbl zx1 :: (x.asks.take 0).map fun a=>zbl (askT a)))∧Fr No w1 w4∧Bx w4 wr.heap.size tKpr #[.slice Ao x.owns.length co,.slice Aa x.asks.length ca]):=Lib.hid ⟨hr4,hw4,BK4⟩
    clear hrow3 hf4 hf13 hf23 BS hsS hlw BK BK4 hr4 hw4
    replace hf12:=Lib.hid hf12
    replace hw2:=Lib.hid hw2
    replace hw3:=Lib.hid hw3
    obtain⟨kb,hkb⟩:∃kb,kb=wr.heap.size:=⟨_,rfl⟩
    rw[<-hkb] at hI0 d0 d1 dl ⊢
    replace hkb:=Lib.hid hkb
    go_wp2_with fail
    go_loopw [3,26] (fun v i wr=>∃k:Nat,k≤x.asks.length∧i=.int .i64 k∧Hid (zqY wr w1.heap.size v (RS ++ (zbl zx1 :: (x.asks.take k).map fun a=>zbl (askT a)))∧Fr No w1 wr∧Bx wr kb tKpr #[.slice Ao x.owns.length co,.slice Aa x.asks.length ca])) (fun _ i _=>x.asks.length-(intOf i).toNat)
    case atStart=>exact⟨0,Nat.zero_le _,rfl,hI0⟩
    case round=>
     clear hI0 d0 d1 dl
     obtain⟨k,hk,rfl,hI⟩:=hrel
     obtain⟨hrow,hfq,BKq⟩:=hI.out
     clear hI
     by_cases hlk:k<x.asks.length
     ·obtain⟨ba,oa,rfl,_,k0,k1,kz⟩:=(hva.k0 hfq).ask hlk
      have hadd2:IntKind.i64.wrap ((k:Int)+1)=((k+1:Nat):Int):=by rw[IntWalk.i64_in _ (by omega)];simp
      have hnx:Hid ((RS ++ (zbl zx1 :: (x.asks.take k).map fun a=>zbl (askT a))) ++ [zbl (askT x.asks[k])]=RS ++ (zbl zx1 :: (x.asks.take (k+1)).map fun a=>zbl (askT a))):=Lib.hid (by rw[List.take_succ_eq_append_getElem hlk,List.map_append,List.append_assoc];rfl)
      have hql:(RS ++ (zbl zx1 :: (x.asks.take k).map fun a=>zbl (askT a))).length≤50000:=by simp;omega
      obtain⟨ha6,ha7,ha8⟩:=hq4 _ (List.getElem_mem hlk)
      generalize x.asks[k]=y at *
      generalize(RS ++ (zbl zx1 :: (x.asks.take k).map fun a=>zbl (askT a)))=QS at *
      obtain⟨an,ak⟩:=y
      dsimp only at *
      have htq:=ht1.keep hfq
      have has:=zzg an ak ha6 (by omega) (by omega)
      have hat:=Lib.hid (zzf an ak)
      have hnz:(zbl (numL ak)).size≤7:=by rw[zpT];exact zyi ak (by omega) (by omega)
      obtain⟨w5,hw5⟩:∃w5,w5=wr.alloc (.cells #[.string an,.int .i64 ak] 53):=⟨_,rfl⟩
      have hf15:Fr No wr w5:=hw5▸frc
      have BA:Bx w5 wr.heap.size 53 #[.string an,.int .i64 ak]:=hw5▸bxc
      have KF:=fun W (h:Fr No w5 W)=>(BA.keep h).c2
      have KFl:=fun W (h:Fr No w5 W)=>(BA.keep h).lt
      have HI:=fun W (h:Fr No w5 W)=>zyh ak W (by omega) (by omega) (htq.keep (hf15.trans0 h))
      have hrow2:=Lib.hid (hrow.keep hf15)
      have hfr2:=Lib.hid (hfq.trans0 hf15)
      have hlw2:w1.heap.size≤w5.heap.size:=(hfq.trans0 hf15).size
      have BK2:=Lib.hid (BKq.keep hf15)
      clear hrow BKq
      go_upto_region 11 with (fail)
      rw[<-hw5]
      replace hw5:=Lib.hid hw5
      clear k0 k1 BA
      refine zn0 10 40 [mV (u3),mV (.pointer (some ⟨wr.heap.size,0,none⟩)),mV (.string an),mV (.string ((⟨#[97,115,107,115,32]⟩:Str) ++ an)),mV (.string ((⟨#[97,115,107,115,32]⟩:Str) ++ an ++ ⟨#[32]⟩)),mV (.pointer (some ⟨wr.heap.size,1,none⟩)),mV (.int .i64 ak),mV (.string (zbl (numL ak))),mV (.string ((⟨#[97,115,107,115,32]⟩:Str) ++ an ++ ⟨#[32]⟩ ++ zbl (numL ak))),mS 9 (#[.string ((⟨#[97,115,107,115,32]⟩:Str) ++ an ++ ⟨#[32]⟩ ++ zbl (numL ak))]) 1 w5.heap.size] (by kernel_rfl) (by kernel_rfl) (by simp) ?_ ?_
      ·refine hc4 ?_ ?_ ?_ ?_ <| hc4 ?_ ?_ ?_ ?_ <| hopC ?_ <| hopC ?_ <| hopZ
       all_goals (intro a' W hW hoff hdep;have hbs:=hW.size;have H3:=hoff 3 rfl;have H7:=hoff 7 rfl;refine nE rfl ?_)
       ·simp[execOp,Act.eval,H3,go_sem,zaa];exact fr1 rfl
       ·simp[execOp,Act.eval,H7,go_sem,zaa];exact fr1 rfl
       ·have D31:_=_:=hdep 1 31 rfl;clear hoff hdep;simp[execOp,Act.eval,go_sem,zaa, *];exact fr1 rfl
       ·have D32:_=_:=hdep 2 32 rfl;simp[execOp,Act.eval,D32,go_sem,zaa];rw[if_neg (by omega)];exact fr1 rfl
       ·have D33:_=_:=hdep 3 33 rfl;simp[execOp,Act.eval,D33,go_sem,zaa];rw[if_neg (by omega)];exact fr1 rfl
       ·simp[execOp,Act.eval,H7,go_sem,zaa];exact fr1 rfl
       ·have D35:_=_:=hdep 5 35 rfl;clear hoff hdep;simp[execOp,Act.eval,go_sem,zaa, *];exact fr1 rfl
       ·have D36:_=_:=hdep 6 36 rfl;simp[Act.eval,D36,go_sem,zaa];exact(HI W hW).mono fun e w' h=>⟨_,h.1,h.2,rfl⟩
       ·have D34:_=_:=hdep 4 34 rfl;have D37:_=_:=hdep 7 37 rfl;simp[execOp,Act.eval,D34,D37,go_sem,zaa];rw[if_neg (by omega)];exact fr1 rfl
       ·have D38:_=_:=hdep 8 38 rfl;simp at D38;simp[execOp,Act.eval,D38,go_sem,zaa];exact⟨(Fr.refl _ _).alloc _,⟨_,rfl,Bx.new_ rfl,hbs⟩,Nat.le_refl _⟩
      intro vs WR hWR hv hne
      obtain⟨b9,e9,hb9,hl9⟩:=hv 9 (by omega)
      simp only[lz6,List.drop_zero,znQ,znK,znR,Nat.zero_add,Nat.reduceAdd,e9]
      simp only[Act.put,lz0,lz1,lz2]
      clear e9 hv
      rw[hat.out] at hb9
      have hsS:=Sl.oneStr (X:=No) hb9 (fun h=>h) (by unfold maxLen;omega)
      have hrow9:=Lib.hid (hrow2.out.keep hWR)
      have hlw:w1.heap.size≤WR.heap.size:=Nat.le_trans hlw2 hWR.size
      have hfwS:=Lib.hid (hfr2.out.trans0 hWR)
      have BK9:=Lib.hid (BK2.out.keep hWR)
      generalize askT ⟨an,ak⟩=TX at *
      clear hne hrow2 hfr2 HI KF KFl
      refine zzj rfl _ _ rfl w1.heap.size _ QS rfl hrow9.out hql No _ [zbl TX] rfl hsS (by simp) hlw ?_
      intro v8 w8 hr8 hf8
      simp only[Act.put,lz0,lz1,lz2]
      have hfin:Hid (zqY w8 w1.heap.size v8 (QS ++ [zbl TX])∧Fr No w1 w8∧Bx w8 kb tKpr #[.slice Ao x.owns.length co,.slice (some ⟨ba,oa,none⟩) x.asks.length ca]):=Lib.hid ⟨hr8,hfwS.out.trans hf8 (fun b hb e=>by have:=hrow9.out.2 b e;omega),BK9.out.apart hrow9.out hf8 (by decide)⟩
      rw[hnx.out] at hfin
      clear hr8 hf8 hrow9 hfwS BK9
      go_wp2_with fail
      exact⟨⟨k+1,by omega,by simp,hfin⟩,by simp[intOf];omega⟩
     ·obtain rfl:k=x.asks.length:=by omega
      rw[List.take_length] at hrow
      obtain⟨d0,d1⟩:=BKq.c2
      have dl:=BKq.lt
      generalize hQS:(RS ++ (zbl zx1 :: x.asks.map fun a=>zbl (askT a)))=QS at *
      have hQl:QS.length≤2010:=by rw[<-hQS];simp;omega
      have hfk:Hid (QS ++ x.owns.flatMap clsT=RS ++ kprT x):=Lib.hid (by rw[<-hQS,List.append_assoc];rfl)
      replace hQS:=Lib.hid hQS
      have hI1:Hid (zqY wr w1.heap.size u3 (QS ++ (x.owns.take 0).flatMap clsT)∧Fr No w1 wr∧Bx wr kb tKpr #[.slice Ao x.owns.length co,.slice Aa x.asks.length ca]):=Lib.hid ⟨by rw[List.take_zero,List.flatMap_nil,List.append_nil];exact hrow,hfq,BKq⟩
      clear hrow hfq BKq
      go_wp2_with fail
      go_loopw [3,45] (fun v i wr=>∃k:Nat,k≤x.owns.length∧i=.int .i64 k∧Hid (zqY wr w1.heap.size v (QS ++ (x.owns.take k).flatMap clsT)∧Fr No w1 wr∧Bx wr kb tKpr #[.slice Ao x.owns.length co,.slice Aa x.asks.length ca])) (fun _ i _=>x.owns.length-(intOf i).toNat)
      case atStart=>exact⟨0,Nat.zero_le _,rfl,hI1⟩
      case round=>
       clear hI1 d0 d1 dl
       obtain⟨k,hk9,rfl,hI⟩:=hrel
       obtain⟨hrow,hfq,BKq⟩:=hI.out
       clear hI
       by_cases hlk:k<x.owns.length
       ·have hvor:=hvo.keep (R':=ClsC No wr) hfq zN (fun _ _ _ h=>h.keep hfq zN)
        obtain⟨bo,oo,Af,cf,Am,cm,rfl,_,k0,k1,k2,k3,z1,z2,hvf,hvm,pf1,pf2,pm1,pm2⟩:=hvor.cls hlk
        have hadd2:IntKind.i64.wrap ((k:Int)+1)=((k+1:Nat):Int):=by rw[IntWalk.i64_in _ (by omega)];simp
        have hnx:Hid ((QS ++ (x.owns.take k).flatMap clsT) ++ clsT x.owns[k]=QS ++ (x.owns.take (k+1)).flatMap clsT):=Lib.hid (by rw[List.take_succ_eq_append_getElem hlk,List.flatMap_append,List.append_assoc];simp)
        have hql:(QS ++ (x.owns.take k).flatMap clsT).length≤50000:=by
         have h9:=zyL (f:=clsT) (k:=100) (x.owns.take k) (fun m hm=>zy1 (hq3 m (List.mem_of_mem_take hm)))
         rw[List.length_append]
         rw[List.length_take] at h9
         omega
        have hcp:=Lib.hid (hq3 _ (List.getElem_mem hlk))
        generalize x.owns[k]=y at *
        generalize(QS ++ (x.owns.take k).flatMap clsT)=PS at *
        have hcl:=zy1 hcp.out
        have hcz:=Lib.hid (zy2 hcp.out)
        have htq:=ht1.keep hfq
        have HM:=fun W (hW:Fr No wr W)=>zyQ No y [.string y.name,.string y.super,.slice Af y.fields.length cf,.slice Am y.methods.length cm] W ⟨_,_,rfl,z1,z2,hvf.k0 hW,hvm.keep (R':=MthC No W) hW zN (fun _ _ _ h=>h.keep hW zN)⟩ hcp.out (htq.keep hW)
        unfold zyv at HM
        replace hrow:=Lib.hid hrow
        replace BKq:=Lib.hid BKq
        clear hvf hvm hvor
        go_wp2_with (go_at_call 33;refine(HM _ (by exact frc)).mono ?_;rintro e w5 ⟨v5,rfl,hr5,hf5⟩;refine Hid.out ?_)
        refine Lib.hid ?_
        have hf05:Fr No wr w5:=(by exact frc:Fr No wr _).trans0 hf5
        have hfw:=Lib.hid (hfq.trans0 hf05)
        have hrow9:=Lib.hid (hrow.out.keep hf05)
        have BK9:=Lib.hid (BKq.out.keep hf05)
        have hsS:=hr5.sl (fun y hy=>by have:=hcz.out y hy;unfold maxLen;omega)
        have hlw:w1.heap.size≤w5.heap.size:=hfw.out.size
        generalize clsT y=TX at *
        clear hrow hr5 hf05 hf5 HM hcz BKq
        go_wp2_with (at_builtin;(refine zzj rfl _ _ rfl w1.heap.size _ PS rfl hrow9.out hql _ _ TX rfl hsS (by omega) hlw ?_);(intro v8 w8 hr8 hf8);refine Hid.out ?_)
        refine Lib.hid ?_
        have hfin:Hid (zqY w8 w1.heap.size v8 (PS ++ TX)∧Fr No w1 w8∧Bx w8 kb tKpr #[.slice (some ⟨bo,oo,none⟩) x.owns.length co,.slice Aa x.asks.length ca]):=Lib.hid ⟨hr8,hfw.out.trans hf8 (fun b hb e=>by have:=hrow9.out.2 b e;omega),BK9.out.apart hrow9.out hf8 (by decide)⟩
        rw[hnx.out] at hfin
        clear hr8 hf8 hrow9 hfw BK9
        go_wp2_with fail
        exact⟨⟨k+1,by omega,by simp,hfin⟩,by simp[intOf];omega⟩
       ·obtain rfl:k=x.owns.length:=by omega
        rw[List.take_length,hfk.out,hnext.out] at hrow
        have hfin:=Lib.hid (And.intro hrow hfq)
        clear hrow hfq BKq
        go_wp2_with fail
        exact⟨⟨j+1,by omega,by simp,hfin⟩,by simp[intOf];omega⟩
   ·obtain rfl:j=p.keepers.length:=by omega
    rw[List.take_length] at hrow
    have hz:=Lib.hid (hrow.low (Nat.le_of_lt hnl))
    clear hrow
    go_wp2_with fail
    refine bodyPost_ret (results_tmp rfl _ _ _) rfl ?_
    exact⟨_,rfl,hz.out,hw1.trans0 hfr⟩
end Go.Proofs.YtmeaibjmnjcdfaaGreatDoor
