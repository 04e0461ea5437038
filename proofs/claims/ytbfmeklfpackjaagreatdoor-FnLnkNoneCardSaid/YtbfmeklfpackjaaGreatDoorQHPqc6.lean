/- The reference's l4Get. -/
import Derived.Test.YtbfmeklfpackjaaGreatDoorQHPqcE
import Derived.Test.YtbfmeklfpackjaaGreatDoorQHPqc5
import Derived.Test.YtbfmeklfpackjaaGreatDoorTie
import Derived.Test.YtbfmeklfpackjaaGreatDoorCards
import Derived.ProofKit
import Derived.KernelRfl
import Derived.Below
import Derived.ChangeSame
import Derived.LaidMore
import Derived.LaidHandle
import Derived.Carry
import Derived.Stop.Joined
import Derived.SevenTiedAt
set_option maxHeartbeats 8000000
set_option maxRecDepth 100000
namespace Go.Proofs.YtbfmeklfpackjaaGreatDoor
open Go.RowKit Go.ChangeShapes Go.WideShapes Go.ChangeAt
theorem zlE (X:Nat->Prop) (p:Plan) (v:Value) (k0:Nat) (s m:Str) (w:World) (hp:lodB p=true) (h:Sl X w 2 (KprC X w) v p.keepers) (hk0:k0<p.keepers.length) (hs:s.size≤maxLen) (_hm:m.size≤maxLen):
  Calls Tryz.prog 38 #[.agg #[v],.int .i64 k0,.string s,.string m] w (Gives (getV (getG p k0 m (zdR p k0 s))) w):=by
 obtain⟨A,cap,rfl,_,_⟩:=h.form
 have hkw:=fun W (hW:Fr No w W)=>h.keep (R':=KprC X W) hW zN (fun _ _ _ h=>h.keep hW zN)
 have HK:=fun W (hW:Fr No w W)=>znj X p _ k0 s W hp (hkw W hW) hk0 hs
 have B0:Bx ((w.alloc (.cells #[.slice A p.keepers.length cap] 25)).alloc (.cells #[.int .i64 0,.string ⟨#[]⟩,.int .i64 0,.int .i64 0,.string ⟨#[]⟩] 53)) w.heap.size 25 #[.slice A p.keepers.length cap]:=bxc
 have B1:Bx ((w.alloc (.cells #[.slice A p.keepers.length cap] 25)).alloc (.cells #[.int .i64 0,.string ⟨#[]⟩,.int .i64 0,.int .i64 0,.string ⟨#[]⟩] 53)) (w.heap.size+1) 53 #[.int .i64 0,.string ⟨#[]⟩,.int .i64 0,.int .i64 0,.string ⟨#[]⟩]:=bxc
 obtain⟨q,hq⟩:∃q,q=zdR p k0 s:=⟨_,rfl⟩
 rw[<-hq] at HK ⊢
 obtain⟨V,hV⟩:∃V,V=getG p k0 m q:=⟨_,rfl⟩
 rw[<-hV]
 obtain⟨⟨rk,rn⟩,c⟩:=q
 unfold refV at HK
 dsimp only at HK
 unfold getG at hV
 dsimp only at hV
 by_cases hc:c=1
 ·subst hc
  rw[if_pos rfl] at hV
  obtain⟨kc,i,hr,hh,hcb,hfk⟩:=zd0 hp hq.symm
  obtain⟨kc2,_,pre,hq2,_,hch⟩:=zmH hp (show(zmD p k0 s).2=1 by rw[hfk])
  have hkk:kc=kc2:=Int.ofNat.inj (Ref.mk.inj (Prod.mk.inj (hfk.symm.trans hq2)).1).1
  subst hkk
  obtain⟨rfl,rfl⟩:=Ref.mk.inj hr
  have HL:=fun W (hW:Fr No w W)=>zhV X p _ kc rn i pre W hp (hkw W hW) hh hs hch
  rw[(zni hfk hh hch).1] at hV
  have hall:=zhf hp hh hch
  have hrs:zhb p pre.reverse:=fun x hx=>hall x (by simpa using hx)
  have hlen:=zhh hch
  have hnd:pre.reverse.Nodup:=zed (zjz hch)
  have hsm:=zeh hp hrs 0
  have hF18:=zjM hp hrs
  have hfa:=fun i (hi:i<(zjB p pre.reverse).length)=>zjG (p:=p) hnd i hi
  have hlh:∀x∈zjB p pre.reverse,∃kq iq:Nat,x.1.keeper=(kq:Int)∧Here p x.1 kq iq∧x.1.name.size≤maxLen:=fun x hx=>by
   obtain⟨h1,_⟩:=zjF hx
   obtain⟨h3,kq,iq,hh⟩:=hrs _ h1
   exact⟨kq,iq,hh.1,hh,h3⟩
  unfold zhU layL at HL
  have hcnt:∀i (hi:i<(zjB p pre.reverse).length),(zbG p ((zjB p pre.reverse)[i]).1).fields[cntF (zjB p pre.reverse) ((zjB p pre.reverse)[i]).1 i]? =some ((zjB p pre.reverse)[i]).2:=fun i hi=>by
   obtain⟨h1,h2,h3⟩:=hfa i hi
   unfold cntF
   rw[h3]
   exact h2
  clear hfa hnd hrs
  generalize zjB p pre.reverse=F at *
  simp only[List.length_reverse] at hF18
  have hFm:F.length≤100:=by omega
  have HNm:=fun W u i hi kq iq qn f hW hu hq hh hn hd=>zhX X No p (.slice A p.keepers.length cap) u F i kq iq qn f W (hkw W hW) hu hi hFm hq hh hn hd
  have hll:=zjJ F 0
  clear hq hr hh hcb hfk hq2 hch hall hlen
  replace hV:=Lib.hid hV
  replace hcnt:=Lib.hid hcnt
  replace hlh:=Lib.hid hlh
  replace hll:=Lib.hid hll
  replace hsm:=Lib.hid hsm
  go_enter Tryz.func38,Tryz.ntmps38
  go_wp2_with (go_at_call 53;refine(HK _ frc).mono ?_;rintro e w1 ⟨rfl,hf1⟩;have q1:Fr No w w1:=frc;have C0:=B0.keep hf1;have C1:=B1.keep hf1;have b0:=C0.c1;have l0:=C0.lt;have l1:=C1.lt)
  refine zdP (fun W=>Bx W w.heap.size 25 #[.slice A p.keepers.length cap]∧Bx W (w.heap.size+1) 53 #[.int .i64 0,.string ⟨#[]⟩,.int .i64 0,.int .i64 0,.string ⟨#[]⟩]∧Fr No w W) ⟨bxc,bxc,frc⟩ ?_
  rintro Wz ⟨hA,hB,hwz⟩
  clear q1 B0 B1 C0 C1 b0 l0 l1 HK hf1
  refine(HL Wz hwz).mono ?_
  rintro e w2 ⟨v2,rfl,hsl,hf2⟩
  obtain⟨A2,c3,rfl,_,_⟩:=hsl.form
  rw[hll.out]
  have q2:Fr No w w2:=hwz.trans0 hf2
  replace hA:=hA.keep hf2
  replace hB:=hB.keep hf2
  clear HL hf2 hwz
  go_wp2_with fail
  go_loopw [13] (fun i wr=>∃j:Nat,j≤F.length∧i=.int .i64 j∧Hid (V=zjN p k0 m j (F.drop j))∧Fr No w2 wr) (fun i _=>F.length-(intOf i).toNat)
  case atStart=>exact⟨0,Nat.zero_le _,rfl,hV,Fr.refl _ _⟩
  case round=>
   clear hV
   obtain⟨j,hj,rfl,hd,hwr⟩:=hrel
   have hw4:Fr No w wr:=q2.trans0 hwr
   have hBr:=hB.keep hwr
   have hAr:=hA.keep hwr
   have aa0:=hAr.c1
   have aal:=hAr.lt
   obtain⟨z0,z1,z2,z3,z4⟩:=hBr.c5
   have zf:=fun j=>hBr.frozen j
   have zl:=hBr.lt
   by_cases hlt:j<F.length
   ·have hd0:=hd.out
    rw[List.drop_eq_getElem_cons hlt,zjN] at hd0
    have hslr:=hsl.keep (R':=zj4) hwr zN (fun _ _ _ h=>h)
    obtain⟨b,off,rfl,_,c0,c1,c2,c4,c5,hsn,hsk⟩:=hslr.lfld (k:=j) (by have:=hll.out;omega)
    rw[zjK _ _ _ hlt] at c0 c1 c2 c4 c5 hsn hsk
    obtain⟨kq,iq,hqk,hhq,hqs⟩:=hlh.out _ (List.getElem_mem hlt)
    have hct:=hcnt.out j hlt
    rw[hll.out] at hslr
    have HN0:=fun W (hW:Fr No wr W) kq iq qn f=>HNm W (.slice (some ⟨b,off,none⟩) F.length c3) j hlt kq iq qn f (hw4.trans0 hW) (hslr.keep (R':=zj4) hW zN (fun _ _ _ h=>h))
    obtain⟨⟨⟨qk,qn⟩,f⟩,hx⟩:∃x,x=F[j]:=⟨_,rfl⟩
    rw[<-hx] at hd0 c0 c1 c2 c4 c5 hsn hsk hqk hhq hqs hct
    dsimp only at *
    subst hqk
    rw[Nat.zero_add] at c2
    have HN:=fun W (hW:Fr No wr W)=>HN0 W hW kq iq qn f hx.symm hhq hqs hct
    have hd2:Hid (V=if f.name.toList == m.toList then (if zmJ p k0 kq f.kind then (⟨⟨kq,qn⟩,j,f.kind⟩,1) else (zd8,4)) else zjN p k0 m (j+1) (F.drop (j+1))):=hd0
    have cl:=lt_of_cell c0
    have hkq:=hhq.2.1
    clear hd hd0 HN0 HNm hslr hcnt hlh hct hx hsl
    by_cases hnm:f.name.toList=m.toList
    ·have HA:=fun W (hW:Fr No wr W)=>zko X p _ k0 kq f.kind W hp (hkw W (hw4.trans0 hW)) hk0 hkq hsk
     have hd3:Hid (V=if zmJ p k0 kq f.kind then (⟨⟨kq,qn⟩,j,f.kind⟩,1) else (zd8,4)):=hd2.out.trans (by rw[if_pos (by simpa using hnm)])
     clear hd2
     generalize zmJ p k0 kq f.kind=ag at *
     replace hnm:=Lib.hid hnm
     have hnb:(f.name.toList == m.toList)=true:=by simpa using hnm.out
     go_wp2_with (go_at_call 65;refine(HN _ (Fr.refl _ _)).mono ?_;rintro e W5 ⟨rfl,hf5⟩)
     replace HA:=fun W (hW:Fr No W5 W)=>HA W (hf5.trans0 hW)
     have KP:=(hAr.keep hf5).r1
     have K0:=fun W (hW:Fr No W5 W)=>(hf5.trans0 hW).keep0 c0
     have K1:=fun W (hW:Fr No W5 W)=>(hf5.trans0 hW).keep0 c4
     have K2:=fun W (hW:Fr No W5 W)=>(hf5.trans0 hW).keep0 c5
     have s5:=hf5.size
     refine zn0 14 54 [mV (.agg #[.slice A p.keepers.length cap]),mV (.int .i64 k0),mV (.slice (some ⟨b,off,none⟩) F.length c3),mV (.int .i64 j),mV (.pointer (some ⟨b,off+j * 5,none⟩)),mV (.pointer (some ⟨b,off+j * 5,none⟩)),mV (.pointer (some ⟨b,off+j * 5,none⟩)),mV (.int .i64 kq),mV (.slice (some ⟨b,off,none⟩) F.length c3),mV (.int .i64 j),mV (.pointer (some ⟨b,off+j * 5,none⟩)),mV (.pointer (some ⟨b,off+j * 5+3,none⟩)),mV (.agg #[.int .i64 f.kind.kind,.string f.kind.name]),mV (.bool ag)] (by kernel_rfl) (by kernel_rfl) (by simp) ?_ ?_
     ·refine hc4 ?_ ?_ ?_ ?_ <| hc4 ?_ ?_ ?_ ?_ <| hc4 ?_ ?_ ?_ ?_ <| hopC ?_ <| hopC ?_ <| hopZ
      all_goals (intro a' W hW hoff hdep;have hbs:=hW.size;have H4:=hoff 4 rfl;have H1:=hoff 1 rfl;have H12:=hoff 12 rfl;have H13:=hoff 13 rfl;refine nE rfl ?_)
      ·exact gx0
      ·simp[execOp,Act.eval,H1,go_sem,zaa];exact fr1 rfl
      ·simp[execOp,Act.eval,H12,go_sem,zaa];exact fr1 rfl
      ·simp[execOp,Act.eval,H13,go_sem,zaa];exact fr1 rfl
      ·have D42:_=_:=hdep 2 42 rfl;have D43:_=_:=hdep 3 43 rfl;clear hoff hdep;simp[execOp,Act.eval,go_sem,zaa, *];exact fr1 rfl
      ·have D44:_=_:=hdep 4 44 rfl;simp[execOp,Act.eval,D44,go_sem,zaa];exact fr1 rfl
      ·have D45:_=_:=hdep 5 45 rfl;simp[execOp,Act.eval,D45,go_sem,zaa];exact fr1 rfl
      ·have D46:_=_:=hdep 6 46 rfl;clear hoff hdep;simp[execOp,Act.eval,go_sem,zaa, *];exact fr1 rfl
      ·simp[execOp,Act.eval,H12,go_sem,zaa];exact fr1 rfl
      ·simp[execOp,Act.eval,H13,go_sem,zaa];exact fr1 rfl
      ·have D48:_=_:=hdep 8 48 rfl;have D49:_=_:=hdep 9 49 rfl;clear hoff hdep;simp[execOp,Act.eval,go_sem,zaa, *];exact fr1 rfl
      ·have D50:_=_:=hdep 10 50 rfl;simp[execOp,Act.eval,D50,go_sem,zaa];exact fr1 rfl
      ·have D51:_=_:=hdep 11 51 rfl;clear hoff hdep;simp[execOp,Act.eval,go_sem,zaa, *];exact fr1 rfl
      ·have D40:_=_:=hdep 0 40 rfl;have D41:_=_:=hdep 1 41 rfl;have D47:_=_:=hdep 7 47 rfl;have D52:_=_:=hdep 12 52 rfl;simp[Act.eval,D40,D41,D47,D52,go_sem,zaa];exact(HA _ hW).mono fun e w' h=>⟨_,h.1,h.2,rfl⟩
     intro vs WR hWR hv hne
     simp only[lz6,List.drop_zero,znK,znR,Nat.zero_add,Nat.reduceAdd]
     simp only[Act.put,lz0,lz1,lz2]
     clear hv
     have hB6:=(hBr.keep hf5).keep hWR
     have hw6:=(hw4.trans0 hf5).trans0 hWR
     have e0:=K0 WR hWR
     have e1:=(hf5.trans0 hWR).keep0 c1
     have e2:=(hf5.trans0 hWR).keep0 c2
     have e4:=K1 WR hWR
     have e5:=K2 WR hWR
     clear z0 z1 z2 z3 z4 zf zl K0 K1 K2 KP HA c0 c1 c2 c4 c5 aa0 aal
     have hB6s:=hB6
     obtain⟨z0,z1,z2,z3,z4⟩:=hB6.c5
     have zf:=fun j=>hB6s.frozen j
     have zl:=hB6s.lt
     have hsR:=hWR.size
     clear hB6
     cases ag
     ·go_wp2
      refine bodyPost_ret (v:=.tuple #[.agg #[.int .i64 0,.string ⟨#[]⟩,.int .i64 0,.int .i64 0,.string ⟨#[]⟩],.int .i64 4]) (by simp[results,Tryz.results38,go_sem, *]) rfl ?_
      exact .mk1 (by rw[hd3.out];rfl) (zeb hw6 (by omega))
     ·go_wp2
      refine bodyPost_ret (v:=.tuple #[.agg #[.int .i64 kq,.string qn,.int .i64 j,.int .i64 f.kind.kind,.string f.kind.name],.int .i64 1]) (by simp[results,Tryz.results38,go_sem, *]) rfl ?_
      exact .mk1 (by rw[hd3.out];rfl) (zeb hw6 (by omega))
    ·have hd3:Hid (V=zjN p k0 m (j+1) (F.drop (j+1))):=hd2.out.trans (by rw[if_neg (by simpa using hnm)])
     clear hd2
     have hnb:(f.name.toList == m.toList)=false:=by simpa using hnm
     go_wp2_with (go_at_call 65;refine(HN _ (Fr.refl _ _)).mono ?_;rintro e W5 ⟨rfl,hf5⟩)
     go_roundw
     case rel=>exact⟨j+1,by omega,by go_num,hd3,hwr.trans0 hf5⟩
     case measure=>simp[intOf];omega
   ·have HS:Hid (V=(zd8,3)):=hd.out.trans (by rw[List.drop_of_length_le (by omega)];rfl)
    clear hd hcnt hlh hsm hsl HNm
    go_wp2
    refine bodyPost_ret (v:=.tuple #[.agg #[.int .i64 0,.string ⟨#[]⟩,.int .i64 0,.int .i64 0,.string ⟨#[]⟩],.int .i64 3]) (by simp[results,Tryz.results38,go_sem, *]) rfl ?_
    exact .mk1 (by rw[HS.out];rfl) (zeb hw4 (by omega))
 ·rw[if_neg hc] at hV
  subst hV
  have hc':((c:Int) != 1)=true:=by simpa using hc
  unfold getV lfV zd8
  clear hq
  go_enter Tryz.func38,Tryz.ntmps38
  go_wp2_with (go_at_call 53;refine(HK _ frc).mono ?_;rintro e w1 ⟨rfl,hf1⟩;have q1:Fr No w w1:=frc;have C1:=B1.keep hf1;have ⟨z0,z1,z2,z3,z4⟩:=C1.c5;have zf:=(fun j=>C1.frozen j);have zl:=C1.lt)
  refine bodyPost_ret (v:=.tuple #[.agg #[.int .i64 0,.string ⟨#[]⟩,.int .i64 0,.int .i64 0,.string ⟨#[]⟩],.int .i64 c]) (by simp[results,Tryz.results38,go_sem, *]) rfl ?_
  exact .mk1 rfl frc
theorem zvz (X:Nat->Prop) (p:Plan) (v:Value) (k:Int) (s m:Str) (w:World) (h:Sl X w 2 (KprC X w) v p.keepers) (hs:s.size≤maxLen) (hm:m.size≤maxLen):
  Calls Tryz.prog 15 #[.agg #[v],.int .i64 k,.string s,.string m] w (Gives (getV (getS p k s m)) w):=by
 obtain⟨A,cap,rfl,_,hlen⟩:=h.form
 unfold maxLen at hlen
 have hkw:=fun W (hW:Fr No w W)=>h.keep (R':=KprC X W) hW zN (fun _ _ _ h=>h.keep hW zN)
 have HK:=fun W (hW:Fr No w W)=>zaP X p _ W (hkw W hW)
 have HN:=fun W=>zlv s W hs
 have HM:=fun W=>zlv m W hm
 have HL:=fun W=>zlz k 0 ((p.keepers.length:Int)-1) W
 have wl:IntKind.i64.wrap ((p.keepers.length:Int)-1)=(p.keepers.length:Int)-1:=IntWalk.i64_in _ (by omega)
 have hhk:(decide (0≤k)&&decide (k≤(p.keepers.length:Int)-1))=hasK p k:=by unfold hasK;rw[Bool.eq_iff_iff];simp;omega
 rw[hhk] at HL
 have B0:Bx ((w.alloc (.cells #[.slice A p.keepers.length cap] 25)).alloc (.cells #[.int .i64 0,.string ⟨#[]⟩,.int .i64 0,.int .i64 0,.string ⟨#[]⟩] 53)) w.heap.size 25 #[.slice A p.keepers.length cap]:=bxc
 have B1:Bx ((w.alloc (.cells #[.slice A p.keepers.length cap] 25)).alloc (.cells #[.int .i64 0,.string ⟨#[]⟩,.int .i64 0,.int .i64 0,.string ⟨#[]⟩] 53)) (w.heap.size+1) 53 #[.int .i64 0,.string ⟨#[]⟩,.int .i64 0,.int .i64 0,.string ⟨#[]⟩]:=bxc
 have hno:zdS p k s m=(zbH,2)->getS p k s m=(zd8,2):=fun hl=>by
  unfold getS
  split
  ·unfold getB
   rw[hl]
   rfl
  ·rfl
 cases hp:lodB p
 ·have HV:Hid (getS p k s m=(zd8,2)):=by
   show getS p k s m=_
   unfold getS
   rw[hp]
   rfl
  rw[hp] at HK
  clear hp hno
  generalize getS p k s m=V at *
  unfold getV lfV
  clear h hkw hhk
  go_enter Tryz.func15,Tryz.ntmps15
  go_wp2_with (first
   | (go_at_call 28;refine(HK _ frc).mono ?_;rintro e w1 ⟨rfl,hf1⟩;have C0:=B0.keep hf1;have C1:=B1.keep hf1;have b0:=C0.c1;have l0:=C0.lt;have ⟨z0,z1,z2,z3,z4⟩:=C1.c5;have zf:=(fun j=>C1.frozen j);have zl:=C1.lt)
   | (go_at_call 29;refine(HL _).mono ?_;rintro e w2 ⟨rfl,rfl⟩)
   | (go_at_call_of 30 (Value.string s);refine(HN _).mono ?_;rintro e w2 ⟨rfl,rfl⟩)
   | (go_at_call_of 30 (Value.string m);refine(HM _).mono ?_;rintro e w2 ⟨rfl,rfl⟩))
  refine bodyPost_ret (v:=.tuple #[.agg #[.int .i64 0,.string ⟨#[]⟩,.int .i64 0,.int .i64 0,.string ⟨#[]⟩],.int .i64 2]) (by simp[results,Tryz.results15,go_sem, *]) rfl ?_
  exact .mk1 (by rw[HV.out];rfl) frc
 rw[hp] at HK
 cases hk:hasK p k
 ·have HV:Hid (getS p k s m=(zd8,2)):=by
   refine hno ?_
   unfold zdS
   rw[zdT (zg9 hk)]
   cases namB m<;>rfl
  rw[hk] at HL
  clear hp hk hno
  generalize getS p k s m=V at *
  unfold getV lfV
  clear h hkw hhk
  go_enter Tryz.func15,Tryz.ntmps15
  go_wp2_with (first
   | (go_at_call 28;refine(HK _ frc).mono ?_;rintro e w1 ⟨rfl,hf1⟩;have C0:=B0.keep hf1;have C1:=B1.keep hf1;have b0:=C0.c1;have l0:=C0.lt;have ⟨z0,z1,z2,z3,z4⟩:=C1.c5;have zf:=(fun j=>C1.frozen j);have zl:=C1.lt)
   | (go_at_call 29;refine(HL _).mono ?_;rintro e w2 ⟨rfl,rfl⟩)
   | (go_at_call_of 30 (Value.string s);refine(HN _).mono ?_;rintro e w2 ⟨rfl,rfl⟩)
   | (go_at_call_of 30 (Value.string m);refine(HM _).mono ?_;rintro e w2 ⟨rfl,rfl⟩))
  refine bodyPost_ret (v:=.tuple #[.agg #[.int .i64 0,.string ⟨#[]⟩,.int .i64 0,.int .i64 0,.string ⟨#[]⟩],.int .i64 2]) (by simp[results,Tryz.results15,go_sem, *]) rfl ?_
  exact .mk1 (by rw[HV.out];rfl) frc
 rw[hk] at HL
 cases hns:namB s
 ·have HV:Hid (getS p k s m=(zd8,2)):=by
   refine hno ?_
   unfold zdS
   rw[zdT (zg8 hp hns)]
   cases namB m<;>rfl
  rw[hns] at HN
  clear hp hk hns hno
  generalize getS p k s m=V at *
  unfold getV lfV
  clear h hkw hhk
  go_enter Tryz.func15,Tryz.ntmps15
  go_wp2_with (first
   | (go_at_call 28;refine(HK _ frc).mono ?_;rintro e w1 ⟨rfl,hf1⟩;have C0:=B0.keep hf1;have C1:=B1.keep hf1;have b0:=C0.c1;have l0:=C0.lt;have ⟨z0,z1,z2,z3,z4⟩:=C1.c5;have zf:=(fun j=>C1.frozen j);have zl:=C1.lt)
   | (go_at_call 29;refine(HL _).mono ?_;rintro e w2 ⟨rfl,rfl⟩)
   | (go_at_call_of 30 (Value.string s);refine(HN _).mono ?_;rintro e w2 ⟨rfl,rfl⟩)
   | (go_at_call_of 30 (Value.string m);refine(HM _).mono ?_;rintro e w2 ⟨rfl,rfl⟩))
  refine bodyPost_ret (v:=.tuple #[.agg #[.int .i64 0,.string ⟨#[]⟩,.int .i64 0,.int .i64 0,.string ⟨#[]⟩],.int .i64 2]) (by simp[results,Tryz.results15,go_sem, *]) rfl ?_
  exact .mk1 (by rw[HV.out];rfl) frc
 rw[hns] at HN
 cases hnm:namB m
 ·have HV:Hid (getS p k s m=(zd8,2)):=by
   refine hno ?_
   unfold zdS
   rw[hnm]
   rfl
  rw[hnm] at HM
  clear hp hk hns hnm hno
  generalize getS p k s m=V at *
  unfold getV lfV
  clear h hkw hhk
  go_enter Tryz.func15,Tryz.ntmps15
  go_wp2_with (first
   | (go_at_call 28;refine(HK _ frc).mono ?_;rintro e w1 ⟨rfl,hf1⟩;have C0:=B0.keep hf1;have C1:=B1.keep hf1;have b0:=C0.c1;have l0:=C0.lt;have ⟨z0,z1,z2,z3,z4⟩:=C1.c5;have zf:=(fun j=>C1.frozen j);have zl:=C1.lt)
   | (go_at_call 29;refine(HL _).mono ?_;rintro e w2 ⟨rfl,rfl⟩)
   | (go_at_call_of 30 (Value.string s);refine(HN _).mono ?_;rintro e w2 ⟨rfl,rfl⟩)
   | (go_at_call_of 30 (Value.string m);refine(HM _).mono ?_;rintro e w2 ⟨rfl,rfl⟩))
  refine bodyPost_ret (v:=.tuple #[.agg #[.int .i64 0,.string ⟨#[]⟩,.int .i64 0,.int .i64 0,.string ⟨#[]⟩],.int .i64 2]) (by simp[results,Tryz.results15,go_sem, *]) rfl ?_
  exact .mk1 (by rw[HV.out];rfl) frc
 rw[hnm] at HM
 ·have hV:getS p k s m=getG p k m (zdR p k s):=by
   unfold getS getB zdS
   rw[hp,if_pos rfl,hnm,if_pos rfl]
  unfold hasK at hk
  rw[lz5,decide_eq_true_eq,decide_eq_true_eq] at hk
  obtain⟨k,rfl⟩:=Int.eq_ofNat_of_zero_le hk.1
  have HF:=fun W (hW:Fr No w W)=>zlE X p _ k s m W hp (hkw W hW) (by omega) hs hm
  rw[<-hV] at HF
  clear hV h hkw hhk hp hk hns hnm hno
  generalize getS p k s m=V at *
  obtain⟨⟨⟨uk,un⟩,ui,⟨ud,us⟩⟩,uc⟩:=V
  unfold getV lfV at HF ⊢
  dsimp only at HF ⊢
  go_enter Tryz.func15,Tryz.ntmps15
  go_wp2_with (first
   | (go_at_call 28;refine(HK _ frc).mono ?_;rintro e w1 ⟨rfl,hf1⟩;have C0:=B0.keep hf1;have C1:=B1.keep hf1;have b0:=C0.c1;have l0:=C0.lt;have l1:=C1.lt)
   | (go_at_call 29;refine(HL _).mono ?_;rintro e w2 ⟨rfl,rfl⟩)
   | (go_at_call_of 30 (Value.string s);refine(HN _).mono ?_;rintro e w2 ⟨rfl,rfl⟩)
   | (go_at_call_of 30 (Value.string m);refine(HM _).mono ?_;rintro e w2 ⟨rfl,rfl⟩)
   | (go_at_call 38;refine(HF _ frc).mono ?_;rintro e w2 ⟨rfl,hf2⟩;have D1:=C1.keep hf2;have ⟨z0,z1,z2,z3,z4⟩:=D1.c5;have zf:=(fun j=>D1.frozen j);have zl:=D1.lt))
  refine bodyPost_ret (v:=.tuple #[.agg #[.int .i64 uk,.string un,.int .i64 ui,.int .i64 ud,.string us],.int .i64 uc]) (by simp[results,Tryz.results15,go_sem, *]) rfl ?_
  exact .mk1 rfl frc
theorem zvA:zzz9.toList=[122,122,122]:=by unfold zzz9;simp[go_sem]
def clP9 (X:Nat->Prop) (cl:Cls):Value->World->Prop:=fun v W=>∃Af cf Am cm,v=.agg #[.string cl.name,.string cl.super,.slice Af cl.fields.length cf,.slice Am cl.methods.length cm]∧ClsC X W [.string cl.name,.string cl.super,.slice Af cl.fields.length cf,.slice Am cl.methods.length cm] cl
theorem zvB (X:Nat->Prop) (cl:Cls):MonP (clP9 X cl):=fun _ _ _ ⟨Af,cf,Am,cm,h1,h2⟩ hf=>⟨Af,cf,Am,cm,h1,h2.keep hf zN⟩
theorem zvC (v:Value) (bs:List Int) (w:World) (h:Sl No w 1 BytC v bs) (hg:ErrT w):
  Calls Tryz.prog 5 #[v] w (zgm true w):=by
 have HD:=fun W (hW:Fr No w W)=>zvq v bs W (h.keep (R':=BytC) hW zN (fun _ _ _ h=>h))
 obtain⟨Ab,cb,rfl,_,_⟩:=h.form
 clear h
 by_cases hlen:(bs.length:Int) > 1048576
 ·go_enter Tryz.func5,Tryz.ntmps5
  go_wp2
  go_ret
  exact .mk rfl frc
 go_enter Tryz.func5,Tryz.ntmps5
 go_wp2_with (go_at_call 13;refine(HD _ (by exact frc)).mono ?_;rintro e w1 ⟨vp,ks,k,s,m,rfl,hsz,hmz,hS,hf1⟩;refine Hid.out ?_)
 refine Lib.hid ?_
 obtain⟨Ap,cp,rfl,hcp,hcm⟩:=hS.form
 have hS1:Sl No w1 2 (KprC No w1) (.slice Ap ks.length cp) (⟨ks⟩:Plan).keepers:=hS.weaken zN (fun _ _ _ h=>h.weaken zN)
 obtain⟨p,hp⟩:∃p:Plan,p=⟨ks⟩:=⟨_,rfl⟩
 rw[<-hp] at hS1
 have hpl:p.keepers.length=ks.length:=by rw[hp]
 replace hp:=Lib.hid hp
 replace hpl:=Lib.hid hpl
 have hsM:s.size≤maxLen:=by unfold maxLen;omega
 have hzM:zzz9.size≤maxLen:=by unfold maxLen;decide
 obtain⟨w2,hw2⟩:∃w2,w2=w1.alloc (.cells #[.slice Ap ks.length cp] 25):=⟨_,rfl⟩
 have hf12:Fr No w1 w2:=hw2▸frc
 have B3:Bx w2 w1.heap.size 25 #[.slice Ap ks.length cp]:=hw2▸bxc
 have hS2:=hS1.keep (R':=KprC No w2) hf12 zN (fun _ _ _ h=>h.keep hf12 zN)
 have hw12:=hf1.trans0 hf12
 have hg2:=hw12.keep0 hg
 clear hf1 hS hS1 HD hf12 hg
 have HK:=fun W (hW:Fr No w2 W)=>hS2.keep (R':=KprC No W) hW zN (fun _ _ _ h=>h.keep hW zN)
 have HG:=fun W (hW:Fr No w2 W)=>zvy p (.slice Ap ks.length cp) k s zzz9 W (HK W hW) hsM hzM (hW.keep0 hg2)
 have HI:=fun W (hW:Fr No w2 W)=>zu5 p (.slice Ap ks.length cp) k s zzz9 W (HK W hW) hsM hzM (hW.keep0 hg2)
 have HS:=fun W (hW:Fr No w2 W)=>zvz No p (.slice Ap ks.length cp) k s zzz9 W (HK W hW) hsM hzM
 have HF:=fun W (hW:Fr No w2 W)=>zu9 p (.slice Ap ks.length cp) k s W (HK W hW) hsM
 obtain⟨G,hG⟩:∃G,G=getS p k s zzz9:=⟨_,rfl⟩
 obtain⟨V,hV⟩:∃V,V=zu3 p k s zzz9:=⟨_,rfl⟩
 rw[<-hG] at HG HS
 rw[<-hV] at HI
 obtain⟨⟨⟨gk,gn⟩,ga,⟨gd,gs⟩⟩,gc⟩:=G
 obtain⟨⟨⟨uk,un⟩,ui⟩,uc⟩:=V
 unfold zd5 at HI
 unfold getV lfV at HG HS
 unfold refV at HF
 dsimp only at HI HG HS
 replace hV:=Lib.hid hV
 replace hG:=Lib.hid hG
 have hzz:(Value.string zzz9)=.string ⟨#[122,122,122]⟩:=rfl
 rw[hzz] at HI HG HS
 clear hzz
 have hcc:(gc != gc)=false:=by simp
 have p30:=B3.c1
 have p3l:=B3.lt
 go_wp2_with (go_at_call 14;rw[<-hw2];refine(HG _ (Fr.refl _ _)).mono ?_;rintro e w3 ⟨rfl,hf3⟩;refine Hid.out ?_)
 refine Lib.hid ?_
 replace hw2:=Lib.hid hw2
 have p30:=(B3.keep hf3).c1
 have p3l:=(B3.keep hf3).lt
 obtain⟨w4,hw4⟩:∃w4,w4=w3.alloc (.cells #[.int .i64 gk,.string gn,.int .i64 ga,.int .i64 gd,.string gs] 53):=⟨_,rfl⟩
 have q4:Fr No w2 w4:=hf3.trans0 (hw4▸frc)
 have HI:=HI w4 q4
 clear hf3
 go_wp2_with (go_at_call 7;rw[<-hw4];refine HI.mono ?_;rintro e w5 ⟨rfl,hf5⟩;refine Hid.out ?_)
 refine Lib.hid ?_
 replace hw4:=Lib.hid hw4
 have q5:=q4.trans0 hf5
 have p30:=(B3.keep q5).c1
 have p3l:=(B3.keep q5).lt
 obtain⟨w6,hw6⟩:∃w6,w6=w5.alloc (.cells #[.int .i64 uk,.string un,.int .i64 ui] 31):=⟨_,rfl⟩
 have q6:Fr No w2 w6:=q5.trans0 (hw6▸frc)
 have HS:=HS w6 q6
 clear hf5 q4 q5 HI
 go_wp2_with (go_at_call 15;rw[<-hw6];refine HS.mono ?_;rintro e w7 ⟨rfl,hf7⟩;refine Hid.out ?_)
 refine Lib.hid ?_
 replace hw6:=Lib.hid hw6
 have q7:=q6.trans0 hf7
 have p30:=(B3.keep q7).c1
 have p3l:=(B3.keep q7).lt
 obtain⟨w8,hw8⟩:∃w8,w8=w7.alloc (.cells #[.int .i64 gk,.string gn,.int .i64 ga,.int .i64 gd,.string gs] 53):=⟨_,rfl⟩
 have q8:Fr No w2 w8:=q7.trans0 (hw8▸frc)
 have HF:=HF w8 q8
 clear HG hf7 q6 q7 HS
 go_wp2_with (go_at_call 9;rw[<-hw8];refine HF.mono ?_;rintro e w9 ⟨rfl,hf9⟩;refine Hid.out ?_)
 refine Lib.hid ?_
 replace hw8:=Lib.hid hw8
 have q9:=q8.trans0 hf9
 have p30:=(B3.keep q9).c1
 have p3l:=(B3.keep q9).lt
 have hw9:=hw12.trans0 q9
 clear HF hf9 q8
 by_cases hfc:(zu8 p k s).2=1
 ·obtain⟨hlp,kc,ic,hff,hh,hrest⟩:=zvx hfc
  obtain⟨hno,hyes⟩:=hrest zzz9 (by decide +kernel)
  rw[<-hG.out,<-hV.out] at hno hyes
  dsimp only at hno hyes
  rw[hff]
  dsimp only
  have hkcl:kc<4:=by have:=zbM hlp;have:=hh.2.1;omega
  obtain⟨w10,hw10⟩:∃w10,w10=w9.alloc (.cells #[.int .i64 kc,.string s] 29):=⟨_,rfl⟩
  have hf10:Fr No w9 w10:=hw10▸frc
  have q10:=q9.trans0 hf10
  have B13:Bx w10 w9.heap.size 29 #[.int .i64 kc,.string s]:=hw10▸bxc
  have hw10':=hw9.trans0 hf10
  have HLa:=zvr p (.slice Ap ks.length cp) ⟨kc,s⟩ w10 (HK _ q10) hsM (zdW hkcl) hlp
  have HCh:=fun W (hW:Fr No w2 W)=>zvs p (.slice Ap ks.length cp) ⟨kc,s⟩ W (HK W hW) hsM hlp
  have hall:=zhj hlp ⟨kc,s⟩
  have hcl6:=zhk hlp ⟨kc,s⟩
  dsimp only at HLa HCh
  generalize canB p ⟨kc,s⟩=cb at *
  generalize zmF p ⟨kc,s⟩=xs at *
  clear hfc hrest hff hG hV hh hkcl hg2 hw9 hw12 hf10 hp hpl hcp hsz hmz hS2
  cases cb
  ·obtain⟨e1,e2⟩:=hno rfl
   subst e1 e2
   clear HCh hyes hno HK B13 q9 q10 hall hcl6 B3
   go_wp2_with (go_at_call 19;rw[<-hw10];refine HLa.mono ?_;rintro e w11 ⟨rfl,hf11⟩;have hwF:=hw10'.trans0 hf11)
   go_ret
   exact .mk rfl hwF
  ·clear hno
   replace hyes:=Lib.hid (hyes rfl)
   go_wp2_with (go_at_call 19;rw[<-hw10];refine HLa.mono ?_;rintro e w11 ⟨rfl,hf11⟩;refine Hid.out ?_)
   refine Lib.hid ?_
   replace hw10:=Lib.hid hw10
   have q11:=q10.trans0 hf11
   have B1311:=B13.keep hf11
   obtain⟨y0,y1⟩:=B1311.c2
   have yl:=B1311.lt
   have p30:=(B3.keep q11).c1
   have p3l:=(B3.keep q11).lt
   have hw11:=hw10'.trans0 hf11
   have HCh:=HCh w11 q11
   clear HLa hf11 B13 B1311 q9 q10
   go_wp2_with (go_at_call 20;refine HCh.mono ?_;rintro e w12 ⟨v12,rfl,hch,hf12⟩;refine Hid.out ?_)
   refine Lib.hid ?_
   obtain⟨Ac,cc9,rfl,_,hcx⟩:=hch.form
   have q12:=q11.trans0 hf12
   have hw13:=hw11.trans0 hf12
   clear HCh q11 hf12 y0 y1 yl p30 p3l hw11
   go_wp2_with fail
   go_loopw [16] (fun i wr=>∃j:Nat,j≤xs.length∧i=.int .i64 j∧Hid (Fr No w12 wr)∧Hid (zvt p zzz9 (xs.take j))) (fun i _=>xs.length-(intOf i).toNat)
   case atStart=>exact⟨0,Nat.zero_le _,rfl,Lib.hid (Fr.refl _ _),Lib.hid (by simp[zvt])⟩
   case round=>
    obtain⟨j,hj,rfl,hI,hN⟩:=hrel
    have f:=hI.out
    by_cases hlt:j<xs.length
    ·have hlt9:(j:Int)<(xs.length:Int):=by omega
     obtain⟨rg,og,rfl,_,g0,g1,gz⟩:=(hch.k0 f).ref hlt
     obtain⟨hrz,k0,i0,hh0⟩:=hall _ (List.getElem_mem hlt)
     have hNs:=Lib.hid (fun h9:(∀f∈(zbG p xs[j]).fields,(f.name.toList == zzz9.toList)=false)∧∀x∈(zbG p xs[j]).methods,(x.name.toList == zzz9.toList)=false=>(show zvt p zzz9 (xs.take (j+1)) from by
      rw[List.take_add_one,lz8 hlt]
      intro r hr
      simp only[Option.toList_some,List.mem_append,List.mem_singleton] at hr
      rcases hr with hr|rfl
      ·exact hN.out r hr
      ·exact h9))
     replace hN:=Lib.hid hN
     generalize xs[j]=r at *
     obtain⟨rk,rn⟩:=r
     obtain rfl:rk=(k0:Int):=hh0.1
     obtain⟨XN,hXN⟩:∃XN:Nat->Prop,XN=fun b=>No b∨wr.heap.size≤b:=⟨_,rfl⟩
     have hSX:Sl XN wr 2 (KprC XN wr) (.slice Ap ks.length cp) p.keepers:=by rw[hXN];exact(HK wr (q12.trans0 f)).oldX (by omega) (fun _ _ _ h=>h.oldX)
     have hXb:∀b,wr.heap.size≤b->XN b:=by rw[hXN];exact fun _ h=>.inr h
     replace hXN:=Lib.hid hXN
     have HLo:=fun W (hW:Fr No wr W)=>zvc XN p (.slice Ap ks.length cp) rn k0 i0 W (hSX.keep (R':=KprC XN W) hW zN (fun _ _ _ h=>h.keep hW zN)) hh0
     generalize zbG p ⟨(k0:Int),rn⟩=cl at *
     have K3:=(B3.keep (q12.trans0 f)).r1
     have KG:=fun W (hW:Fr No wr W)=>(⟨hW.keep0 g0,hW.keep0 g1⟩:_∧_)
     have gl:=lt_of_cell g0
     have hw14:=hw13.trans0 f
     have hadd:IntKind.i64.wrap ((j:Int)+1)=((j+1:Nat):Int):=by rw[IntWalk.i64_in _ (by omega)];simp
     dsimp only at g0 g1 gz KG
     go_upto_region 18 with (fail)
     refine zn0 7 94 [mV (.agg #[.slice Ap ks.length cp]),mV (.slice (some ⟨rg,og,none⟩) xs.length cc9),mV (.int .i64 (j:Int)),mV (.pointer (some ⟨rg,og+j * 2,none⟩)),mV (.agg #[.int .i64 k0,.string rn]),mC (clP9 XN cl) (zvB _ _),mB 41 (#[.string ⟨#[]⟩,.string ⟨#[]⟩,.slice none 0 0,.slice none 0 0]) wr.heap.size] (by kernel_rfl) (by kernel_rfl) (by simp) ?_ ?_
     ·refine hc4 ?_ ?_ ?_ ?_ <| hopC ?_ <| hopC ?_ <| hopC ?_ <| hopZ
      all_goals (intro a' W hW hoff hdep;have hbs:=hW.size;have H3:=hoff 3 rfl;have H15:=hoff 15 rfl;have H16:=hoff 16 rfl;refine nE rfl ?_)
      ·exact gx0
      ·simp[execOp,Act.eval,H15,go_sem,zaa];exact fr1 rfl
      ·simp[execOp,Act.eval,H16,go_sem,zaa];exact fr1 rfl
      ·have D89:_=_:=hdep 1 89 rfl;have D90:_=_:=hdep 2 90 rfl;clear hoff hdep;simp[execOp,Act.eval,go_sem,zaa, *];exact fr1 rfl
      ·have D91:_=_:=hdep 3 91 rfl;clear hoff hdep;simp[execOp,Act.eval,go_sem,zaa, *];exact fr1 rfl
      ·have D88:_=_:=hdep 0 88 rfl;have D92:_=_:=hdep 4 92 rfl;simp[Act.eval,D88,D92,go_sem,zaa];exact(HLo W hW).mono (fun e w' h=>by obtain⟨Af,Am,cf,cm,h1,h2,h3⟩:=h;exact⟨_,h1,h3,Af,cf,Am,cm,rfl,h2⟩)
      ·simp[execOp,go_sem,zaa];exact⟨(Fr.refl _ _).alloc _,⟨_,rfl,Bx.new_ rfl,hbs⟩,Nat.le_refl _⟩
     intro vs WR hWR hv hne
     obtain⟨AfR5,cfR5,AmR5,cmR5,e5,hCR5⟩:=hv 5 (by omega)
     obtain⟨b6,e6,hb6,hl6⟩:=hv 6 (by omega)
     simp only[lz6,List.drop_zero,znP,znM,znK,znR,Nat.zero_add,Nat.reduceAdd,e5,e6]
     simp only[Act.put,lz0,lz1,lz2]
     clear e5 e6 hv
     obtain⟨vf,vm,er,z0,z1,hvf,hvm⟩:=hCR5
     cases er
     obtain⟨x0,x1,x2,x3⟩:=hb6.c4
     have xl:=hb6.lt
     have xf:=fun i=>hb6.frozen i
     obtain⟨wS,hwS⟩:∃wS,wS=(((WR.setCell ⟨b6,0,none⟩ (.string cl.name)).setCell ⟨b6,1,none⟩ (.string cl.super)).setCell ⟨b6,2,none⟩ (.slice AfR5 cl.fields.length cfR5)).setCell ⟨b6,3,none⟩ (.slice AmR5 cl.methods.length cmR5):=⟨_,rfl⟩
     have hfS:Fr (fun b=>b=b6) WR wS:=hwS▸(((Fr.put1 _ _ _ _).same (Fr.put1 _ _ _ _)).same (Fr.put1 _ _ _ _)).same (Fr.put1 _ _ _ _)
     have BS:Bx wS b6 41 #[.string cl.name,.string cl.super,.slice AfR5 cl.fields.length cfR5,.slice AmR5 cl.methods.length cmR5]:=hwS▸(((hb6.set_ 0 _).set_ 1 _).set_ 2 _).set_ 3 _
     have hXb6:∀b,b=b6->XN b:=fun b e=>hXb b (by omega)
     have hvfS:=hvf.keep (R':=FldC) hfS hXb6 (fun _ _ _ h=>h)
     have hvmS:=hvm.keep (R':=MthC XN wS) hfS hXb6 (fun _ _ _ h=>h.keep hfS hXb6)
     have f14:Fr No wr wS:=hWR.trans hfS (fun b hb e=>by omega)
     have hfl:=hvfS.form
     obtain⟨_,_,_,_,hfm⟩:=hvfS.form
     obtain⟨_,_,_,_,hmm⟩:=hvmS.form
     unfold maxLen at hfm hmm
     have hwS9:=hw14.trans0 f14
     have fS9:=f.trans0 f14
     clear hne K3 KG HLo hSX hvf hvm hfl hfS hb6 f
     go_upto_region 19 with (fail)
     rw[<-hwS]
     replace hwS:=Lib.hid hwS
     clear x0 x1 x2 x3 xl xf
     go_wp2_with fail
     go_loopw [18] (fun i wq=>∃a:Nat,a≤cl.fields.length∧i=.int .i64 a∧Hid (Fr No wS wq)∧Hid (∀(q:Nat) (h:q<cl.fields.length),q<a->(cl.fields[q].name.toList == zzz9.toList)=false)) (fun i _=>cl.fields.length-(intOf i).toNat)
     case atStart=>exact⟨0,Nat.zero_le _,rfl,Lib.hid (Fr.refl _ _),Lib.hid (fun q _ h=>by omega)⟩
     case round=>
      obtain⟨a,ha,rfl,hJ,hM⟩:=hrel
      have f9:=hJ.out
      obtain⟨x0,x1,x2,x3⟩:=(BS.keep f9).c4
      have xl:=(BS.keep f9).lt
      by_cases hal:a<cl.fields.length
      ·have hal9:(a:Int)<(cl.fields.length:Int):=by omega
       obtain⟨bg,og2,rfl,_,d0,_,_,_⟩:=(hvfS.k0 f9).fld hal
       have dl:=lt_of_cell d0
       have hadd2:IntKind.i64.wrap ((a:Int)+1)=((a+1:Nat):Int):=by rw[IntWalk.i64_in _ (by omega)];simp
       by_cases he:(cl.fields[a].name.toList == zzz9.toList)=true
       ·rw[zvA] at he
        have hwF:=hwS9.trans0 f9
        clear hM hJ hNs hyes hvfS hvmS BS HK hall hch
        generalize cl.fields[a]=y at *
        go_wp2_with fail
        go_ret
        exact .mk rfl hwF
       ·replace he:(cl.fields[a].name.toList == zzz9.toList)=false:=by simpa using he
        have hM':=Lib.hid (fun(q:Nat) (h:q<cl.fields.length) (hq:q<a+1)=>(show(cl.fields[q].name.toList == zzz9.toList)=false from by
         rcases Nat.lt_succ_iff_lt_or_eq.1 hq with h1|h1
         ·exact hM.out q h h1
         ·subst h1;exact he))
        rw[zvA] at he
        clear hyes hvfS hvmS HK hall hch hM
        generalize cl.fields[a]=y at *
        go_wp2_with fail
        exact⟨⟨a+1,by omega,by simp,Lib.hid f9,hM'⟩,by simp[intOf];omega⟩
      ·have hal9:¬(a:Int)<(cl.fields.length:Int):=by omega
       have hFs:=Lib.hid (fun f (hf:f∈cl.fields)=>(show(f.name.toList == zzz9.toList)=false from by
        obtain⟨q,hq,rfl⟩:=List.getElem_of_mem hf
        exact hM.out q hq (by omega)))
       have fT:=f14.trans0 f9
       have B5:=BS.keep f9
       have hvT:=hvmS.keep (R':=MthC XN _) f9 zN (fun _ _ _ h=>h.keep f9 zN)
       have fS10:=fS9.trans0 f9
       have hw10:=hwS9.trans0 f9
       obtain⟨x4,x5,x6,x7⟩:=B5.c4
       have x8:=B5.lt
       obtain⟨wT,rfl⟩:∃wT,wT=wr:=⟨_,rfl⟩
       clear x0 x1 x2 x3 xl BS hvfS hvmS f9 hJ hM fT fS9 hwS9 f14 hw14
       go_wp2_with fail
       clear x4 x5 x6 x7 x8
       go_loopw [19] (fun i wq=>∃a:Nat,a≤cl.methods.length∧i=.int .i64 a∧Hid (Fr No wT wq)∧Hid (∀(q:Nat) (h:q<cl.methods.length),q<a->(cl.methods[q].name.toList == zzz9.toList)=false)) (fun i _=>cl.methods.length-(intOf i).toNat)
       case atStart=>exact⟨0,Nat.zero_le _,rfl,Lib.hid (Fr.refl _ _),Lib.hid (fun q _ h=>by omega)⟩
       case round=>
        obtain⟨a2,ha2,rfl,hJ,hM⟩:=hrel
        have f9:=hJ.out
        obtain⟨x0,x1,x2,x3⟩:=(B5.keep f9).c4
        have xl:=(B5.keep f9).lt
        by_cases hal2:a2<cl.methods.length
        ·have hal92:(a2:Int)<(cl.methods.length:Int):=by omega
         obtain⟨bg,og2,_,_,_,_,_,_,rfl,_,d0,_⟩:=(hvT.keep (R':=MthC XN _) f9 zN (fun _ _ _ h=>h.keep f9 zN)).mth hal2
         have dl:=lt_of_cell d0
         have hadd2:IntKind.i64.wrap ((a2:Int)+1)=((a2+1:Nat):Int):=by rw[IntWalk.i64_in _ (by omega)];simp
         by_cases he:(cl.methods[a2].name.toList == zzz9.toList)=true
         ·rw[zvA] at he
          have hwF:=hw10.trans0 f9
          clear hM hJ hNs hyes hvT B5 HK hall hch hFs
          generalize cl.methods[a2]=y at *
          go_wp2_with fail
          go_ret
          exact .mk rfl hwF
         ·replace he:(cl.methods[a2].name.toList == zzz9.toList)=false:=by simpa using he
          have hM':=Lib.hid (fun(q:Nat) (h:q<cl.methods.length) (hq:q<a2+1)=>(show(cl.methods[q].name.toList == zzz9.toList)=false from by
           rcases Nat.lt_succ_iff_lt_or_eq.1 hq with h1|h1
           ·exact hM.out q h h1
           ·subst h1;exact he))
          rw[zvA] at he
          clear hyes hvT HK hall hch hM hFs
          generalize cl.methods[a2]=y at *
          go_wp2_with fail
          exact⟨⟨a2+1,by omega,by simp,Lib.hid f9,hM'⟩,by simp[intOf];omega⟩
        ·have hal92:¬(a2:Int)<(cl.methods.length:Int):=by omega
         have hMs:=Lib.hid (fun f (hf:f∈cl.methods)=>(show(f.name.toList == zzz9.toList)=false from by
          obtain⟨q,hq,rfl⟩:=List.getElem_of_mem hf
          exact hM.out q hq (by omega)))
         have fF:=fS10.trans0 f9
         clear hyes hvT HK hall hch hM B5 hJ f9
         go_wp2_with fail
         exact⟨⟨j+1,by omega,by simp,Lib.hid fF,Lib.hid (hNs.out ⟨hFs.out,hMs.out⟩)⟩,by simp[intOf];omega⟩
    ·have hlt9:¬(j:Int)<(xs.length:Int):=by omega
     have hje:j=xs.length:=by omega
     subst hje
     obtain⟨e1,e2⟩:=hyes.out (by have:=hN.out;rw[List.take_length] at this;exact this)
     subst e1 e2
     have hwF:=hw13.trans0 f
     clear HK hyes hall hch q12 hw13 hI hN f
     go_wp2_with fail
     go_ret
     exact .mk rfl hwF
 ·obtain⟨e1,e2⟩:=zvw (m:=zzz9) hfc
  rw[<-hG.out] at e1
  rw[<-hV.out] at e2
  dsimp only at e1 e2
  subst e1 e2
  have hne:((zu8 p k s).2 != 1)=true:=by simpa using hfc
  generalize zu8 p k s=q at *
  obtain⟨⟨qk,qn⟩,qc⟩:=q
  dsimp only at *
  clear hG hV hfc hp hpl hw2 hw4 hw6 hw8 HK hcp hcm hsz hmz hsM hzM q9 hS2 B3 hg2 hw12
  go_upto_if 62 with (fail)
  go_wp2_with fail
  go_ret
  exact .mk rfl (hw9.trans0 ((Fr.refl No w9).alloc _))
theorem ziE {α:Type}:∀(n:Nat) (p:Nat->α->Prop),(∀i,i<n->∃a,p i a)->∃l:List α,l.length=n∧∀i (hi:i<l.length),p i l[i]
 | 0,_,_=>⟨[],rfl,fun i hi=>absurd hi (by simp)⟩
 | n+1,p,h=>by
  obtain⟨a,ha⟩:=h 0 (by omega)
  obtain⟨l,hl,hp⟩:=ziE n (fun i=>p (i+1)) (fun i hi=>h (i+1) (by omega))
  refine⟨a :: l,by simp[hl],fun i hi=>?_⟩
  cases i with
  | zero=>exact ha
  | succ j=>exact hp j (by simpa using hi)
theorem ziF {α:Type} {R:List Value->α->Prop} {H:Type} {enc:TypeId×Value->H} {P:Program} {W:World} {sp:Nat->Bool} {held:Bool} {t e:TypeId} {sz:Nat} {v:Value} {fuel:Nat} {x:DataW H×List MemPlace}
  (ht:P.underlying t=some (.slice e)) (hc:P.cellsOf e=sz) (hpos:0<sz) (hR:∀fuel cs (y:DataW H×List MemPlace),DataW.trod enc P W 0 sp held fuel e cs=some y->∃a,R cs a)
  (h:DataW.trod enc P W 0 sp held fuel t [v]=some x):∃xs:List α,Sl No W sz R v xs:=by
 rcases DataW.trod_slice ht h with ⟨hv,_⟩ | ⟨a,len,cap,elems,rest,n,_,hv,_,_,hlc,hcm,hel,he,_,_⟩
 ·obtain rfl:=(List.cons.inj hv).1
  exact⟨[],Sl.nil _ _ _ _⟩
 ·obtain rfl:=(List.cons.inj hv).1
  rw[hc] at he
  obtain⟨xs,hxl,hxs⟩:=ziE (α:=α) len (fun i y=>∃cs,R cs y∧cs.length=sz∧∀j,j<sz->W.cell? ((a.add (i * sz)).add j)=cs[j]?) (fun i hi=>by
   have h1:=he i hi
   rw[lz8 (show i<elems.length by omega),Option.bind_eq_some_iff] at h1
   obtain⟨cs,h2,h3⟩:=h1
   obtain⟨y,hy⟩:=hR _ _ _ h3
   obtain⟨_,h4,h5⟩:=World.cells?_some h2
   exact⟨y,cs,hy,h4,h5⟩)
  refine⟨xs,some a,cap,by rw[hxl],by omega,by omega,fun h0=>?_⟩
  have hspot:a.spot=none:=by
   obtain⟨cs,_,hl,hcell⟩:=hxs 0 h0
   have h1:=hcell 0 hpos
   rw[lz8 (show 0<cs.length by omega)] at h1
   have h2:W.cell? a=some cs[0]:=by
    have e:(a.add (0 * sz)).add 0=a:=by simp[Addr.add]
    rwa [e] at h1
   unfold World.cell? at h2
   split at h2
   ·cases hs:a.spot
    ·rfl
    ·rw[hs] at h2;simp at h2
   ·cases h2
  obtain⟨b,off,spot⟩:=a
  dsimp only at hspot
  subst hspot
  refine⟨b,off,rfl,fun h=>h.elim,fun k hk=>?_⟩
  obtain⟨cs,hRc,hl,hcell⟩:=hxs k hk
  refine⟨cs,hRc,hl,fun j hj=>?_⟩
  rw[<-hcell j hj]
  congr 1
  unfold Addr.add
  split<;>split<;>simp_all [Nat.add_assoc]
section
variable {H:Type} {enc:TypeId×Value->H} {W:World} {sp:Nat->Bool} {held:Bool}
end
theorem zvi {H:Type} {enc:TypeId×Value->H} {W:World} {sp:Nat->Bool} {held:Bool} {fuel:Nat} {cs:List Value} {x:DataW H×List MemPlace} (h:DataW.trod enc Tryz.prog W 0 sp held fuel 5 cs=some x):∃k:Int,BytC cs k:=by
 have h9:=DataW.trod_int Tryz.underlying5 h
 obtain⟨n,e0,e1,e2⟩:=h9
 refine⟨n,e0,?_⟩
 simp[Lit.wf] at e2
 have h1:IntKind.u8.min=0:=by decide
 have h2:IntKind.u8.max=255:=by decide
 omega
theorem own:ownKnob Tryz.prog.godebug=none:=by kernel_rfl
theorem laidOut:laidOutB Tryz.prog=true:=by kernel_rfl
theorem zvj:Tryz.prog.globalNamed "errors.errorType"=some 0:=by kernel_rfl
theorem zvk:(Tryz.prog.cutTypes.find? (·.1 == "internal/reflectlite.rtype")).map (·.2)=some 187:=by kernel_rfl
theorem zvl:((List.range 274).filter fun t=>Tryz.prog.rowNamed t [101,114,114,111,114])=[75]:=by kernel_rfl
theorem zvm:Tryz.prog.types.size=274:=by kernel_rfl
theorem zvn {W:World} (h:laidMetH Tryz.prog Rows.fnLnkNoneRow.laid W):ErrT W:=by
 have h':laidMet Tryz.prog [] W∧handlesMet Tryz.prog Rows.fnLnkNoneRow.laid W:=h
 obtain⟨name,u,ty,e1,e2,e3,e4,e5⟩:=h'.2 _ (List.mem_singleton.2 rfl)
 have en:name=[101,114,114,111,114]:=(Option.some.inj e1).symm
 subst en
 obtain rfl:=Option.some.inj (zvk.symm.trans e2)
 have hm:ty∈(List.range 274).filter fun t=>Tryz.prog.rowNamed t [101,114,114,111,114]:=List.mem_filter.2 ⟨List.mem_range.2 (by rw[<-zvm];exact e3),e4⟩
 rw[zvl] at hm
 obtain rfl:=List.mem_singleton.1 hm
 have hh:typeHandle Tryz.prog 75=.pointer (some ⟨1,75,none⟩):=by kernel_rfl
 rw[hh] at e5
 have h9:=World.var?_cell zvj e5 0
 unfold ErrT
 simpa using h9
noncomputable def laidWorld (os:Os):World:=
 let w0:=World.holding Tryz.prog os ⟨#[],#[],[]⟩
 { w0 with heap:=w0.heap.modify 0 fun
   | .cells _ t frozen=>.cells #[.iface 187 (.agg #[.pointer (some ⟨1,75,none⟩)])] t frozen
   | o=>o }
theorem zvo (os:Os) (args:Array Value):laidMetH Tryz.prog Rows.fnLnkNoneRow.laid ((laidWorld os).forCall (fun _ _=>0) ⟨#[],args,[]⟩).memory:=
 laidMetH_of_parts (laidMet_nil _ _) (by kernel_rfl)
section
variable {H:Type} {enc:TypeId×Value->H} {P:Program}
theorem zgp {f:Func} {s:ChangeSpec} {apart fresh handsOn again:Bool} {W W':World} {args:Array Value} {v:Value} {ds gs:List (DataW H)} {before pa pv:List MemPlace}
  (hW:DataW.Whole enc P f.params.toList s.vars apart W args.toList ds gs before)
  (hres:∀(b:Nat) (sp:Nat->Bool) (hd:Bool),DataW.TrodAll enc P W' b sp hd f.resultTypes.toList (v.resultList f.resultTypes.size) (s.fn H (ds ++ gs)).results [])
  (hargs:∀sp:Nat->Bool,(∀p∈before,sp p.block=true)->DataW.TrodAll enc P W' 0 sp true f.params.toList args.toList (s.fn H (ds ++ gs)).args pa)
  (hvars:∀sp:Nat->Bool,(∀p∈before,sp p.block=true)->DataW.TrodVars enc P W' sp s.vars (s.fn H (ds ++ gs)).vars pv)
  (hps:before=pa ++ pv) (hb:Below W.heap.size W W')
  (hok:∀(j:Nat) (t:TypeId) (r:Value),f.resultTypes[j]? =some t->(v.resultList f.resultTypes.size)[j]? =some r->Value.okWide P W' .any 0 t r):
  s.post enc P f apart fresh handsOn again W args v W':=by
 have hlt:∀p∈before,p.block<W.heap.size:=fun p hp=>hW.lt p hp
 have hold:∀p∈before,(fun b=>decide (b<W.heap.size)) p.block=true:=fun p hp=>by simpa using hlt p hp
 refine⟨ds,gs,before,[],pa,pv,hW,hres _ _ _,hargs _ hold,hvars _ hold,World.keptBut_mono (fun p hp=>⟨hp,?_⟩) (hb.frame (·∈before)),fun _=>?_⟩
 ·rw[hps,List.mem_append] at hp
  exact Or.inr hp
 ·obtain⟨_,_,_,_,_,hz,hn⟩:=hW
  refine⟨hok,_,_,([] ++ pa) ++ pv,⟨[] ++ pa,pv,trodAll_append (hargs _ (fun _ _=>rfl)) (hres _ _ _),hvars _ (fun _ _=>rfl),rfl,?_,?_⟩,?_⟩
  ·intro b off hp
   have hin:MemPlace.cell b off∈before:=by rw[hps];simpa using hp
   rw[hb.frozen (hlt _ hin)]
   exact hz b off hin
  ·intro ha
   have:=hn ha
   rw[hps] at this
   simpa using this
  ·intro p hp _
   rw[hps]
   simpa using hp
end
theorem lifted (os:Os) (started:os.Started) (H:Type) (enc:TypeId×Value->H):
  ReturnsInHanded {} Tryz.checked os 5 .any (fun w args=>(Rows.fnLnkNoneSpec.pre enc Tryz.prog Tryz.f5 [] false w args∧laidMetH Tryz.prog Rows.fnLnkNoneRow.laid w)∧sizedMet enc Tryz.prog Tryz.f5 (OpenSpec.ofChange Rows.fnLnkNoneSpec) false w args)
   (Rows.fnLnkNoneSpec.post enc Tryz.prog Tryz.f5 false true false false):=by
 refine returnsInHanded_of_change_and (C:=Tryz.checked) (X:=fun w _=>laidMetH Tryz.prog Rows.fnLnkNoneRow.laid w) (fun _ _ _ hh h=>h.of_heap hh) own started (by kernel_rfl) Tryz.func5
  (ChangeSpec.witness_at (enc:=enc) (C:=Tryz.checked) (os:=os) (X:=fun w _=>laidMetH Tryz.prog Rows.fnLnkNoneRow.laid w) false (laidWorld os) #[.slice none 0 0] 8 rfl (by kernel_rfl) (by kernel_rfl) (by kernel_rfl) (by kernel_rfl) (by kernel_rfl) (zvo os _)) ?_
 intro W base args ds gs before hval0 hW _ _ hL _
 have hg:ErrT W:=zvn hL
 have hval:∀(j:Nat) t v,Tryz.f5.params[j]? =some t->args[j]? =some v->Value.okWide Tryz.prog W .any base t v:=hval0
 have hW':=hW
 obtain⟨p,q,hA0,hV,rfl,hfz,hnd⟩:=hW
 have hA:DataW.TrodAll enc Tryz.prog W 0 (fun _=>true) true Tryz.f5.params.toList args.toList ds p:=hA0
 rw[Tryz.params5] at hA hval
 obtain⟨v0,d0,rfl,rfl,h0⟩:=trodAll_one hA
 obtain⟨rfl,rfl⟩:=trodVars_none hV
 obtain⟨a0,n0,c0,rfl⟩:=okWide_slice Tryz.underlying22 (hval 0 _ v0 rfl rfl)
 have g0:=h0
 obtain⟨fuel0,hf0⟩:=h0
 obtain⟨bs,hbs⟩:=ziF (R:=BytC) Tryz.underlying22 (show Tryz.prog.cellsOf 5=1 by kernel_rfl) (by decide) (fun _ _ _ h=>zvi h) hf0
 clear hA0 hval0
 have hlt:∀x∈p ++ [],x.block<W.heap.size:=fun x hx=>hW'.lt x hx
 refine(zvC _ bs W hbs hg).mono fun e W' ⟨he,hw⟩=>?_
 subst he
 exact⟨_,rfl,zgp (pa:=p) (pv:=[]) hW' (fun _ _ _=>trodAll_mk1 (shut_bool Tryz.underlying4 true))
  (fun sp hsp=>trodAll_mk1
   (WideElems.Trod_stays laidOut (by kernel_rfl) (of_decide_eq_true (by kernel_rfl)) g0 (fun x hx=>hw.below.same (hlt x (by simp[hx]))) (fun x hx=>hsp x (by simp[hx]))))
  (fun _ _=>rfl) (by simp) hw.below (ok_one (by kernel_rfl) rfl (okWide_bool_mk Tryz.underlying4 true))⟩
theorem row_holds:Rows.FnLnkNoneSaid:=
 OpenClaim.holds_of_wide 5 Tryz.f5 rfl rfl rfl rfl rfl rfl rfl ⟨rfl,rfl,rfl,rfl,rfl⟩ rfl rfl rfl rfl rfl (by kernel_rfl) Tryz.func5 (by kernel_rfl)
  (of_decide_eq_true (by kernel_rfl)) (by unfold Func.isWrapper;first|(rw[if_pos (by decide +kernel)];kernel_rfl)|(rw[if_neg (by decide +kernel)];exact⟨rfl,rfl⟩))
  (fun os started H enc _=>lifted os started H enc)
theorem lnkNone_holds:Rows.FnLnkNoneCardSaid:=
 Claim7.holds_tied_plain_at .later [] [.handle] true (true,"1ff69f33d7a93bdb1e19c48fd6e7faa106e908aadf6f0d4800c839e5f341ef69") true
  row_holds (fun _ h=>by cases h) (by kernel_rfl) (fun _ h=>by cases h) fnLnkNone_row_tie rfl ⟨rfl,rfl⟩ (by kernel_rfl) rfl
  (fun f fn hf hfn=>by
   obtain rfl:f=5:=Option.some.inj ((show Tryz.prog.funcNamed "loop.example/lodgekeeper/laws.FnLnkNone"=some 5 by kernel_rfl).symm.trans hf) |>.symm
   obtain rfl:fn=Tryz.f5:=(Option.some.inj (Tryz.func5.symm.trans hfn)).symm
   exact⟨by kernel_rfl,fun j t ht=>by
    rw[Tryz.params5] at ht
    have h3:t=22:=by
     rcases j with _|j
     ·simpa using ht.symm
     ·simp at ht
    subst h3
    exact(show Tryz.prog.wantsStandIn 22=false by kernel_rfl)⟩)
  (by kernel_rfl)
#print axioms lnkNone_holds
end Go.Proofs.YtbfmeklfpackjaaGreatDoor
