/- The program's get: the walk. -/
import Derived.Test.YtbfmeklfpackjaaGreatDoorQHPqcE
import Derived.Test.YtbfmeklfpackjaaGreatDoorQHPqc4
set_option maxHeartbeats 8000000
set_option maxRecDepth 100000
namespace Go.Proofs.YtbfmeklfpackjaaGreatDoor
open Go.RowKit
theorem zlm (l bl n:Nat) (p:Plan) (k:Int) (s m:Str) (w:World) (h:Lg w l bl n p) (hs:s.size≤maxLen) (hm:m.size≤maxLen) (hn:n<999999):
  Calls Tryz.prog 37 #[.pointer (some ⟨l,0,none⟩),.int .i64 k,.string s,.string m] w (zd9 (getB p k s m) p l bl n w):=by
 have hp:=h.ok
 have hlt:=h.lt
 have h0:=h
 have B0:Bx (w.alloc (.cells #[.int .i64 0,.string ⟨#[]⟩,.int .i64 0,.int .i64 0,.string ⟨#[]⟩] 53)) w.heap.size 53 #[.int .i64 0,.string ⟨#[]⟩,.int .i64 0,.int .i64 0,.string ⟨#[]⟩]:=bxc
 have HK:=fun W (hW:Fr No w W)=>zdX l bl n p k s m W (h.keep hW) hs hm (by omega)
 obtain⟨q,hq⟩:∃q,q=zdS p k s m:=⟨_,rfl⟩
 have hV:getB p k s m=getG p k m q:=by unfold getB;rw[hq]
 rw[<-hq] at HK
 generalize getB p k s m=V at *
 obtain⟨⟨rk,rn⟩,c⟩:=q
 unfold zdU at HK
 dsimp only at HK
 clear h
 by_cases hc:c=1
 ·subst hc
  obtain⟨kc,i,hr,hh⟩:=zd1 hp hq.symm
  have hcan:=zeg hp hq.symm
  obtain⟨rfl,rfl⟩:=Ref.mk.inj hr
  have h3:=zbM hp
  have hkl:=hh.2.1
  have wk:=zdW (show kc<4 by omega)
  have HP:=fun W (hW:Lg W l bl (n+1) p)=>zkl l bl (n+1) p ⟨(kc:Int),rn⟩ W hW hs wk (by omega)
  unfold zkk at HP
  have hLB:layB p ⟨(kc:Int),rn⟩=zjH 0 (zjB p (zmF p ⟨(kc:Int),rn⟩).reverse):=by unfold layB;rw[if_pos hcan];rfl
  rw[hLB] at HP
  unfold getG at hV
  dsimp only at hV
  rw[if_pos rfl] at hV
  have hall:=zhj hp ⟨(kc:Int),rn⟩
  have hnd:(zmF p ⟨(kc:Int),rn⟩).reverse.Nodup:=zed (zjA hp _)
  have hlen:=zhk hp ⟨(kc:Int),rn⟩
  have HFF:=fun(g:Int->Str->Option Int) (q:Ref) W (hW:zgF W l bl (n+2) p g) (hq:q.name.size≤maxLen)=>zkn l bl (n+2) p g q ⟨(kc:Int),rn⟩ W hW hs hq
  generalize zmF p ⟨(kc:Int),rn⟩=xs at *
  replace hV:=Lib.hid hV
  clear hq hr hh h3 hkl wk hLB hcan
  go_enter Tryz.func37,Tryz.ntmps37
  go_wp2_with (go_at_call 48;refine(HK _ frc).mono ?_;rintro e w1 ⟨ev,rfl,he,hf1,hL1⟩;obtain rfl:=he.nil;clear he)
  have hw1:Fr (fun b=>b=bl) w w1:=(show Fr No w (w.alloc (.cells #[.int .i64 0,.string ⟨#[]⟩,.int .i64 0,.int .i64 0,.string ⟨#[]⟩] 53)) from frc).of0.same hf1
  have B1:=B0.keepX hf1 (by omega)
  have l1:=B1.lt
  clear HK B0
  go_wp2_with fail
  refine zdP (fun W=>Bx W w.heap.size 53 #[.int .i64 0,.string ⟨#[]⟩,.int .i64 0,.int .i64 0,.string ⟨#[]⟩]∧Bx W w1.heap.size 29 #[.int .i64 kc,.string rn]∧Fr No w1 W) ⟨bxc,bxc,frc⟩ ?_
  rintro Wz ⟨hB,hR,hwz⟩
  have sB:=hB.lt
  have sR:=hR.lt
  refine(HP Wz (hL1.keep hwz)).mono ?_
  rintro e w2 ⟨v2,rfl,hrow,hf2,hL2⟩
  have hw2:Fr (fun b=>b=bl) w w2:=(hw1.trans0 hwz).same hf2
  have hB2:=hB.keepX hf2 (by omega)
  have hR2:=hR.keepX hf2 (by have:=hlt;have:=hw1.size;omega)
  obtain⟨g2,hLo2,hg2⟩:=hL2
  have hrs:zhb p xs.reverse:=fun x hx=>hall x (by simpa using hx)
  have hsl:=zdO hrow (zeh hp hrs 0)
  have hF18:=zjM hp hrs
  have hfa:=fun i (hi:i<(zjB p xs.reverse).length)=>zjG (p:=p) hnd i hi
  obtain⟨A2,c2,rfl,_,_⟩:=hsl.form
  have hll:=zjJ (zjB p xs.reverse) 0
  have hlg:∀i (hi:i<(zjB p xs.reverse).length) (h2:i<(zjH 0 (zjB p xs.reverse)).length),(zjH 0 (zjB p xs.reverse))[i]=⟨(zjB p xs.reverse)[i].1,((0+i:Nat):Int),(zjB p xs.reverse)[i].2.kind⟩:=fun i hi _=>zjK (zjB p xs.reverse) 0 i hi
  have hlh:∀x∈zjB p xs.reverse,∃kq iq:Nat,x.1.keeper=(kq:Int)∧Here p x.1 kq iq∧x.1.name.size≤maxLen:=fun x hx=>by
   obtain⟨h1,_⟩:=zjF hx
   obtain⟨h3,kq,iq,hh⟩:=hrs _ h1
   exact⟨kq,iq,hh.1,hh,h3⟩
  generalize zjH 0 (zjB p xs.reverse)=L at *
  generalize zjB p xs.reverse=F at *
  simp only[List.length_reverse] at hF18
  clear hrow hf1 hf2 hwz HP hB hR B1 hall hnd hrs hL1
  have hLm:L.length≤100:=by omega
  replace hlg:=Lib.hid hlg
  replace hfa:=Lib.hid hfa
  replace hlh:=Lib.hid hlh
  replace HFF:=Lib.hid HFF
  replace hll:=Lib.hid hll
  have hFm:F.length≤100:=by omega
  replace hF18:=Lib.hid hF18
  go_wp2_with fail
  go_loopw [31] (fun i wr=>∃j:Nat,j≤L.length∧i=.int .i64 j∧Hid (V=zjN p k m j (F.drop j))∧Fr No w2 wr) (fun i _=>L.length-(intOf i).toNat)
  case atStart=>exact⟨0,Nat.zero_le _,rfl,hV,Fr.refl _ _⟩
  case round=>
   clear hV
   obtain⟨j,hj,rfl,hd,hwr⟩:=hrel
   by_cases hlt2':j<L.length
   ·have hjl:=hlt2'
    have hlt2:j<F.length:=by have:=hll.out;omega
    obtain⟨b,off,rfl,_,c0,c1,c2,c3,c4,hsn,hsk⟩:=(hsl.keep (R':=zj4) hwr zN (fun _ _ _ h=>h)).lfld hjl
    rw[hlg.out j hlt2 hjl] at c0 c1 c2 c3 c4 hsn hsk
    rw[List.drop_eq_getElem_cons hlt2,zjN] at hd
    obtain⟨fa1,fa2,_⟩:=hfa.out j hlt2
    obtain⟨kq,iq,hqk,hhq,hqs⟩:=hlh.out _ (List.getElem_mem hlt2)
    have hd:=Lib.hid hd
    have cl:=lt_of_cell c0
    clear hsl hlg hfa hlh
    generalize F[j]=x at *
    obtain⟨⟨qk,qn⟩,f⟩:=x
    dsimp only at *
    subst hqk
    rw[Nat.zero_add] at c2
    generalize hfl:zjE p xs.reverse ⟨(kq:Int),qn⟩=fo at *
    have hB3:=hB2.keep hwr
    have hR3:=hR2.keep hwr
    obtain⟨r0,r1⟩:=hR3.c2
    have rl:=hR3.lt
    go_wp2_with fail
    refine zdP (fun W=>Bx W wr.heap.size 53 #[.int .i64 kq,.string qn,.int .i64 j,.int .i64 f.kind.kind,.string f.kind.name]∧Fr No wr W) ⟨bxc,frc⟩ ?_
    rintro W4 ⟨hF4,hf4⟩
    have hf4R:=hf4
    refine(HFF.out g2 ⟨kq,qn⟩ W4 (hLo2.keep (hwr.trans0 hf4)) hqs).mono ?_
    rintro e w5 ⟨rfl,hf5⟩
    have hf5R:=hf5
    rw[hfl]
    have hF5:=hF4.keep hf5
    have hw5:Fr No w2 w5:=(hwr.trans0 hf4).trans0 hf5
    obtain⟨Af,cf,Am,cm,hCR,HCl⟩:=zjq (hLo2.keep hw5) hhq hqs
    have hflds:Sl (fun b=>b=bl) w5 3 FldC (.slice Af (zbG p ⟨kq,qn⟩).fields.length cf) (zbG p ⟨kq,qn⟩).fields:=by obtain⟨_,_,he,_,_,h,_⟩:=hCR;cases he;exact h
    have hbi:=(List.getElem?_eq_some_iff.1 fa2)
    obtain⟨hbi1,hbi2⟩:=hbi
    obtain⟨bf,of,rfl,_,g0,_,_,hgn,_⟩:=hflds.fld hbi1
    rw[hbi2] at g0 hgn
    have gl:=lt_of_cell g0
    have KG:=kp g0
    have KF:=hF5.r5
    have hsub:IntKind.i64.wrap ((j:Int)-(fo:Int))=((j-fo:Nat):Int):=(IntWalk.i64_in _ (by omega)).trans (by omega)
    have hfm:=zjL (Here.clsB hp hhq)
    have hd2:Hid (V=if f.name.toList == m.toList then (if zmJ p k kq f.kind then (⟨⟨kq,qn⟩,j,f.kind⟩,1) else (zd8,4)) else zjN p k m (j+1) (F.drop (j+1))):=hd.out.out
    clear hd c0 c1 c2 c3 c4 cl r0 r1 rl hF4 hf4 hf5 hCR hflds hbi2 fa2 g0
    clear hgn
    go_wp2_with fail
    refine zn0 13 53 [mV (.pointer (some ⟨l,0,none⟩)),mV (.pointer (some ⟨wr.heap.size,0,none⟩)),mV (.agg #[.int .i64 kq,.string qn]),mV (.agg #[.string (zbG p ⟨kq,qn⟩).name,.string (zbG p ⟨kq,qn⟩).super,.slice (some ⟨bf,of,none⟩) (zbG p ⟨kq,qn⟩).fields.length cf,.slice Am (zbG p ⟨kq,qn⟩).methods.length cm]),mV (.slice (some ⟨bf,of,none⟩) (zbG p ⟨kq,qn⟩).fields.length cf),mV (.pointer (some ⟨wr.heap.size,2,none⟩)),mV (.int .i64 j),mV (.int .i64 fo),mV (.int .i64 ((j-fo:Nat):Int)),mV (.pointer (some ⟨bf,of+(j-fo) * 3,none⟩)),mV (.pointer (some ⟨bf,of+(j-fo) * 3,none⟩)),mV (.string f.name),mV (.string m)] (by kernel_rfl) (by kernel_rfl) (by simp) ?_ ?_
    ·refine hc4 ?_ ?_ ?_ ?_ <| hc4 ?_ ?_ ?_ ?_ <| hc4 ?_ ?_ ?_ ?_ <| hopC ?_ <| hopZ
     all_goals (intro a' W hW hoff hdep;have hbs:=hW.size;have H0:=hoff 0 rfl;have H13:=hoff 13 rfl;have H14:=hoff 14 rfl;have H3:=hoff 3 rfl;refine nE rfl ?_)
     ·simp[execOp,Act.eval,H0,go_sem,zaa];exact fr1 rfl
     ·simp[execOp,Act.eval,H13,go_sem,zaa];exact fr1 rfl
     ·have D41:_=_:=hdep 1 41 rfl;clear hoff hdep;simp[execOp,Act.eval,go_sem,zaa, *];exact fr1 rfl
     ·have D40:_=_:=hdep 0 40 rfl;have D42:_=_:=hdep 2 42 rfl;simp[Act.eval,D40,D42,go_sem,zaa];exact(HCl _ hW).mono fun e w' h=>⟨_,h.1,h.2,rfl⟩
     ·have D43:_=_:=hdep 3 43 rfl;simp[execOp,Act.eval,D43,go_sem,zaa];exact fr1 rfl
     ·simp[execOp,Act.eval,H13,go_sem,zaa];exact fr1 rfl
     ·have D45:_=_:=hdep 5 45 rfl;clear hoff hdep;simp[execOp,Act.eval,go_sem,zaa, *];exact fr1 rfl
     ·simp[execOp,Act.eval,H14,go_sem,zaa];exact fr1 rfl
     ·have D46:_=_:=hdep 6 46 rfl;have D47:_=_:=hdep 7 47 rfl;simp[execOp,Act.eval,D46,D47,go_sem,zaa];exact⟨Fr.refl _ _,by show Value.int _ _=_;rw[hsub]⟩
     ·have D44:_=_:=hdep 4 44 rfl;have D48:_=_:=hdep 8 48 rfl;clear hoff hdep;simp[execOp,Act.eval,go_sem,zaa, *];exact fr1 rfl
     ·have D49:_=_:=hdep 9 49 rfl;simp[execOp,Act.eval,D49,go_sem,zaa];exact fr1 rfl
     ·have D50:_=_:=hdep 10 50 rfl;clear hoff hdep;simp[execOp,Act.eval,go_sem,zaa, *];exact fr1 rfl
     ·simp[execOp,Act.eval,H3,go_sem,zaa];exact fr1 rfl
    intro vs WR hWR hv hne
    simp only[lz6,List.drop_zero,znK,znR,Nat.zero_add,Nat.reduceAdd]
    simp only[Act.put,lz0,lz1,lz2]
    clear hv
    have hF6:=hF5.keep hWR
    have hB6:=hB3.keep ((hf4R.trans0 hf5R).trans0 hWR)
    have hw6:Fr No w2 WR:=hw5.trans0 hWR
    obtain⟨y0,y1,y2,y3,y4⟩:=hF6.c5
    have yl:=hF6.lt
    clear KG KF HCl hsub
    by_cases hnm:f.name.toList=m.toList
    ·have HA:=fun W (hW:Fr No WR W)=>zmK l bl (n+2) p g2 k kq f.kind W ((hLo2.keep hw6).keep hW) (by have:=hsk;exact this)
     have hd3:Hid (V=if zmJ p k kq f.kind then (⟨⟨kq,qn⟩,j,f.kind⟩,1) else (zd8,4)):=hd2.out.trans (by rw[if_pos (by simpa using hnm)])
     clear hd2
     generalize zmJ p k kq f.kind=ag at *
     replace hnm:=Lib.hid hnm
     have hnb:(f.name.toList == m.toList)=true:=by simpa using hnm.out
     cases ag
     ·go_wp2_with (go_at_call 36;refine(HA _ (Fr.refl _ _)).mono ?_;rintro e w7 ⟨rfl,hf7⟩;have hF7:=hF6.keep hf7;have hB7:=hB6.keep hf7;have ⟨z0,z1,z2,z3,z4⟩:=hB7.c5;have zf:=(fun j=>hB7.frozen j);have zl:=hB7.lt;have ⟨x0,x1,x2,x3,x4⟩:=hF7.c5;have xl:=hF7.lt;clear y0 y1 y2 y3 y4 yl)
      refine bodyPost_ret (v:=.tuple #[.agg #[.int .i64 0,.string ⟨#[]⟩,.int .i64 0,.int .i64 0,.string ⟨#[]⟩],.iface 108 (.pointer (some ⟨w7.heap.size,0,none⟩))]) (by simp[results,Tryz.results37,go_sem, *]) rfl ?_
      exact .mk (hd3.out.trans (if_neg Bool.false_ne_true)) rfl (.mk (by decide) bx5) (set5 ((hw2.trans0 hw6).trans0 hf7) (Nat.le_refl _)) (h0.over ⟨g2,hLo2.keep (hw6.trans0 hf7),hg2⟩ ((hw2.trans0 hw6).trans0 hf7) (zea (Fr.refl _ _) (Nat.le_refl _)))
     ·go_wp2_with (go_at_call 36;refine(HA _ (Fr.refl _ _)).mono ?_;rintro e w7 ⟨rfl,hf7⟩;have hF7:=hF6.keep hf7;have hB7:=hB6.keep hf7;have ⟨z0,z1,z2,z3,z4⟩:=hB7.c5;have zf:=(fun j=>hB7.frozen j);have zl:=hB7.lt;have ⟨x0,x1,x2,x3,x4⟩:=hF7.c5;have xl:=hF7.lt;clear y0 y1 y2 y3 y4 yl)
      refine bodyPost_ret (v:=.tuple #[.agg #[.int .i64 kq,.string qn,.int .i64 j,.int .i64 f.kind.kind,.string f.kind.name],.nilIface]) (by simp[results,Tryz.results37,go_sem, *]) rfl ?_
      exact .mk (hd3.out.trans (if_pos trivial)) rfl (.inl ⟨rfl,rfl⟩) (zeb ((hw2.trans0 hw6).trans0 hf7) (Nat.le_refl _)) (h0.over ⟨g2,hLo2.keep (hw6.trans0 hf7),hg2⟩ ((hw2.trans0 hw6).trans0 hf7) (zec (Fr.refl _ _) (Nat.le_refl _)))
    ·have hd3:Hid (V=zjN p k m (j+1) (F.drop (j+1))):=hd2.out.trans (by rw[if_neg (by simpa using hnm)])
     clear hd2
     have hnb:(f.name.toList == m.toList)=false:=by simpa using hnm
     have hnb2:(f.name.toList != m.toList)=true:=by simpa using hnm
     go_wp2
     go_roundw
     case rel=>exact⟨j+1,by omega,by go_num,hd3,hw6⟩
     case measure=>simp[intOf];omega
   ·have HS:Hid (V=(zd8,3)):=hd.out.trans (by rw[List.drop_of_length_le (by have:=hll.out;omega)];rfl)
    have hBr:=hB2.keep hwr
    obtain⟨z0,z1,z2,z3,z4⟩:=hBr.c5
    have zf:=fun j=>hBr.frozen j
    have zl:=hBr.lt
    clear hd hsl hB2 hR2 hfa hlg hlh HFF
    go_wp2
    refine bodyPost_ret (v:=.tuple #[.agg #[.int .i64 0,.string ⟨#[]⟩,.int .i64 0,.int .i64 0,.string ⟨#[]⟩],.iface 108 (.pointer (some ⟨wr.heap.size,0,none⟩))]) (by simp[results,Tryz.results37,go_sem, *]) rfl ?_
    exact .mk HS.out rfl (.mk (by decide) bx5) (set5 (hw2.trans0 hwr) (Nat.le_refl _)) (h0.over ⟨g2,hLo2.keep hwr,hg2⟩ (hw2.trans0 hwr) (zea (Fr.refl _ _) (Nat.le_refl _)))
 ·unfold getG at hV
  dsimp only at hV
  rw[if_neg hc] at hV
  replace hV:=Lib.hid hV
  go_enter Tryz.func37,Tryz.ntmps37
  go_wp2_with (go_at_call 48;refine(HK _ frc).mono ?_;rintro e w1 ⟨ev,rfl,he,hf1,hL1⟩;obtain⟨eb,rfl,heb⟩:=he.some hc;clear he;have hw1:Fr (fun b=>b=bl) w w1:=(show Fr No w (w.alloc (.cells #[.int .i64 0,.string ⟨#[]⟩,.int .i64 0,.int .i64 0,.string ⟨#[]⟩] 53)) from frc).of0.same hf1;have B1:=B0.keepX hf1 (by omega);have ⟨z0,z1,z2,z3,z4⟩:=B1.c5;have zf:=(fun j=>B1.frozen j);have zl:=B1.lt)
  have hne:eb≠w.heap.size:=by
   intro h9
   rw[h9] at heb
   unfold Bx at heb B1
   rw[heb] at B1
   simp at B1
  clear HK B0
  refine bodyPost_ret (v:=.tuple #[.agg #[.int .i64 0,.string ⟨#[]⟩,.int .i64 0,.int .i64 0,.string ⟨#[]⟩],.iface 108 (.pointer (some ⟨eb,0,none⟩))]) (by simp[results,Tryz.results37,go_sem, *]) rfl ?_
  exact .mk hV.out rfl (.inr ⟨hc,eb,rfl,bxc⟩) frc ((h0.over hL1 hw1 frx).mono (by omega))
theorem zvy (p:Plan) (v:Value) (k:Int) (s m:Str) (w:World) (h:Sl No w 2 (KprC No w) v p.keepers) (hs:s.size≤maxLen) (hm:m.size≤maxLen) (hg:ErrT w):
  Calls Tryz.prog 14 #[.agg #[v],.int .i64 k,.string s,.string m] w (Gives (getV (getS p k s m)) w):=by
 obtain⟨A,cap,rfl,_,_⟩:=h.form
 obtain⟨wA,hwA⟩:∃wA,wA=((w.alloc (.cells #[.slice A p.keepers.length cap] 25)).alloc (.cells #[.int .i64 0,.string ⟨#[]⟩,.int .i64 0,.int .i64 0,.string ⟨#[]⟩] 53)):=⟨_,rfl⟩
 have hfA:Fr No w wA:=hwA▸frc
 have B0:Bx wA w.heap.size 25 #[.slice A p.keepers.length cap]:=hwA▸bxc
 have B2:Bx wA (w.heap.size+1) 53 #[.int .i64 0,.string ⟨#[]⟩,.int .i64 0,.int .i64 0,.string ⟨#[]⟩]:=hwA▸bxc
 have HN:=zgH p _ wA (h.keep hfA zN (fun _ _ _ h=>h.keep hfA zN))
 have hV:getS p k s m=if lodB p then getB p k s m else (zd8,2):=rfl
 have hsA:=hfA.size
 unfold zgG at HN
 generalize getS p k s m=V at *
 clear h
 cases hp:lodB p
 ·rw[hp] at HN hV
  simp only[Bool.false_eq_true,if_false] at hV
  subst hV
  have q0:=B0.c1
  have l0:=B0.lt
  go_enter Tryz.func14,Tryz.ntmps14
  go_wp2_with fail
  rw[<-hwA]
  replace hwA:=Lib.hid hwA
  refine HN.mono ?_
  rintro e w1 ⟨hf1,⟨_,rfl⟩ | ⟨hno,_⟩⟩
  ·obtain⟨y0,y1,y2,y3,y4⟩:=(B2.keep hf1).c5
   have yf:=fun j=>(B2.keep hf1).frozen j
   have yl:=(B2.keep hf1).lt
   clear q0 l0 HN
   go_wp2
   refine bodyPost_ret (v:=.tuple #[.agg #[.int .i64 0,.string ⟨#[]⟩,.int .i64 0,.int .i64 0,.string ⟨#[]⟩],.int .i64 2]) (by simp[results,Tryz.results14,go_sem, *]) rfl ?_
   exact .mk1 rfl frc
  ·cases hno
 ·rw[hp] at HN hV
  simp only[if_true] at hV
  have HP:=fun l bl W (hL:Lg W l bl 0 p)=>zlm l bl 0 p k s m W hL hs hm (by omega)
  rw[<-hV] at HP
  clear hV
  unfold zd9 lfV at HP
  obtain⟨⟨⟨uk,un⟩,ui,⟨ud,us⟩⟩,uc⟩:=V
  unfold getV
  unfold lfV
  dsimp only at HP ⊢
  have q0:=B0.c1
  have l0:=B0.lt
  go_enter Tryz.func14,Tryz.ntmps14
  go_wp2_with fail
  rw[<-hwA]
  replace hwA:=Lib.hid hwA
  refine HN.mono ?_
  rintro e w1 ⟨hf1,⟨hno,_⟩ | ⟨_,l,bl,rfl,hll,hbl,hLo⟩⟩
  ·cases hno
  ·have hLg:Lg w1 l bl 0 p:=⟨_,hLo,fun _ _ _ h=>by cases h⟩
   have hb2:=B2.keep hf1
   have hsz:=hfA.size
   have hl2:=B2.lt
   have hbl1:=hLg.lt
   clear q0 l0 HN hLo
   go_wp2_with fail
   refine(HP l bl w1 hLg).mono ?_
   rintro e w2 ⟨ev,rfl,he,hf2,hL2⟩
   have hB2:=hb2.keepX hf2 (by omega)
   have hw2:Fr No w w2:=(hfA.trans0 hf1).trans hf2 (fun b hb h=>absurd h (by omega))
   have hg2:ErrT w2:=hw2.keep0 hg
   have hlz:=hB2.lt
   clear hb2 hf1 hf2 HP hLg hL2
   go_wp2_with fail
   refine zaE (fun W=>Bx W (w.heap.size+1) 53 #[.int .i64 0,.string ⟨#[]⟩,.int .i64 0,.int .i64 0,.string ⟨#[]⟩]∧Bx W w2.heap.size 53 #[.int .i64 uk,.string un,.int .i64 ui,.int .i64 ud,.string us]∧Fr No w2 W) ⟨bxc,bxc,frc⟩ ?_
   rintro wB ⟨hB,hR,hwz⟩
   have HL:=fun W (hW:Fr No wB W)=>zu4 uc ev W ((he.keep hwz).keep hW) ((hwz.trans0 hW).keep0 hg2)
   have K0:=hR.r5
   clear he hB2 B0 B2
   refine zaC 3 [isV (.agg #[.int .i64 uk,.string un,.int .i64 ui,.int .i64 ud,.string us]),isV (ev),isV (.int .i64 uc)] [false,false,false] [false,false,false] ?_ (by kernel_rfl) (by kernel_rfl) ?_ ?_ ?_ ?_
   ·intro x hx hb v W h
    simp only[List.zip_cons_cons,List.zip_nil_left,List.mem_cons,List.not_mem_nil,or_false] at hx
    rcases hx with rfl|rfl|rfl<;>first|(cases hb;done)|exact zaB h
   ·intro o ho d hd;simp only[lz7,List.take_zero,List.mem_cons,List.not_mem_nil,or_false] at ho;rcases ho with rfl|rfl|rfl<;>(cases hd;simp)
   ·intro x hx
    simp only[List.mem_cons,List.not_mem_nil,or_false] at hx
    rcases hx with rfl|rfl|rfl
    ·exact zaz _
    ·exact zaz _
    ·exact zaz _
   ·intro k o ho a' W hW hoff hdep
    have hbs:=hW.size
    have H11:=hoff 11 (by simp)
    have H12:=hoff 12 (by simp)
    simp only[Act.eval] at H11 H12
    simp only[lz7,List.take_zero] at ho hdep
    rcases k with _|_|_|k
    all_goals (first|(simp at ho;done)|skip)
    all_goals simp only[lz3,lz4,Option.some.injEq] at ho
    all_goals subst ho
    ·refine⟨fun h=>absurd h (by decide),fun _=>?_⟩
     unfold zab
     simp[execOp,Act.eval,go_sem,zaa, *]
     exact⟨Fr.refl _ _,rfl⟩
    ·refine⟨fun h=>absurd h (by decide),fun _=>?_⟩
     unfold zab
     simp[execOp,Act.eval,H12,go_sem,zaa]
     exact⟨Fr.refl _ _,rfl⟩
    ·have D27:a'.eval (.tmp 27)=ev:=hdep ⟨1,.data⟩ (by simp) rfl _ 27 rfl rfl
     simp only[Act.eval] at D27
     refine⟨fun h=>absurd h (by decide),fun _=>?_⟩
     unfold zab
     simp[Act.eval,D27,go_sem,zaa]
     exact(HL _ hW).mono fun e w'' h=>⟨_,h.1,h.2,rfl⟩
   intro vs WR hWR hv hne
   have e0:vs 0=_:=hv 0 (by omega)
   have e1:vs 1=_:=hv 1 (by omega)
   have e2:vs 2=_:=hv 2 (by omega)
   simp only[lz7,List.take_zero,lz6,List.drop_zero,zad,if_true,Nat.zero_add,Nat.reduceAdd,e0,e1,e2]
   simp only[Act.put,lz0,lz1,lz2]
   clear e0 e1 e2 hv
   have BZ:=hB.keep hWR
   obtain⟨z0,z1,z2,z3,z4⟩:=BZ.c5
   have zf:=fun j=>BZ.frozen j
   have zl:=BZ.lt
   have hw3:Fr No w WR:=(hw2.trans0 hwz).trans0 hWR
   go_wp2
   refine bodyPost_ret (v:=.tuple #[.agg #[.int .i64 uk,.string un,.int .i64 ui,.int .i64 ud,.string us],.int .i64 uc]) (by simp[results,Tryz.results14,go_sem, *]) rfl ?_
   exact .mk1 rfl frc
theorem zhT {w w':World} {X:Nat->Prop} {base sz n:Nat} {e:TypeId} {v:Value} {xs:List Value} (h:w.ownsRow base e sz v n xs) (hf:Fr X w w') (hX:∀q,v.ownBlock=some q->¬X q):w'.ownsRow base e sz v n xs:=by
 obtain⟨hl,h | ⟨g,cap,cur,rfl,hg,hb,h1,h2,h3,h4⟩⟩:=h
 ·exact⟨hl,.inl h⟩
 ·have hb':Bx w g e cur:=hb
  exact⟨hl,.inr ⟨g,cap,cur,rfl,hg,hb'.keepX hf (hX g rfl),h1,h2,h3,h4⟩⟩
theorem Fr.fill4 {X:Nat->Prop} {a w:World} {g:Nat} {c0 c1 c2 c3:Value} (h:Fr X a w) (hg:X g):Fr X a ((((w.setCell ⟨g,0,none⟩ c0).setCell ⟨g,1,none⟩ c1).setCell ⟨g,2,none⟩ c2).setCell ⟨g,3,none⟩ c3):=
 (((h.setCellX (p:=⟨g,0,none⟩) hg c0).setCellX (p:=⟨g,1,none⟩) hg c1).setCellX (p:=⟨g,2,none⟩) hg c2).setCellX (p:=⟨g,3,none⟩) hg c3
theorem Fr.fill4n {X:Nat->Prop} {a w:World} {g:Nat} {c0 c1 c2 c3:Value} (h:Fr X a w) (hg:a.heap.size≤g):Fr X a ((((w.setCell ⟨g,0,none⟩ c0).setCell ⟨g,1,none⟩ c1).setCell ⟨g,2,none⟩ c2).setCell ⟨g,3,none⟩ c3):=
 (((h.setCell (p:=⟨g,0,none⟩) hg c0).setCell (p:=⟨g,1,none⟩) hg c1).setCell (p:=⟨g,2,none⟩) hg c2).setCell (p:=⟨g,3,none⟩) hg c3
def zhU (L:List LFld) (w:World) (e:Ending) (w':World):Prop:=∃v,e=.returned v∧Sl No w' 5 zj4 v L∧Fr No w w'
theorem zhV (X:Nat->Prop) (p:Plan) (v:Value) (k0:Nat) (s0:Str) (i0:Nat) (rs:List Ref) (w:World) (hp:lodB p=true) (h:Sl X w 2 (KprC X w) v p.keepers) (hh:Here p ⟨k0,s0⟩ k0 i0) (hs:s0.size≤maxLen) (hch:chainOf p ⟨k0,s0⟩=some rs):
  Calls Tryz.prog 64 #[.agg #[v],.agg #[.int .i64 k0,.string s0]] w (zhU (layL p rs) w):=by
 obtain⟨A,cap,rfl,hcap,hlen⟩:=h.form
 have hkw:=fun W (hW:Fr No w W)=>h.keep (R':=KprC X W) hW zN (fun _ _ _ h=>h.keep hW zN)
 have HC:=fun W (hW:Fr No w W)=>za0 X p _ k0 s0 i0 W hp (hkw W hW) hh hs
 have hB:=(Bx.new w 25 #[.slice A p.keepers.length cap]).alloc (.cells #[.int .i64 k0,.string s0] 29)
 have hall:zhb p rs:=zhf hp hh hch
 have hl6:rs.length≤6:=zhh hch
 unfold zaV at HC
 rw[hch] at HC
 dsimp only[Option.getD_some,Option.isSome_some] at HC
 obtain⟨i0',hi,hz0,hz1,hz2⟩:=info_parts zj9
 replace hi:=Lib.hid hi
 replace hz0:=Lib.hid hz0
 replace hz1:=Lib.hid hz1
 replace hz2:=Lib.hid hz2
 clear h hch hh
 go_enter Tryz.func64,Tryz.ntmps64
 go_wp2_with (go_at_call 54;refine(HC _ frc).mono ?_;rintro e w2 ⟨v2,rfl,hsl,hf2⟩;obtain⟨A2,c2,rfl,_,_⟩:=hsl.form)
 have q2:Fr No w w2:=frc
 have hBk:=hB.keep (show Fr No _ w2 from hf2)
 have hrow0:(w2.alloc (.cells #[] 53)).ownsRow w2.heap.size 53 5 (.slice (some ⟨w2.heap.size,0,none⟩) 0 0) (accJ p rs 0).length ((accJ p rs 0).flatMap zj3):=by
  rw[zkd]
  exact⟨rfl,.inr ⟨w2.heap.size,0,#[],rfl,Nat.le_refl _,World.alloc_heap_new w2 _,Nat.le_refl _,Nat.zero_le _,rfl,rfl⟩⟩
 clear hf2 hB HC
 go_loopw [7,8] (fun u i wr=>∃j:Nat,j≤rs.length∧i=.int .i64 ((rs.length:Int)-1-j)∧wr.ownsRow w2.heap.size 53 5 u (accJ p rs j).length ((accJ p rs j).flatMap zj3)∧Fr No w2 wr) (fun _ i _=>(intOf i+1).toNat)
 case atStart=>exact⟨0,Nat.zero_le _,by simp,hrow0,(Fr.refl _ _).alloc _⟩
 case round=>
  clear hrow0
  obtain⟨j,hj,rfl,hrow,hwr⟩:=hrel
  by_cases hlt:j<rs.length
  ·have hk:rs.length-1-j<rs.length:=by omega
   have hO:bwOK rs j (0,rs[rs.length-1-j])∨True:=.inr trivial
   have hst:accJ p rs (j+1)=zj5 rs[rs.length-1-j] (accJ p rs j) (zbG p rs[rs.length-1-j]).fields:=zkf p (x:=((rs.length:Int)-1-j,rs[rs.length-1-j])) ⟨hlt,rfl,lz8 hk⟩
   obtain⟨hrn,kq,iq,hhq⟩:=hall _ (List.getElem_mem hk)
   have hl3:=zkh hp hall (j+1)
   obtain⟨b,off,rfl,_,c0,c1,_⟩:=hsl.ref hk
   generalize rs[rs.length-1-j]=r at *
   obtain⟨qk,qn⟩:=r
   obtain rfl:qk=(kq:Int):=hhq.1
   dsimp only at c0 c1 hrn
   obtain⟨Af,cf,Am,cm,hCR,HC2⟩:=zaU X p _ kq qn iq w2 (hkw w2 q2) hhq hrn
   have hfl:=(show Sl X w2 3 FldC (.slice Af (zbG p ⟨kq,qn⟩).fields.length cf) (zbG p ⟨kq,qn⟩).fields by obtain⟨_,_,he,_,_,h,_⟩:=hCR;cases he;exact h)
   have HCl:=fun W (hW:Fr No wr W)=>HC2 W (hwr.trans0 hW)
   have KB:=(hBk.keep hwr).r1
   have K0:=fun W (hW:Fr No wr W)=>(hwr.trans0 hW).keep0 c0
   have K1:=fun W (hW:Fr No wr W)=>(hwr.trans0 hW).keep0 c1
   have hidx:((rs.length:Int)-1-j).toNat=rs.length-1-j:=by omega
   rw[hst] at hl3
   replace hst:=Lib.hid hst
   generalize zbG p ⟨kq,qn⟩=cl at *
   have cl0:=lt_of_cell c0
   obtain⟨Av,cv,rfl⟩:=zki hrow
   clear hCR hO
   go_wp2_with fail
   refine zn0 7 31 [mV (.agg #[.slice A p.keepers.length cap]),mV (.slice (some ⟨b,off,none⟩) rs.length c2),mV (.int .i64 ((rs.length:Int)-1-j)),mV (.pointer (some ⟨b,off+(rs.length-1-j) * 2,none⟩)),mV (.agg #[.int .i64 kq,.string qn]),mV (.agg #[.string cl.name,.string cl.super,.slice Af cl.fields.length cf,.slice Am cl.methods.length cm]),mB 41 (#[.string ⟨#[]⟩,.string ⟨#[]⟩,.slice none 0 0,.slice none 0 0]) wr.heap.size] (by kernel_rfl) (by kernel_rfl) (by simp) ?_ ?_
   ·refine hc4 ?_ ?_ ?_ ?_ <| hopC ?_ <| hopC ?_ <| hopC ?_ <| hopZ
    all_goals (intro a' W hW hoff hdep;have hbs:=hW.size;have H2:=hoff 2 rfl;have H5:=hoff 5 rfl;have H8:=hoff 8 rfl;refine nE rfl ?_)
    ·exact gx0
    ·simp[execOp,Act.eval,H5,go_sem,zaa];exact fr1 rfl
    ·simp[execOp,Act.eval,H8,go_sem,zaa];exact fr1 rfl
    ·have D26:_=_:=hdep 1 26 rfl;have D27:_=_:=hdep 2 27 rfl;clear hoff hdep;simp[execOp,Act.eval,go_sem,zaa,↓IntWalk.iteOmega, *];exact fr1 rfl
    ·have D28:_=_:=hdep 3 28 rfl;clear hoff hdep;simp[execOp,Act.eval,go_sem,zaa, *];exact fr1 rfl
    ·have D25:_=_:=hdep 0 25 rfl;have D29:_=_:=hdep 4 29 rfl;simp[Act.eval,D25,D29,go_sem,zaa];exact(HCl _ hW).mono fun e w' h=>⟨_,h.1,h.2,rfl⟩
    ·simp[execOp,go_sem,zaa];exact⟨(Fr.refl _ _).alloc _,⟨_,rfl,Bx.new_ rfl,hbs⟩,Nat.le_refl _⟩
   intro vs WR hWR hv hne
   obtain⟨b6,e6,hb6,hl6⟩:=hv 6 (by omega)
   simp only[lz6,List.drop_zero,znP,znK,znR,Nat.zero_add,Nat.reduceAdd,e6]
   simp only[Act.put,lz0,lz1,lz2]
   clear e6 hv
   clear K0 K1 KB HCl HC2
   have hrowR:=zms hrow hWR zN
   have hz6:=hb6
   obtain⟨z0,z1,z2,z3⟩:=hz6.c4
   have zf:=fun j=>hz6.frozen j
   have zl:=hz6.lt
   go_wp2_with fail
   refine zaE (fun W=>Bx W b6 41 #[.string cl.name,.string cl.super,.slice Af cl.fields.length cf,.slice Am cl.methods.length cm]∧W.ownsRow w2.heap.size 53 5 (.slice Av (accJ p rs j).length cv) (accJ p rs j).length ((accJ p rs j).flatMap zj3)∧Fr No wr W) ?_ ?_
   ·exact⟨hb6.fill4,zhT hrowR ((Fr.refl (fun x=>x=b6) _).fill4 rfl) (fun q e=>zj8 hrowR hb6 (by decide) q e),hWR.fill4n hl6⟩
   rintro W7 ⟨hB7,hrow7,hf7⟩
   have hw7:Fr No w2 W7:=hwr.trans0 hf7
   have hb6n:w2.heap.size≤b6:=Nat.le_trans hwr.size hl6
   clear hrowR hz6 z0 z1 z2 z3 zf zl hb6 hrow hf7 hwr hWR
   clear hl6
   go_loopw [7,10] (fun u i wq=>∃(i':Nat) (xs:List LFld),i'≤cl.fields.length∧i=.int .i64 i'∧Hid (zj5 ⟨kq,qn⟩ (accJ p rs j) cl.fields=zj5 ⟨kq,qn⟩ xs (cl.fields.drop i'))∧xs.length=(accJ p rs j).length+i'∧Bx wq b6 41 #[.string cl.name,.string cl.super,.slice Af cl.fields.length cf,.slice Am cl.methods.length cm] ∧
    wq.ownsRow w2.heap.size 53 5 u xs.length (xs.flatMap zj3)∧Fr No w2 wq) (fun _ i _=>cl.fields.length-(intOf i).toNat)
   case atStart=>exact⟨0,accJ p rs j,Nat.zero_le _,rfl,rfl,rfl,hB7,hrow7,hw7⟩
   case round=>
    clear hrow7 hB7 hw7
    obtain⟨i,xs,hi2,rfl,hd,hxl,hBq,hrowq,hwq⟩:=hrel
    obtain⟨Au,cu,rfl⟩:=zki hrowq
    obtain⟨z0,z1,z2,z3⟩:=hBq.c4
    have zl:=hBq.lt
    by_cases hi3:i<cl.fields.length
    ·obtain⟨bf,of,rfl,_,g0,g1,g2,_,hfz⟩:=(hfl.k0 hwq).fld hi3
     rw[List.drop_eq_getElem_cons hi3,zj6] at hd
     have hd:=Lib.hid hd
     have gl:=lt_of_cell g0
     generalize cl.fields[i]=f at *
     have KB:=hBq.r4
     have K0:=fun W (hW:Fr No wr W)=>(hwq.trans0 hW).keep0 c0
     have K1:=fun W (hW:Fr No wr W)=>(hwq.trans0 hW).keep0 c1
     have KG1:=kp g1
     have KG2:=kp g2
     have hxm:xs.length≤1000:=by unfold zj5 at hl3;simp[zjJ] at hl3;omega
     have hws:=hwq.size
     have hfm:cl.fields.length≤1000:=by unfold zj5 at hl3;simp[zjJ] at hl3;omega
     replace hxl:=Lib.hid hxl
     go_wp2_with fail
     refine zn0 15 53 [mV (.slice Au xs.length cu),mV (.slice (some ⟨b,off,none⟩) rs.length c2),mV (.int .i64 ((rs.length:Int)-1-j)),mV (.pointer (some ⟨b,off+(rs.length-1-j) * 2,none⟩)),mV (.agg #[.int .i64 kq,.string qn]),mV (.slice Au xs.length cu),mV (.int .i64 xs.length),mV (.pointer (some ⟨b6,2,none⟩)),mV (.slice (some ⟨bf,of,none⟩) cl.fields.length cf),mV (.int .i64 i),mV (.pointer (some ⟨bf,of+i * 3,none⟩)),mV (.pointer (some ⟨bf,of+i * 3+1,none⟩)),mV (.agg #[.int .i64 f.kind.kind,.string f.kind.name]),mV (.agg #[.int .i64 kq,.string qn,.int .i64 xs.length,.int .i64 f.kind.kind,.string f.kind.name]),mS 53 (#[.int .i64 kq,.string qn,.int .i64 xs.length,.int .i64 f.kind.kind,.string f.kind.name]) 1 wr.heap.size] (by kernel_rfl) (by kernel_rfl) (by simp) ?_ ?_
     ·refine hc4 ?_ ?_ ?_ ?_ <| hc4 ?_ ?_ ?_ ?_ <| hc4 ?_ ?_ ?_ ?_ <| hopC ?_ <| hopC ?_ <| hopC ?_ <| hopZ
      all_goals (intro a' W hW hoff hdep;have hbs:=hW.size;have H7:=hoff 7 rfl;have H5:=hoff 5 rfl;have H8:=hoff 8 rfl;have H9:=hoff 9 rfl;have H10:=hoff 10 rfl;refine nE rfl ?_)
      ·simp[execOp,Act.eval,H7,go_sem,zaa];exact fr1 rfl
      ·simp[execOp,Act.eval,H5,go_sem,zaa];exact fr1 rfl
      ·simp[execOp,Act.eval,H8,go_sem,zaa];exact fr1 rfl
      ·have D39:_=_:=hdep 1 39 rfl;have D40:_=_:=hdep 2 40 rfl;clear hoff hdep;simp[execOp,Act.eval,go_sem,zaa,↓IntWalk.iteOmega, *];exact fr1 rfl
      ·have D41:_=_:=hdep 3 41 rfl;clear hoff hdep;simp[execOp,Act.eval,go_sem,zaa, *];exact fr1 rfl
      ·simp[execOp,Act.eval,H7,go_sem,zaa];exact fr1 rfl
      ·have D43:_=_:=hdep 5 43 rfl;simp[Act.eval,D43,go_sem,zaa];exact fr1 rfl
      ·simp[execOp,Act.eval,H9,go_sem,zaa];exact fr1 rfl
      ·have D45:_=_:=hdep 7 45 rfl;clear hoff hdep;simp[execOp,Act.eval,go_sem,zaa, *];exact fr1 rfl
      ·simp[execOp,Act.eval,H10,go_sem,zaa];exact fr1 rfl
      ·have D46:_=_:=hdep 8 46 rfl;have D47:_=_:=hdep 9 47 rfl;clear hoff hdep;simp[execOp,Act.eval,go_sem,zaa, *];exact fr1 rfl
      ·have D48:_=_:=hdep 10 48 rfl;simp[execOp,Act.eval,D48,go_sem,zaa];exact fr1 rfl
      ·have D49:_=_:=hdep 11 49 rfl;clear hoff hdep;simp[execOp,Act.eval,go_sem,zaa, *];exact fr1 rfl
      ·have D42:_=_:=hdep 4 42 rfl;have D44:_=_:=hdep 6 44 rfl;have D50:_=_:=hdep 12 50 rfl;simp at D42 D44 D50;simp[execOp,Act.eval,D42,D44,D50,go_sem,zaa];exact fr1 rfl
      ·have D51:_=_:=hdep 13 51 rfl;simp at D51;simp[execOp,Act.eval,D51,go_sem,zaa];exact⟨(Fr.refl _ _).alloc _,⟨_,rfl,Bx.new_ rfl,hbs⟩,Nat.le_refl _⟩
     intro vs WR hWR hv hne
     obtain⟨b14,e14,hb14,hl14⟩:=hv 14 (by omega)
     simp only[lz6,List.drop_zero,znQ,znK,znR,Nat.zero_add,Nat.reduceAdd,e14]
     simp only[Act.put,lz0,lz1,lz2]
     clear e14 hv
     clear hne K0 K1 KG1 KG2 KB z0 z1 z2 z3 zl g0 g1 g2
     have hrowR:=zms hrowq hWR zN
     have hBR:=hBq.keep hWR
     have hown:=zj8 hrowR hBR (by decide)
     replace hown:=Lib.hid hown
     have hrl:=hrowR.lt
     replace hrl:=Lib.hid hrl
     have hsR:=hWR.size
     have hsrc:Hid (∀(j:Nat) (u:Value),(zj3 ⟨⟨(kq:Int),qn⟩,xs.length,f.kind⟩)[j]? =some u->WR.cell? ((⟨b14,0,none⟩:Addr).add j)=some u):=fun j u h=>by
      rw[show((⟨b14,0,none⟩:Addr).add j)=⟨b14,j,none⟩ by simp[Addr.add];omega]
      rw[hb14.cell]
      simpa[zj3] using h
     clear hrowq hBq
     go_wp2_with (at_builtin;refine wpList_append_own _ rfl _ _ 56 rfl w2.heap.size 53 i0' (.agg #[.int .i64 0,.string ⟨#[]⟩,.int .i64 0,.int .i64 0,.string ⟨#[]⟩]) 5 56 Tryz.underlying56 hi.out hz0.out hz1.out hz2.out rfl (by decide) _ _ _ rfl hrowR ⟨b14,0,none⟩ 1 1 (zj3 ⟨⟨kq,qn⟩,xs.length,f.kind⟩) rfl rfl hsrc.out (by simp[zj3,Value.oneCell']) (by unfold maxLen;omega) (by omega) (by omega) ?_;intro v' w1 hown' hgrow hnil;obtain⟨g',cap',rfl⟩:=ownsRow_succ hown';have hfo:Fr (fun x=>(Value.slice Au xs.length cu).ownBlock=some x) WR w1:=(Fr.refl _ WR).grown hgrow (fun k e=>.inr e))
     have hfw:Fr No w2 w1:=(hwq.trans0 hWR).trans hfo (fun x hx (hy:(Value.slice Au xs.length cu).ownBlock=some x)=>by have:=(hrl.out x hy).1;omega)
     have hr1:w1.ownsRow w2.heap.size 53 5 (.slice (some ⟨g',0,none⟩) (xs.length+1) cap') (xs ++ [(⟨⟨kq,qn⟩,xs.length,f.kind⟩:LFld)]).length ((xs ++ [(⟨⟨kq,qn⟩,xs.length,f.kind⟩:LFld)]).flatMap zj3):=by
      rw[List.flatMap_append,List.length_append]
      simpa using hown'
     go_roundw
     case rel=>exact⟨i+1,xs ++ [⟨⟨kq,qn⟩,xs.length,f.kind⟩],by omega,by go_num,hd.out,by have:=hxl.out;simp;omega,hBR.keepX hfo (fun e=>hown.out _ e rfl),hr1,hfw⟩
     case measure=>simp[intOf];omega
    ·have HS:Hid (zj5 ⟨kq,qn⟩ (accJ p rs j) cl.fields=xs):=by have:=hd.out;rwa [List.drop_eq_nil_of_le (by omega),zj7] at this
     have hacc:accJ p rs (j+1)=xs:=hst.out.trans HS.out
     go_wp2
     go_roundw
     case rel=>exact⟨j+1,by omega,by congr 1;omega,by rw[hacc];exact hrowq,hwq⟩
     case measure=>simp[intOf];omega
  ·obtain rfl:j=rs.length:=by omega
   have e0:(rs.length:Int)-1-(rs.length:Int)=-1:=by omega
   rw[e0]
   rw[zkg] at hrow
   clear e0
   obtain⟨Av,cv,rfl⟩:=zki hrow
   have hsm:=zeh hp (show zhb p rs.reverse from fun x hx=>hall x (by simpa using hx)) 0
   go_wp2
   go_ret
   exact⟨_,rfl,(zdO hrow hsm).weaken zN (fun _ _ _ h=>h),q2.trans0 hwr⟩
def cntF (F:List (Ref×Fld)) (q:Ref) (k:Nat):Nat:=((F.take k).filter (fun x=>zjt x.1 q)).length
theorem cntF_step {F:List (Ref×Fld)} {q:Ref} {k:Nat} (hk:k<F.length):cntF F q (k+1)=cntF F q k+if zjt F[k].1 q then 1 else 0:=by
 unfold cntF
 rw[List.take_succ_eq_append_getElem hk,List.filter_append,List.length_append]
 congr 1
 cases h:zjt F[k].1 q<;>simp[h]
theorem zhW (F:List (Ref×Fld)) (q:Ref) (k:Nat):cntF F q k≤k:=by
 unfold cntF
 exact Nat.le_trans (List.length_filter_le _ _) (by simp;omega)
theorem zhX (X Y:Nat->Prop) (p:Plan) (v u:Value) (F:List (Ref×Fld)) (i kq iq:Nat) (qn:Str) (f:Fld) (w:World) (h:Sl X w 2 (KprC X w) v p.keepers) (hu:Sl Y w 5 zj4 u (zjH 0 F)) (hi:i<F.length) (hF:F.length≤100) (hq:F[i]=(⟨kq,qn⟩,f))
  (hh:Here p ⟨kq,qn⟩ kq iq) (hqn:qn.size≤maxLen) (hd:(zbG p ⟨kq,qn⟩).fields[cntF F ⟨kq,qn⟩ i]? =some f):
  Calls Tryz.prog 65 #[.agg #[v],u,.int .i64 i] w (Gives (.string f.name) w):=by
 obtain⟨A,cap,rfl,hcap,hlen⟩:=h.form
 have hll:=zjJ F 0
 obtain⟨A2,c2,rfl,_,_⟩:=hu.form
 obtain⟨b,off,rfl,_,t0,t1,_,_,_,_,_⟩:=hu.lfld (k:=i) (by omega)
 rw[zjK _ _ _ hi,hq] at t0 t1
 dsimp only at t0 t1
 have hrow:∀k (hk:k<F.length),w.cell? ⟨b,off+k * 5,none⟩=some (.int .i64 F[k].1.keeper)∧w.cell? ⟨b,off+k * 5+1,none⟩=some (.string F[k].1.name):=fun k hk=>by
  obtain⟨b',off',he,_,q0,q1,_⟩:=hu.lfld (k:=k) (by omega)
  simp only[Option.some.injEq,Addr.mk.injEq,and_true] at he
  obtain⟨rfl,rfl⟩:=he
  rw[zjK _ _ _ hk] at q0 q1
  exact⟨q0,q1⟩
 have hB:=Bx.new w 25 #[.slice A p.keepers.length cap]
 replace hrow:=Lib.hid hrow
 obtain⟨Af,cf,Am,cm,hCR,HC⟩:=zaU X p _ kq qn iq w h hh hqn
 have hfl:=(show Sl X w 3 FldC (.slice Af (zbG p ⟨kq,qn⟩).fields.length cf) (zbG p ⟨kq,qn⟩).fields by obtain⟨_,_,he,_,_,h,_⟩:=hCR;cases he;exact h)
 obtain⟨hd1,hd2⟩:=List.getElem?_eq_some_iff.1 hd
 obtain⟨bf,of,rfl,_,g0,_,_,hgn,_⟩:=hfl.fld hd1
 rw[hd2] at g0 hgn
 rw[hll]
 replace hll:=Lib.hid hll
 replace hu:=Lib.hid hu
 have hb1:=lt_of_cell t0
 have hb2:=lt_of_cell g0
 have hci:cntF F ⟨kq,qn⟩ 0=0:=by simp[cntF]
 clear h hd hd2 hfl hCR
 go_enter Tryz.func65,Tryz.ntmps65
 go_wp2
 go_loopw [7,8] (fun n j wr=>∃k:Nat,k≤i∧n=.int .i64 (cntF F ⟨kq,qn⟩ k)∧j=.int .i64 k∧Fr No (w.alloc (.cells #[.slice A p.keepers.length cap] 25)) wr) (fun _ j _=>i-(intOf j).toNat)
 case atStart=>exact⟨0,Nat.zero_le _,by rw[hci];rfl,rfl,Fr.refl _ _⟩
 case round=>
  clear hci
  obtain⟨k,hk,rfl,rfl,hwr⟩:=hrel
  have hw2:Fr No w wr:=((Fr.refl No w).alloc _).trans0 hwr
  have hkl:=zhW F ⟨kq,qn⟩ k
  by_cases hlt:k<i
  ·have hkF:k<F.length:=by omega
   obtain⟨q0,q1⟩:=hrow.out k hkF
   have hst:=cntF_step (q:=⟨kq,qn⟩) hkF
   generalize F[k]=x at *
   obtain⟨⟨xk,xn⟩,xf⟩:=x
   dsimp only at q0 q1 hst
   have K0:=fun W (hW:Fr No wr W)=>(hw2.trans0 hW).keep0 q0
   have K1:=fun W (hW:Fr No wr W)=>(hw2.trans0 hW).keep0 q1
   have K2:=fun W (hW:Fr No wr W)=>(hw2.trans0 hW).keep0 t0
   have K3:=fun W (hW:Fr No wr W)=>(hw2.trans0 hW).keep0 t1
   generalize hcn:cntF F ⟨kq,qn⟩ k=n at *
   have hcase:(zjt ⟨xk,xn⟩ ⟨kq,qn⟩=false∧¬xk=(kq:Int))∨(zjt ⟨xk,xn⟩ ⟨kq,qn⟩=false∧xk=(kq:Int)∧¬xn.toList=qn.toList)∨(zjt ⟨xk,xn⟩ ⟨kq,qn⟩=true∧xk=(kq:Int)∧xn=qn):=by
    cases hr:zjt ⟨xk,xn⟩ ⟨kq,qn⟩
    ·by_cases h1:xk=(kq:Int)
     ·exact .inr (.inl ⟨rfl,h1,by unfold zjt at hr;simpa[h1] using hr⟩)
     ·exact .inl ⟨rfl,h1⟩
    ·have:=zju.1 hr
     rw[Ref.mk.injEq] at this
     exact .inr (.inr ⟨rfl,this⟩)
   go_wp2_with fail
   refine zn0 10 24 [mV (.slice (some ⟨b,off,none⟩) F.length c2),mV (.int .i64 k),mV (.pointer (some ⟨b,off+k * 5,none⟩)),mV (.pointer (some ⟨b,off+k * 5,none⟩)),mV (.agg #[.int .i64 xk,.string xn]),mV (.slice (some ⟨b,off,none⟩) F.length c2),mV (.int .i64 i),mV (.pointer (some ⟨b,off+i * 5,none⟩)),mV (.pointer (some ⟨b,off+i * 5,none⟩)),mV (.agg #[.int .i64 kq,.string qn])] (by kernel_rfl) (by kernel_rfl) (by simp) ?_ ?_
   ·refine hc4 ?_ ?_ ?_ ?_ <| hc4 ?_ ?_ ?_ ?_ <| hopC ?_ <| hopC ?_ <| hopZ
    all_goals (intro a' W hW hoff hdep;have hbs:=hW.size;have H1:=hoff 1 rfl;have H8:=hoff 8 rfl;have H2:=hoff 2 rfl;refine nE rfl ?_)
    ·simp[execOp,Act.eval,H1,go_sem,zaa];exact fr1 rfl
    ·simp[execOp,Act.eval,H8,go_sem,zaa];exact fr1 rfl
    ·have D14:_=_:=hdep 0 14 rfl;have D15:_=_:=hdep 1 15 rfl;clear hoff hdep;simp[execOp,Act.eval,go_sem,zaa, *];exact fr1 rfl
    ·have D16:_=_:=hdep 2 16 rfl;simp[execOp,Act.eval,D16,go_sem,zaa];exact fr1 rfl
    ·have D17:_=_:=hdep 3 17 rfl;clear hoff hdep;simp[execOp,Act.eval,go_sem,zaa, *];exact fr1 rfl
    ·simp[execOp,Act.eval,H1,go_sem,zaa];exact fr1 rfl
    ·simp[execOp,Act.eval,H2,go_sem,zaa];exact fr1 rfl
    ·have D19:_=_:=hdep 5 19 rfl;have D20:_=_:=hdep 6 20 rfl;clear hoff hdep;simp[execOp,Act.eval,go_sem,zaa, *];exact fr1 rfl
    ·have D21:_=_:=hdep 7 21 rfl;simp[execOp,Act.eval,D21,go_sem,zaa];exact fr1 rfl
    ·have D22:_=_:=hdep 8 22 rfl;clear hoff hdep;simp[execOp,Act.eval,go_sem,zaa, *];exact fr1 rfl
   intro vs WR hWR hv hne
   simp only[lz6,List.drop_zero,znK,znR,Nat.zero_add,Nat.reduceAdd]
   simp only[Act.put,lz0,lz1,lz2]
   clear hv
   clear K0 K1 K2 K3
   have hwR:=hwr.trans0 hWR
   rcases hcase with ⟨hr,h1⟩ | ⟨hr,rfl,h2⟩ | ⟨hr,rfl,rfl⟩
   ·rw[hr] at hst
    replace hst:=Lib.hid hst
    clear hr
    go_wp2
    go_roundw
    case rel=>exact⟨k+1,by omega,by rw[hst.out];rfl,by go_num,hwR⟩
    case measure=>simp[intOf];omega
   ·rw[hr] at hst
    replace hst:=Lib.hid hst
    clear hr
    go_wp2
    go_roundw
    case rel=>exact⟨k+1,by omega,by rw[hst.out];rfl,by go_num,hwR⟩
    case measure=>simp[intOf];omega
   ·rw[hr] at hst
    replace hst:=Lib.hid hst
    clear hr
    go_wp2
    go_roundw
    case rel=>exact⟨k+1,by omega,by rw[hst.out];go_num,by go_num,hwR⟩
    case measure=>simp[intOf];omega
  ·obtain rfl:k=i:=by omega
   have HCl:=fun W (hW:Fr No wr W)=>HC W (hw2.trans0 hW)
   have KB:=(hB.keep hwr).r1
   have K2:=fun W (hW:Fr No wr W)=>(hw2.trans0 hW).keep0 t0
   have K3:=fun W (hW:Fr No wr W)=>(hw2.trans0 hW).keep0 t1
   have KG:=fun W (hW:Fr No wr W)=>(hw2.trans0 hW).keep0 g0
   have hws:=hw2.size
   generalize cntF F ⟨kq,qn⟩ k=d at *
   go_wp2_with fail
   refine zn0 12 39 [mV (.agg #[.slice A p.keepers.length cap]),mV (.slice (some ⟨b,off,none⟩) F.length c2),mV (.int .i64 k),mV (.pointer (some ⟨b,off+k * 5,none⟩)),mV (.pointer (some ⟨b,off+k * 5,none⟩)),mV (.agg #[.int .i64 kq,.string qn]),mV (.agg #[.string (zbG p ⟨kq,qn⟩).name,.string (zbG p ⟨kq,qn⟩).super,.slice (some ⟨bf,of,none⟩) (zbG p ⟨kq,qn⟩).fields.length cf,.slice Am (zbG p ⟨kq,qn⟩).methods.length cm]),mV (.slice (some ⟨bf,of,none⟩) (zbG p ⟨kq,qn⟩).fields.length cf),mV (.int .i64 d),mV (.pointer (some ⟨bf,of+d * 3,none⟩)),mV (.pointer (some ⟨bf,of+d * 3,none⟩)),mV (.string f.name)] (by kernel_rfl) (by kernel_rfl) (by simp) ?_ ?_
   ·refine hc4 ?_ ?_ ?_ ?_ <| hc4 ?_ ?_ ?_ ?_ <| hc4 ?_ ?_ ?_ ?_ <| hopZ
    all_goals (intro a' W hW hoff hdep;have hbs:=hW.size;have H3:=hoff 3 rfl;have H1:=hoff 1 rfl;have H2:=hoff 2 rfl;have H7:=hoff 7 rfl;refine nE rfl ?_)
    ·exact gx0
    ·simp[execOp,Act.eval,H1,go_sem,zaa];exact fr1 rfl
    ·simp[execOp,Act.eval,H2,go_sem,zaa];exact fr1 rfl
    ·have D28:_=_:=hdep 1 28 rfl;have D29:_=_:=hdep 2 29 rfl;clear hoff hdep;simp[execOp,Act.eval,go_sem,zaa, *];exact fr1 rfl
    ·have D30:_=_:=hdep 3 30 rfl;simp[execOp,Act.eval,D30,go_sem,zaa];exact fr1 rfl
    ·have D31:_=_:=hdep 4 31 rfl;clear hoff hdep;simp[execOp,Act.eval,go_sem,zaa, *];exact fr1 rfl
    ·have D27:_=_:=hdep 0 27 rfl;have D32:_=_:=hdep 5 32 rfl;simp[Act.eval,D27,D32,go_sem,zaa];exact(HCl _ hW).mono fun e w' h=>⟨_,h.1,h.2,rfl⟩
    ·have D33:_=_:=hdep 6 33 rfl;simp[execOp,Act.eval,D33,go_sem,zaa];exact fr1 rfl
    ·simp[execOp,Act.eval,H7,go_sem,zaa];exact fr1 rfl
    ·have D34:_=_:=hdep 7 34 rfl;have D35:_=_:=hdep 8 35 rfl;clear hoff hdep;simp[execOp,Act.eval,go_sem,zaa, *];exact fr1 rfl
    ·have D36:_=_:=hdep 9 36 rfl;simp[execOp,Act.eval,D36,go_sem,zaa];exact fr1 rfl
    ·have D37:_=_:=hdep 10 37 rfl;clear hoff hdep;simp[execOp,Act.eval,go_sem,zaa, *];exact fr1 rfl
   intro vs WR hWR hv hne
   simp only[lz6,List.drop_zero,znK,znR,Nat.zero_add,Nat.reduceAdd]
   simp only[Act.put,lz0,lz1,lz2]
   clear hv
   clear K2 K3 KG KB
   go_wp2
   go_ret
   exact .mk rfl (hw2.trans0 hWR)
end Go.Proofs.YtbfmeklfpackjaaGreatDoor
