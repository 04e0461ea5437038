/- The program's LnkLayout (as Lyp, without the reference's). -/
import Derived.Test.YtbfmeklfpackjaaGreatDoorQHPqbE
import Derived.Test.YtbfmeklfpackjaaGreatDoorQHPqb4
set_option maxHeartbeats 8000000
set_option maxRecDepth 100000
namespace Go.Proofs.YtbfmeklfpackjaaGreatDoor
open Go.RowKit
def layS (p:Plan) (r:Ref):List LFld:=if lodB p then layB p r else []
def zvM (L:List LFld) (w:World) (e:Ending) (w':World):Prop:=
 ∃v,e=.returned v∧w'.ownsRow w.heap.size 53 5 v L.length (L.flatMap zj3)∧Fr No w w'
theorem zvN (p:Plan) (v:Value) (r:Ref) (w:World) (h:Sl No w 2 (KprC No w) v p.keepers) (hr:r.name.size≤maxLen) (wk:(Lit.int .i64 r.keeper).wf=true):
  Calls Tryz.prog 16 #[.agg #[v],.agg #[.int .i64 r.keeper,.string r.name]] w (zvM (layS p r) w):=by
 obtain⟨rk,rn⟩:=r
 dsimp only at hr wk ⊢
 obtain⟨A,cap,rfl,_,_⟩:=h.form
 obtain⟨wA,hwA⟩:∃wA,wA=((w.alloc (.cells #[.slice A p.keepers.length cap] 25)).alloc (.cells #[.int .i64 rk,.string rn] 29)):=⟨_,rfl⟩
 have hfA:Fr No w wA:=hwA▸frc
 have B0:Bx wA w.heap.size 25 #[.slice A p.keepers.length cap]:=hwA▸bxc
 have B1:Bx wA (w.heap.size+1) 29 #[.int .i64 rk,.string rn]:=hwA▸bxc
 have HN:=zgH p _ wA (h.keep hfA zN (fun _ _ _ h=>h.keep hfA zN))
 have hlay:layS p ⟨rk,rn⟩=if lodB p then layB p ⟨rk,rn⟩ else []:=rfl
 unfold zgG at HN
 generalize layS p ⟨rk,rn⟩=L at *
 clear h
 obtain⟨z0,z1⟩:=B1.c2
 have q0:=B0.c1
 have l0:=B0.lt
 have l1:=B1.lt
 have hsA:=hfA.size
 cases hp:lodB p
 ·rw[hp] at HN hlay
  simp only[Bool.false_eq_true,if_false] at hlay
  subst hlay
  go_enter Tryz.func16,Tryz.ntmps16
  go_wp2_with fail
  rw[<-hwA]
  replace hwA:=Lib.hid hwA
  refine HN.mono ?_
  rintro e w1 ⟨hf1,⟨_,rfl⟩ | ⟨hno,_⟩⟩
  ·clear z0 z1 q0 l0 l1 HN
   go_wp2
   go_ret
   exact⟨_,rfl,World.ownsRow_nil _ _ _ _,hfA.trans0 hf1⟩
  ·cases hno
 ·rw[hp] at HN hlay
  simp only[if_true] at hlay
  have HP:=fun l bl W (hL:Lg W l bl 0 p)=>zkl l bl 0 p ⟨rk,rn⟩ W hL hr wk (by omega)
  rw[<-hlay] at HP
  replace hlay:=Lib.hid hlay
  unfold zkk at HP
  go_enter Tryz.func16,Tryz.ntmps16
  go_wp2_with fail
  rw[<-hwA]
  replace hwA:=Lib.hid hwA
  refine HN.mono ?_
  rintro e w1 ⟨hf1,⟨hno,_⟩ | ⟨_,l,bl,rfl,hll,hbl,hLo⟩⟩
  ·cases hno
  ·have hLg:Lg w1 l bl 0 p:=⟨_,hLo,fun _ _ _ h=>by cases h⟩
   obtain⟨y0,y1⟩:=(B1.keep hf1).c2
   have yl:=(B1.keep hf1).lt
   have hs1:=hf1.size
   clear z0 z1 q0 l0 l1 HN hLo
   go_wp2_with fail
   refine(HP l bl w1 hLg).mono ?_
   rintro e w2 ⟨v2,rfl,hrow,hf2,hL2⟩
   obtain⟨A2,c2,rfl⟩:=zki hrow
   have hw2:Fr No w w2:=(hfA.trans0 hf1).trans hf2 (fun b hb h=>absurd h (by omega))
   clear y0 y1 yl hf1 hf2 HP
   go_wp2
   go_ret
   exact⟨_,rfl,zkj hrow (by omega),hw2⟩
theorem zlm (l bl n:Nat) (p:Plan) (k:Int) (s m:Str) (w:World) (h:Lg w l bl n p) (hs:s.size≤maxLen) (hm:m.size≤maxLen) (hn:n<999999):
  Calls Tryz.prog 37 #[.pointer (some ⟨l,0,none⟩),.int .i64 k,.string s,.string m] w (zd9 (getB p k s m) p l bl n w):=by
 have hp:=h.ok
 have hlt:=h.lt
 have h0:=h
 have B0:Bx (w.alloc (.cells #[.int .i64 0,.string ⟨#[]⟩,.int .i64 0,.int .i64 0,.string ⟨#[]⟩] 53)) w.heap.size 53 #[.int .i64 0,.string ⟨#[]⟩,.int .i64 0,.int .i64 0,.string ⟨#[]⟩]:=bxc
 have HK:=fun W (hW:Fr No w W)=>zdX l bl n p k s m W (h.keep hW) hs hm (by omega)
 obtain⟨q,hq⟩:∃q,q=zdS p k s m:=⟨_,rfl⟩
 have hV:getB p k s m=getG p k m q:=by unfold getB;rw[hq]
 rw[<-hq] at HK
 generalize getB p k s m=V at *
 obtain⟨⟨rk,rn⟩,c⟩:=q
 unfold zdU at HK
 dsimp only at HK
 clear h
 by_cases hc:c=1
 ·subst hc
  obtain⟨kc,i,hr,hh⟩:=zd1 hp hq.symm
  have hcan:=zeg hp hq.symm
  obtain⟨rfl,rfl⟩:=Ref.mk.inj hr
  have h3:=zbM hp
  have hkl:=hh.2.1
  have wk:=zdW (show kc<4 by omega)
  have HP:=fun W (hW:Lg W l bl (n+1) p)=>zkl l bl (n+1) p ⟨(kc:Int),rn⟩ W hW hs wk (by omega)
  unfold zkk at HP
  have hLB:layB p ⟨(kc:Int),rn⟩=zjH 0 (zjB p (zmF p ⟨(kc:Int),rn⟩).reverse):=by unfold layB;rw[if_pos hcan];rfl
  rw[hLB] at HP
  unfold getG at hV
  dsimp only at hV
  rw[if_pos rfl] at hV
  have hall:=zhj hp ⟨(kc:Int),rn⟩
  have hnd:(zmF p ⟨(kc:Int),rn⟩).reverse.Nodup:=zed (zjA hp _)
  have hlen:=zhk hp ⟨(kc:Int),rn⟩
  have HFF:=fun(g:Int->Str->Option Int) (q:Ref) W (hW:zgF W l bl (n+2) p g) (hq:q.name.size≤maxLen)=>zkn l bl (n+2) p g q ⟨(kc:Int),rn⟩ W hW hs hq
  generalize zmF p ⟨(kc:Int),rn⟩=xs at *
  replace hV:=Lib.hid hV
  clear hq hr hh h3 hkl wk hLB hcan
  go_enter Tryz.func37,Tryz.ntmps37
  go_wp2_with (go_at_call 48;refine(HK _ frc).mono ?_;rintro e w1 ⟨ev,rfl,he,hf1,hL1⟩;obtain rfl:=he.nil;clear he)
  have hw1:Fr (fun b=>b=bl) w w1:=(show Fr No w (w.alloc (.cells #[.int .i64 0,.string ⟨#[]⟩,.int .i64 0,.int .i64 0,.string ⟨#[]⟩] 53)) from frc).of0.same hf1
  have B1:=B0.keepX hf1 (by omega)
  have l1:=B1.lt
  clear HK B0
  go_wp2_with fail
  refine zdP (fun W=>Bx W w.heap.size 53 #[.int .i64 0,.string ⟨#[]⟩,.int .i64 0,.int .i64 0,.string ⟨#[]⟩]∧Bx W w1.heap.size 29 #[.int .i64 kc,.string rn]∧Fr No w1 W) ⟨bxc,bxc,frc⟩ ?_
  rintro Wz ⟨hB,hR,hwz⟩
  have sB:=hB.lt
  have sR:=hR.lt
  refine(HP Wz (hL1.keep hwz)).mono ?_
  rintro e w2 ⟨v2,rfl,hrow,hf2,hL2⟩
  have hw2:Fr (fun b=>b=bl) w w2:=(hw1.trans0 hwz).same hf2
  have hB2:=hB.keepX hf2 (by omega)
  have hR2:=hR.keepX hf2 (by have:=hlt;have:=hw1.size;omega)
  obtain⟨g2,hLo2,hg2⟩:=hL2
  have hrs:zhb p xs.reverse:=fun x hx=>hall x (by simpa using hx)
  have hsl:=zdO hrow (zeh hp hrs 0)
  have hF18:=zjM hp hrs
  have hfa:=fun i (hi:i<(zjB p xs.reverse).length)=>zjG (p:=p) hnd i hi
  obtain⟨A2,c2,rfl,_,_⟩:=hsl.form
  have hll:=zjJ (zjB p xs.reverse) 0
  have hlg:∀i (hi:i<(zjB p xs.reverse).length) (h2:i<(zjH 0 (zjB p xs.reverse)).length),(zjH 0 (zjB p xs.reverse))[i]=⟨(zjB p xs.reverse)[i].1,((0+i:Nat):Int),(zjB p xs.reverse)[i].2.kind⟩:=fun i hi _=>zjK (zjB p xs.reverse) 0 i hi
  have hlh:∀x∈zjB p xs.reverse,∃kq iq:Nat,x.1.keeper=(kq:Int)∧Here p x.1 kq iq∧x.1.name.size≤maxLen:=fun x hx=>by
   obtain⟨h1,_⟩:=zjF hx
   obtain⟨h3,kq,iq,hh⟩:=hrs _ h1
   exact⟨kq,iq,hh.1,hh,h3⟩
  generalize zjH 0 (zjB p xs.reverse)=L at *
  generalize zjB p xs.reverse=F at *
  simp only[List.length_reverse] at hF18
  clear hrow hf1 hf2 hwz HP hB hR B1 hall hnd hrs hL1
  have hLm:L.length≤100:=by omega
  replace hlg:=Lib.hid hlg
  replace hfa:=Lib.hid hfa
  replace hlh:=Lib.hid hlh
  replace HFF:=Lib.hid HFF
  replace hll:=Lib.hid hll
  have hFm:F.length≤100:=by omega
  replace hF18:=Lib.hid hF18
  go_wp2_with fail
  go_loopw [31] (fun i wr=>∃j:Nat,j≤L.length∧i=.int .i64 j∧Hid (V=zjN p k m j (F.drop j))∧Fr No w2 wr) (fun i _=>L.length-(intOf i).toNat)
  case atStart=>exact⟨0,Nat.zero_le _,rfl,hV,Fr.refl _ _⟩
  case round=>
   clear hV
   obtain⟨j,hj,rfl,hd,hwr⟩:=hrel
   by_cases hlt2':j<L.length
   ·have hjl:=hlt2'
    have hlt2:j<F.length:=by have:=hll.out;omega
    obtain⟨b,off,rfl,_,c0,c1,c2,c3,c4,hsn,hsk⟩:=(hsl.keep (R':=zj4) hwr zN (fun _ _ _ h=>h)).lfld hjl
    rw[hlg.out j hlt2 hjl] at c0 c1 c2 c3 c4 hsn hsk
    rw[List.drop_eq_getElem_cons hlt2,zjN] at hd
    obtain⟨fa1,fa2,_⟩:=hfa.out j hlt2
    obtain⟨kq,iq,hqk,hhq,hqs⟩:=hlh.out _ (List.getElem_mem hlt2)
    have hd:=Lib.hid hd
    have cl:=lt_of_cell c0
    clear hsl hlg hfa hlh
    generalize F[j]=x at *
    obtain⟨⟨qk,qn⟩,f⟩:=x
    dsimp only at *
    subst hqk
    rw[Nat.zero_add] at c2
    generalize hfl:zjE p xs.reverse ⟨(kq:Int),qn⟩=fo at *
    have hB3:=hB2.keep hwr
    have hR3:=hR2.keep hwr
    obtain⟨r0,r1⟩:=hR3.c2
    have rl:=hR3.lt
    go_wp2_with fail
    refine zdP (fun W=>Bx W wr.heap.size 53 #[.int .i64 kq,.string qn,.int .i64 j,.int .i64 f.kind.kind,.string f.kind.name]∧Fr No wr W) ⟨bxc,frc⟩ ?_
    rintro W4 ⟨hF4,hf4⟩
    have hf4R:=hf4
    refine(HFF.out g2 ⟨kq,qn⟩ W4 (hLo2.keep (hwr.trans0 hf4)) hqs).mono ?_
    rintro e w5 ⟨rfl,hf5⟩
    have hf5R:=hf5
    rw[hfl]
    have hF5:=hF4.keep hf5
    have hw5:Fr No w2 w5:=(hwr.trans0 hf4).trans0 hf5
    obtain⟨Af,cf,Am,cm,hCR,HCl⟩:=zjq (hLo2.keep hw5) hhq hqs
    have hflds:Sl (fun b=>b=bl) w5 3 FldC (.slice Af (zbG p ⟨kq,qn⟩).fields.length cf) (zbG p ⟨kq,qn⟩).fields:=by obtain⟨_,_,he,_,_,h,_⟩:=hCR;cases he;exact h
    have hbi:=(List.getElem?_eq_some_iff.1 fa2)
    obtain⟨hbi1,hbi2⟩:=hbi
    obtain⟨bf,of,rfl,_,g0,_,_,hgn,_⟩:=hflds.fld hbi1
    rw[hbi2] at g0 hgn
    have gl:=lt_of_cell g0
    have KG:=kp g0
    have KF:=hF5.r5
    have hsub:IntKind.i64.wrap ((j:Int)-(fo:Int))=((j-fo:Nat):Int):=(IntWalk.i64_in _ (by omega)).trans (by omega)
    have hfm:=zjL (Here.clsB hp hhq)
    have hd2:Hid (V=if f.name.toList == m.toList then (if zmJ p k kq f.kind then (⟨⟨kq,qn⟩,j,f.kind⟩,1) else (zd8,4)) else zjN p k m (j+1) (F.drop (j+1))):=hd.out.out
    clear hd c0 c1 c2 c3 c4 cl r0 r1 rl hF4 hf4 hf5 hCR hflds hbi2 fa2 g0
    clear hgn
    go_wp2_with fail
    refine zn0 13 53 [mV (.pointer (some ⟨l,0,none⟩)),mV (.pointer (some ⟨wr.heap.size,0,none⟩)),mV (.agg #[.int .i64 kq,.string qn]),mV (.agg #[.string (zbG p ⟨kq,qn⟩).name,.string (zbG p ⟨kq,qn⟩).super,.slice (some ⟨bf,of,none⟩) (zbG p ⟨kq,qn⟩).fields.length cf,.slice Am (zbG p ⟨kq,qn⟩).methods.length cm]),mV (.slice (some ⟨bf,of,none⟩) (zbG p ⟨kq,qn⟩).fields.length cf),mV (.pointer (some ⟨wr.heap.size,2,none⟩)),mV (.int .i64 j),mV (.int .i64 fo),mV (.int .i64 ((j-fo:Nat):Int)),mV (.pointer (some ⟨bf,of+(j-fo) * 3,none⟩)),mV (.pointer (some ⟨bf,of+(j-fo) * 3,none⟩)),mV (.string f.name),mV (.string m)] (by kernel_rfl) (by kernel_rfl) (by simp) ?_ ?_
    ·refine hc4 ?_ ?_ ?_ ?_ <| hc4 ?_ ?_ ?_ ?_ <| hc4 ?_ ?_ ?_ ?_ <| hopC ?_ <| hopZ
     all_goals (intro a' W hW hoff hdep;have hbs:=hW.size;have H0:=hoff 0 rfl;have H13:=hoff 13 rfl;have H14:=hoff 14 rfl;have H3:=hoff 3 rfl;refine nE rfl ?_)
     ·simp[execOp,Act.eval,H0,go_sem,zaa];exact fr1 rfl
     ·simp[execOp,Act.eval,H13,go_sem,zaa];exact fr1 rfl
     ·have D41:_=_:=hdep 1 41 rfl;clear hoff hdep;simp[execOp,Act.eval,go_sem,zaa, *];exact fr1 rfl
     ·have D40:_=_:=hdep 0 40 rfl;have D42:_=_:=hdep 2 42 rfl;simp[Act.eval,D40,D42,go_sem,zaa];exact(HCl _ hW).mono fun e w' h=>⟨_,h.1,h.2,rfl⟩
     ·have D43:_=_:=hdep 3 43 rfl;simp[execOp,Act.eval,D43,go_sem,zaa];exact fr1 rfl
     ·simp[execOp,Act.eval,H13,go_sem,zaa];exact fr1 rfl
     ·have D45:_=_:=hdep 5 45 rfl;clear hoff hdep;simp[execOp,Act.eval,go_sem,zaa, *];exact fr1 rfl
     ·simp[execOp,Act.eval,H14,go_sem,zaa];exact fr1 rfl
     ·have D46:_=_:=hdep 6 46 rfl;have D47:_=_:=hdep 7 47 rfl;simp[execOp,Act.eval,D46,D47,go_sem,zaa];exact⟨Fr.refl _ _,by show Value.int _ _=_;rw[hsub]⟩
     ·have D44:_=_:=hdep 4 44 rfl;have D48:_=_:=hdep 8 48 rfl;clear hoff hdep;simp[execOp,Act.eval,go_sem,zaa, *];exact fr1 rfl
     ·have D49:_=_:=hdep 9 49 rfl;simp[execOp,Act.eval,D49,go_sem,zaa];exact fr1 rfl
     ·have D50:_=_:=hdep 10 50 rfl;clear hoff hdep;simp[execOp,Act.eval,go_sem,zaa, *];exact fr1 rfl
     ·simp[execOp,Act.eval,H3,go_sem,zaa];exact fr1 rfl
    intro vs WR hWR hv hne
    simp only[lz6,List.drop_zero,znK,znR,Nat.zero_add,Nat.reduceAdd]
    simp only[Act.put,lz0,lz1,lz2]
    clear hv
    have hF6:=hF5.keep hWR
    have hB6:=hB3.keep ((hf4R.trans0 hf5R).trans0 hWR)
    have hw6:Fr No w2 WR:=hw5.trans0 hWR
    obtain⟨y0,y1,y2,y3,y4⟩:=hF6.c5
    have yl:=hF6.lt
    clear KG KF HCl hsub
    by_cases hnm:f.name.toList=m.toList
    ·have HA:=fun W (hW:Fr No WR W)=>zmK l bl (n+2) p g2 k kq f.kind W ((hLo2.keep hw6).keep hW) (by have:=hsk;exact this)
     have hd3:Hid (V=if zmJ p k kq f.kind then (⟨⟨kq,qn⟩,j,f.kind⟩,1) else (zd8,4)):=hd2.out.trans (by rw[if_pos (by simpa using hnm)])
     clear hd2
     generalize zmJ p k kq f.kind=ag at *
     replace hnm:=Lib.hid hnm
     have hnb:(f.name.toList == m.toList)=true:=by simpa using hnm.out
     cases ag
     ·go_wp2_with (go_at_call 36;refine(HA _ (Fr.refl _ _)).mono ?_;rintro e w7 ⟨rfl,hf7⟩;have hF7:=hF6.keep hf7;have hB7:=hB6.keep hf7;have ⟨z0,z1,z2,z3,z4⟩:=hB7.c5;have zf:=(fun j=>hB7.frozen j);have zl:=hB7.lt;have ⟨x0,x1,x2,x3,x4⟩:=hF7.c5;have xl:=hF7.lt;clear y0 y1 y2 y3 y4 yl)
      refine bodyPost_ret (v:=.tuple #[.agg #[.int .i64 0,.string ⟨#[]⟩,.int .i64 0,.int .i64 0,.string ⟨#[]⟩],.iface 108 (.pointer (some ⟨w7.heap.size,0,none⟩))]) (by simp[results,Tryz.results37,go_sem, *]) rfl ?_
      exact .mk (hd3.out.trans (if_neg Bool.false_ne_true)) rfl (.mk (by decide) bx5) (set5 ((hw2.trans0 hw6).trans0 hf7) (Nat.le_refl _)) (h0.over ⟨g2,hLo2.keep (hw6.trans0 hf7),hg2⟩ ((hw2.trans0 hw6).trans0 hf7) (zea (Fr.refl _ _) (Nat.le_refl _)))
     ·go_wp2_with (go_at_call 36;refine(HA _ (Fr.refl _ _)).mono ?_;rintro e w7 ⟨rfl,hf7⟩;have hF7:=hF6.keep hf7;have hB7:=hB6.keep hf7;have ⟨z0,z1,z2,z3,z4⟩:=hB7.c5;have zf:=(fun j=>hB7.frozen j);have zl:=hB7.lt;have ⟨x0,x1,x2,x3,x4⟩:=hF7.c5;have xl:=hF7.lt;clear y0 y1 y2 y3 y4 yl)
      refine bodyPost_ret (v:=.tuple #[.agg #[.int .i64 kq,.string qn,.int .i64 j,.int .i64 f.kind.kind,.string f.kind.name],.nilIface]) (by simp[results,Tryz.results37,go_sem, *]) rfl ?_
      exact .mk (hd3.out.trans (if_pos trivial)) rfl (.inl ⟨rfl,rfl⟩) (zeb ((hw2.trans0 hw6).trans0 hf7) (Nat.le_refl _)) (h0.over ⟨g2,hLo2.keep (hw6.trans0 hf7),hg2⟩ ((hw2.trans0 hw6).trans0 hf7) (zec (Fr.refl _ _) (Nat.le_refl _)))
    ·have hd3:Hid (V=zjN p k m (j+1) (F.drop (j+1))):=hd2.out.trans (by rw[if_neg (by simpa using hnm)])
     clear hd2
     have hnb:(f.name.toList == m.toList)=false:=by simpa using hnm
     have hnb2:(f.name.toList != m.toList)=true:=by simpa using hnm
     go_wp2
     go_roundw
     case rel=>exact⟨j+1,by omega,by go_num,hd3,hw6⟩
     case measure=>simp[intOf];omega
   ·have HS:Hid (V=(zd8,3)):=hd.out.trans (by rw[List.drop_of_length_le (by have:=hll.out;omega)];rfl)
    have hBr:=hB2.keep hwr
    obtain⟨z0,z1,z2,z3,z4⟩:=hBr.c5
    have zf:=fun j=>hBr.frozen j
    have zl:=hBr.lt
    clear hd hsl hB2 hR2 hfa hlg hlh HFF
    go_wp2
    refine bodyPost_ret (v:=.tuple #[.agg #[.int .i64 0,.string ⟨#[]⟩,.int .i64 0,.int .i64 0,.string ⟨#[]⟩],.iface 108 (.pointer (some ⟨wr.heap.size,0,none⟩))]) (by simp[results,Tryz.results37,go_sem, *]) rfl ?_
    exact .mk HS.out rfl (.mk (by decide) bx5) (set5 (hw2.trans0 hwr) (Nat.le_refl _)) (h0.over ⟨g2,hLo2.keep hwr,hg2⟩ (hw2.trans0 hwr) (zea (Fr.refl _ _) (Nat.le_refl _)))
 ·unfold getG at hV
  dsimp only at hV
  rw[if_neg hc] at hV
  replace hV:=Lib.hid hV
  go_enter Tryz.func37,Tryz.ntmps37
  go_wp2_with (go_at_call 48;refine(HK _ frc).mono ?_;rintro e w1 ⟨ev,rfl,he,hf1,hL1⟩;obtain⟨eb,rfl,heb⟩:=he.some hc;clear he;have hw1:Fr (fun b=>b=bl) w w1:=(show Fr No w (w.alloc (.cells #[.int .i64 0,.string ⟨#[]⟩,.int .i64 0,.int .i64 0,.string ⟨#[]⟩] 53)) from frc).of0.same hf1;have B1:=B0.keepX hf1 (by omega);have ⟨z0,z1,z2,z3,z4⟩:=B1.c5;have zf:=(fun j=>B1.frozen j);have zl:=B1.lt)
  have hne:eb≠w.heap.size:=by
   intro h9
   rw[h9] at heb
   unfold Bx at heb B1
   rw[heb] at B1
   simp at B1
  clear HK B0
  refine bodyPost_ret (v:=.tuple #[.agg #[.int .i64 0,.string ⟨#[]⟩,.int .i64 0,.int .i64 0,.string ⟨#[]⟩],.iface 108 (.pointer (some ⟨eb,0,none⟩))]) (by simp[results,Tryz.results37,go_sem, *]) rfl ?_
  exact .mk hV.out rfl (.inr ⟨hc,eb,rfl,bxc⟩) frc ((h0.over hL1 hw1 frx).mono (by omega))
theorem zvy (p:Plan) (v:Value) (k:Int) (s m:Str) (w:World) (h:Sl No w 2 (KprC No w) v p.keepers) (hs:s.size≤maxLen) (hm:m.size≤maxLen) (hg:ErrT w):
  Calls Tryz.prog 14 #[.agg #[v],.int .i64 k,.string s,.string m] w (Gives (getV (getS p k s m)) w):=by
 obtain⟨A,cap,rfl,_,_⟩:=h.form
 obtain⟨wA,hwA⟩:∃wA,wA=((w.alloc (.cells #[.slice A p.keepers.length cap] 25)).alloc (.cells #[.int .i64 0,.string ⟨#[]⟩,.int .i64 0,.int .i64 0,.string ⟨#[]⟩] 53)):=⟨_,rfl⟩
 have hfA:Fr No w wA:=hwA▸frc
 have B0:Bx wA w.heap.size 25 #[.slice A p.keepers.length cap]:=hwA▸bxc
 have B2:Bx wA (w.heap.size+1) 53 #[.int .i64 0,.string ⟨#[]⟩,.int .i64 0,.int .i64 0,.string ⟨#[]⟩]:=hwA▸bxc
 have HN:=zgH p _ wA (h.keep hfA zN (fun _ _ _ h=>h.keep hfA zN))
 have hV:getS p k s m=if lodB p then getB p k s m else (zd8,2):=rfl
 have hsA:=hfA.size
 unfold zgG at HN
 generalize getS p k s m=V at *
 clear h
 cases hp:lodB p
 ·rw[hp] at HN hV
  simp only[Bool.false_eq_true,if_false] at hV
  subst hV
  have q0:=B0.c1
  have l0:=B0.lt
  go_enter Tryz.func14,Tryz.ntmps14
  go_wp2_with fail
  rw[<-hwA]
  replace hwA:=Lib.hid hwA
  refine HN.mono ?_
  rintro e w1 ⟨hf1,⟨_,rfl⟩ | ⟨hno,_⟩⟩
  ·obtain⟨y0,y1,y2,y3,y4⟩:=(B2.keep hf1).c5
   have yf:=fun j=>(B2.keep hf1).frozen j
   have yl:=(B2.keep hf1).lt
   clear q0 l0 HN
   go_wp2
   refine bodyPost_ret (v:=.tuple #[.agg #[.int .i64 0,.string ⟨#[]⟩,.int .i64 0,.int .i64 0,.string ⟨#[]⟩],.int .i64 2]) (by simp[results,Tryz.results14,go_sem, *]) rfl ?_
   exact .mk1 rfl frc
  ·cases hno
 ·rw[hp] at HN hV
  simp only[if_true] at hV
  have HP:=fun l bl W (hL:Lg W l bl 0 p)=>zlm l bl 0 p k s m W hL hs hm (by omega)
  rw[<-hV] at HP
  clear hV
  unfold zd9 lfV at HP
  obtain⟨⟨⟨uk,un⟩,ui,⟨ud,us⟩⟩,uc⟩:=V
  unfold getV
  unfold lfV
  dsimp only at HP ⊢
  have q0:=B0.c1
  have l0:=B0.lt
  go_enter Tryz.func14,Tryz.ntmps14
  go_wp2_with fail
  rw[<-hwA]
  replace hwA:=Lib.hid hwA
  refine HN.mono ?_
  rintro e w1 ⟨hf1,⟨hno,_⟩ | ⟨_,l,bl,rfl,hll,hbl,hLo⟩⟩
  ·cases hno
  ·have hLg:Lg w1 l bl 0 p:=⟨_,hLo,fun _ _ _ h=>by cases h⟩
   have hb2:=B2.keep hf1
   have hsz:=hfA.size
   have hl2:=B2.lt
   have hbl1:=hLg.lt
   clear q0 l0 HN hLo
   go_wp2_with fail
   refine(HP l bl w1 hLg).mono ?_
   rintro e w2 ⟨ev,rfl,he,hf2,hL2⟩
   have hB2:=hb2.keepX hf2 (by omega)
   have hw2:Fr No w w2:=(hfA.trans0 hf1).trans hf2 (fun b hb h=>absurd h (by omega))
   have hg2:ErrT w2:=hw2.keep0 hg
   have hlz:=hB2.lt
   clear hb2 hf1 hf2 HP hLg hL2
   go_wp2_with fail
   refine zaE (fun W=>Bx W (w.heap.size+1) 53 #[.int .i64 0,.string ⟨#[]⟩,.int .i64 0,.int .i64 0,.string ⟨#[]⟩]∧Bx W w2.heap.size 53 #[.int .i64 uk,.string un,.int .i64 ui,.int .i64 ud,.string us]∧Fr No w2 W) ⟨bxc,bxc,frc⟩ ?_
   rintro wB ⟨hB,hR,hwz⟩
   have HL:=fun W (hW:Fr No wB W)=>zu4 uc ev W ((he.keep hwz).keep hW) ((hwz.trans0 hW).keep0 hg2)
   have K0:=hR.r5
   clear he hB2 B0 B2
   refine zaC 3 [isV (.agg #[.int .i64 uk,.string un,.int .i64 ui,.int .i64 ud,.string us]),isV (ev),isV (.int .i64 uc)] [false,false,false] [false,false,false] ?_ (by kernel_rfl) (by kernel_rfl) ?_ ?_ ?_ ?_
   ·intro x hx hb v W h
    simp only[List.zip_cons_cons,List.zip_nil_left,List.mem_cons,List.not_mem_nil,or_false] at hx
    rcases hx with rfl|rfl|rfl<;>first|(cases hb;done)|exact zaB h
   ·intro o ho d hd;simp only[lz7,List.take_zero,List.mem_cons,List.not_mem_nil,or_false] at ho;rcases ho with rfl|rfl|rfl<;>(cases hd;simp)
   ·intro x hx
    simp only[List.mem_cons,List.not_mem_nil,or_false] at hx
    rcases hx with rfl|rfl|rfl
    ·exact zaz _
    ·exact zaz _
    ·exact zaz _
   ·intro k o ho a' W hW hoff hdep
    have hbs:=hW.size
    have H11:=hoff 11 (by simp)
    have H12:=hoff 12 (by simp)
    simp only[Act.eval] at H11 H12
    simp only[lz7,List.take_zero] at ho hdep
    rcases k with _|_|_|k
    all_goals (first|(simp at ho;done)|skip)
    all_goals simp only[lz3,lz4,Option.some.injEq] at ho
    all_goals subst ho
    ·refine⟨fun h=>absurd h (by decide),fun _=>?_⟩
     unfold zab
     simp[execOp,Act.eval,go_sem,zaa, *]
     exact⟨Fr.refl _ _,rfl⟩
    ·refine⟨fun h=>absurd h (by decide),fun _=>?_⟩
     unfold zab
     simp[execOp,Act.eval,H12,go_sem,zaa]
     exact⟨Fr.refl _ _,rfl⟩
    ·have D27:a'.eval (.tmp 27)=ev:=hdep ⟨1,.data⟩ (by simp) rfl _ 27 rfl rfl
     simp only[Act.eval] at D27
     refine⟨fun h=>absurd h (by decide),fun _=>?_⟩
     unfold zab
     simp[Act.eval,D27,go_sem,zaa]
     exact(HL _ hW).mono fun e w'' h=>⟨_,h.1,h.2,rfl⟩
   intro vs WR hWR hv hne
   have e0:vs 0=_:=hv 0 (by omega)
   have e1:vs 1=_:=hv 1 (by omega)
   have e2:vs 2=_:=hv 2 (by omega)
   simp only[lz7,List.take_zero,lz6,List.drop_zero,zad,if_true,Nat.zero_add,Nat.reduceAdd,e0,e1,e2]
   simp only[Act.put,lz0,lz1,lz2]
   clear e0 e1 e2 hv
   have BZ:=hB.keep hWR
   obtain⟨z0,z1,z2,z3,z4⟩:=BZ.c5
   have zf:=fun j=>BZ.frozen j
   have zl:=BZ.lt
   have hw3:Fr No w WR:=(hw2.trans0 hwz).trans0 hWR
   go_wp2
   refine bodyPost_ret (v:=.tuple #[.agg #[.int .i64 uk,.string un,.int .i64 ui,.int .i64 ud,.string us],.int .i64 uc]) (by simp[results,Tryz.results14,go_sem, *]) rfl ?_
   exact .mk1 rfl frc
theorem zlE (X:Nat->Prop) (p:Plan) (v:Value) (k0:Nat) (s m:Str) (w:World) (hp:lodB p=true) (h:Sl X w 2 (KprC X w) v p.keepers) (hk0:k0<p.keepers.length) (hs:s.size≤maxLen) (_hm:m.size≤maxLen):
  Calls Tryz.prog 38 #[.agg #[v],.int .i64 k0,.string s,.string m] w (Gives (getV (getG p k0 m (zdR p k0 s))) w):=by
 obtain⟨A,cap,rfl,_,_⟩:=h.form
 have hkw:=fun W (hW:Fr No w W)=>h.keep (R':=KprC X W) hW zN (fun _ _ _ h=>h.keep hW zN)
 have HK:=fun W (hW:Fr No w W)=>znj X p _ k0 s W hp (hkw W hW) hk0 hs
 have B0:Bx ((w.alloc (.cells #[.slice A p.keepers.length cap] 25)).alloc (.cells #[.int .i64 0,.string ⟨#[]⟩,.int .i64 0,.int .i64 0,.string ⟨#[]⟩] 53)) w.heap.size 25 #[.slice A p.keepers.length cap]:=bxc
 have B1:Bx ((w.alloc (.cells #[.slice A p.keepers.length cap] 25)).alloc (.cells #[.int .i64 0,.string ⟨#[]⟩,.int .i64 0,.int .i64 0,.string ⟨#[]⟩] 53)) (w.heap.size+1) 53 #[.int .i64 0,.string ⟨#[]⟩,.int .i64 0,.int .i64 0,.string ⟨#[]⟩]:=bxc
 obtain⟨q,hq⟩:∃q,q=zdR p k0 s:=⟨_,rfl⟩
 rw[<-hq] at HK ⊢
 obtain⟨V,hV⟩:∃V,V=getG p k0 m q:=⟨_,rfl⟩
 rw[<-hV]
 obtain⟨⟨rk,rn⟩,c⟩:=q
 unfold refV at HK
 dsimp only at HK
 unfold getG at hV
 dsimp only at hV
 by_cases hc:c=1
 ·subst hc
  rw[if_pos rfl] at hV
  obtain⟨kc,i,hr,hh,hcb,hfk⟩:=zd0 hp hq.symm
  obtain⟨kc2,_,pre,hq2,_,hch⟩:=zmH hp (show(zmD p k0 s).2=1 by rw[hfk])
  have hkk:kc=kc2:=Int.ofNat.inj (Ref.mk.inj (Prod.mk.inj (hfk.symm.trans hq2)).1).1
  subst hkk
  obtain⟨rfl,rfl⟩:=Ref.mk.inj hr
  have HL:=fun W (hW:Fr No w W)=>zhV X p _ kc rn i pre W hp (hkw W hW) hh hs hch
  rw[(zni hfk hh hch).1] at hV
  have hall:=zhf hp hh hch
  have hrs:zhb p pre.reverse:=fun x hx=>hall x (by simpa using hx)
  have hlen:=zhh hch
  have hnd:pre.reverse.Nodup:=zed (zjz hch)
  have hsm:=zeh hp hrs 0
  have hF18:=zjM hp hrs
  have hfa:=fun i (hi:i<(zjB p pre.reverse).length)=>zjG (p:=p) hnd i hi
  have hlh:∀x∈zjB p pre.reverse,∃kq iq:Nat,x.1.keeper=(kq:Int)∧Here p x.1 kq iq∧x.1.name.size≤maxLen:=fun x hx=>by
   obtain⟨h1,_⟩:=zjF hx
   obtain⟨h3,kq,iq,hh⟩:=hrs _ h1
   exact⟨kq,iq,hh.1,hh,h3⟩
  unfold zhU layL at HL
  have hcnt:∀i (hi:i<(zjB p pre.reverse).length),(zbG p ((zjB p pre.reverse)[i]).1).fields[cntF (zjB p pre.reverse) ((zjB p pre.reverse)[i]).1 i]? =some ((zjB p pre.reverse)[i]).2:=fun i hi=>by
   obtain⟨h1,h2,h3⟩:=hfa i hi
   unfold cntF
   rw[h3]
   exact h2
  clear hfa hnd hrs
  generalize zjB p pre.reverse=F at *
  simp only[List.length_reverse] at hF18
  have hFm:F.length≤100:=by omega
  have HNm:=fun W u i hi kq iq qn f hW hu hq hh hn hd=>zhX X No p (.slice A p.keepers.length cap) u F i kq iq qn f W (hkw W hW) hu hi hFm hq hh hn hd
  have hll:=zjJ F 0
  clear hq hr hh hcb hfk hq2 hch hall hlen
  replace hV:=Lib.hid hV
  replace hcnt:=Lib.hid hcnt
  replace hlh:=Lib.hid hlh
  replace hll:=Lib.hid hll
  replace hsm:=Lib.hid hsm
  go_enter Tryz.func38,Tryz.ntmps38
  go_wp2_with (go_at_call 53;refine(HK _ frc).mono ?_;rintro e w1 ⟨rfl,hf1⟩;have q1:Fr No w w1:=frc;have C0:=B0.keep hf1;have C1:=B1.keep hf1;have b0:=C0.c1;have l0:=C0.lt;have l1:=C1.lt)
  refine zdP (fun W=>Bx W w.heap.size 25 #[.slice A p.keepers.length cap]∧Bx W (w.heap.size+1) 53 #[.int .i64 0,.string ⟨#[]⟩,.int .i64 0,.int .i64 0,.string ⟨#[]⟩]∧Fr No w W) ⟨bxc,bxc,frc⟩ ?_
  rintro Wz ⟨hA,hB,hwz⟩
  clear q1 B0 B1 C0 C1 b0 l0 l1 HK hf1
  refine(HL Wz hwz).mono ?_
  rintro e w2 ⟨v2,rfl,hsl,hf2⟩
  obtain⟨A2,c3,rfl,_,_⟩:=hsl.form
  rw[hll.out]
  have q2:Fr No w w2:=hwz.trans0 hf2
  replace hA:=hA.keep hf2
  replace hB:=hB.keep hf2
  clear HL hf2 hwz
  go_wp2_with fail
  go_loopw [13] (fun i wr=>∃j:Nat,j≤F.length∧i=.int .i64 j∧Hid (V=zjN p k0 m j (F.drop j))∧Fr No w2 wr) (fun i _=>F.length-(intOf i).toNat)
  case atStart=>exact⟨0,Nat.zero_le _,rfl,hV,Fr.refl _ _⟩
  case round=>
   clear hV
   obtain⟨j,hj,rfl,hd,hwr⟩:=hrel
   have hw4:Fr No w wr:=q2.trans0 hwr
   have hBr:=hB.keep hwr
   have hAr:=hA.keep hwr
   have aa0:=hAr.c1
   have aal:=hAr.lt
   obtain⟨z0,z1,z2,z3,z4⟩:=hBr.c5
   have zf:=fun j=>hBr.frozen j
   have zl:=hBr.lt
   by_cases hlt:j<F.length
   ·have hd0:=hd.out
    rw[List.drop_eq_getElem_cons hlt,zjN] at hd0
    have hslr:=hsl.keep (R':=zj4) hwr zN (fun _ _ _ h=>h)
    obtain⟨b,off,rfl,_,c0,c1,c2,c4,c5,hsn,hsk⟩:=hslr.lfld (k:=j) (by have:=hll.out;omega)
    rw[zjK _ _ _ hlt] at c0 c1 c2 c4 c5 hsn hsk
    obtain⟨kq,iq,hqk,hhq,hqs⟩:=hlh.out _ (List.getElem_mem hlt)
    have hct:=hcnt.out j hlt
    rw[hll.out] at hslr
    have HN0:=fun W (hW:Fr No wr W) kq iq qn f=>HNm W (.slice (some ⟨b,off,none⟩) F.length c3) j hlt kq iq qn f (hw4.trans0 hW) (hslr.keep (R':=zj4) hW zN (fun _ _ _ h=>h))
    obtain⟨⟨⟨qk,qn⟩,f⟩,hx⟩:∃x,x=F[j]:=⟨_,rfl⟩
    rw[<-hx] at hd0 c0 c1 c2 c4 c5 hsn hsk hqk hhq hqs hct
    dsimp only at *
    subst hqk
    rw[Nat.zero_add] at c2
    have HN:=fun W (hW:Fr No wr W)=>HN0 W hW kq iq qn f hx.symm hhq hqs hct
    have hd2:Hid (V=if f.name.toList == m.toList then (if zmJ p k0 kq f.kind then (⟨⟨kq,qn⟩,j,f.kind⟩,1) else (zd8,4)) else zjN p k0 m (j+1) (F.drop (j+1))):=hd0
    have cl:=lt_of_cell c0
    have hkq:=hhq.2.1
    clear hd hd0 HN0 HNm hslr hcnt hlh hct hx hsl
    by_cases hnm:f.name.toList=m.toList
    ·have HA:=fun W (hW:Fr No wr W)=>zko X p _ k0 kq f.kind W hp (hkw W (hw4.trans0 hW)) hk0 hkq hsk
     have hd3:Hid (V=if zmJ p k0 kq f.kind then (⟨⟨kq,qn⟩,j,f.kind⟩,1) else (zd8,4)):=hd2.out.trans (by rw[if_pos (by simpa using hnm)])
     clear hd2
     generalize zmJ p k0 kq f.kind=ag at *
     replace hnm:=Lib.hid hnm
     have hnb:(f.name.toList == m.toList)=true:=by simpa using hnm.out
     go_wp2_with (go_at_call 65;refine(HN _ (Fr.refl _ _)).mono ?_;rintro e W5 ⟨rfl,hf5⟩)
     replace HA:=fun W (hW:Fr No W5 W)=>HA W (hf5.trans0 hW)
     have KP:=(hAr.keep hf5).r1
     have K0:=fun W (hW:Fr No W5 W)=>(hf5.trans0 hW).keep0 c0
     have K1:=fun W (hW:Fr No W5 W)=>(hf5.trans0 hW).keep0 c4
     have K2:=fun W (hW:Fr No W5 W)=>(hf5.trans0 hW).keep0 c5
     have s5:=hf5.size
     refine zn0 14 54 [mV (.agg #[.slice A p.keepers.length cap]),mV (.int .i64 k0),mV (.slice (some ⟨b,off,none⟩) F.length c3),mV (.int .i64 j),mV (.pointer (some ⟨b,off+j * 5,none⟩)),mV (.pointer (some ⟨b,off+j * 5,none⟩)),mV (.pointer (some ⟨b,off+j * 5,none⟩)),mV (.int .i64 kq),mV (.slice (some ⟨b,off,none⟩) F.length c3),mV (.int .i64 j),mV (.pointer (some ⟨b,off+j * 5,none⟩)),mV (.pointer (some ⟨b,off+j * 5+3,none⟩)),mV (.agg #[.int .i64 f.kind.kind,.string f.kind.name]),mV (.bool ag)] (by kernel_rfl) (by kernel_rfl) (by simp) ?_ ?_
     ·refine hc4 ?_ ?_ ?_ ?_ <| hc4 ?_ ?_ ?_ ?_ <| hc4 ?_ ?_ ?_ ?_ <| hopC ?_ <| hopC ?_ <| hopZ
      all_goals (intro a' W hW hoff hdep;have hbs:=hW.size;have H4:=hoff 4 rfl;have H1:=hoff 1 rfl;have H12:=hoff 12 rfl;have H13:=hoff 13 rfl;refine nE rfl ?_)
      ·exact gx0
      ·simp[execOp,Act.eval,H1,go_sem,zaa];exact fr1 rfl
      ·simp[execOp,Act.eval,H12,go_sem,zaa];exact fr1 rfl
      ·simp[execOp,Act.eval,H13,go_sem,zaa];exact fr1 rfl
      ·have D42:_=_:=hdep 2 42 rfl;have D43:_=_:=hdep 3 43 rfl;clear hoff hdep;simp[execOp,Act.eval,go_sem,zaa, *];exact fr1 rfl
      ·have D44:_=_:=hdep 4 44 rfl;simp[execOp,Act.eval,D44,go_sem,zaa];exact fr1 rfl
      ·have D45:_=_:=hdep 5 45 rfl;simp[execOp,Act.eval,D45,go_sem,zaa];exact fr1 rfl
      ·have D46:_=_:=hdep 6 46 rfl;clear hoff hdep;simp[execOp,Act.eval,go_sem,zaa, *];exact fr1 rfl
      ·simp[execOp,Act.eval,H12,go_sem,zaa];exact fr1 rfl
      ·simp[execOp,Act.eval,H13,go_sem,zaa];exact fr1 rfl
      ·have D48:_=_:=hdep 8 48 rfl;have D49:_=_:=hdep 9 49 rfl;clear hoff hdep;simp[execOp,Act.eval,go_sem,zaa, *];exact fr1 rfl
      ·have D50:_=_:=hdep 10 50 rfl;simp[execOp,Act.eval,D50,go_sem,zaa];exact fr1 rfl
      ·have D51:_=_:=hdep 11 51 rfl;clear hoff hdep;simp[execOp,Act.eval,go_sem,zaa, *];exact fr1 rfl
      ·have D40:_=_:=hdep 0 40 rfl;have D41:_=_:=hdep 1 41 rfl;have D47:_=_:=hdep 7 47 rfl;have D52:_=_:=hdep 12 52 rfl;simp[Act.eval,D40,D41,D47,D52,go_sem,zaa];exact(HA _ hW).mono fun e w' h=>⟨_,h.1,h.2,rfl⟩
     intro vs WR hWR hv hne
     simp only[lz6,List.drop_zero,znK,znR,Nat.zero_add,Nat.reduceAdd]
     simp only[Act.put,lz0,lz1,lz2]
     clear hv
     have hB6:=(hBr.keep hf5).keep hWR
     have hw6:=(hw4.trans0 hf5).trans0 hWR
     have e0:=K0 WR hWR
     have e1:=(hf5.trans0 hWR).keep0 c1
     have e2:=(hf5.trans0 hWR).keep0 c2
     have e4:=K1 WR hWR
     have e5:=K2 WR hWR
     clear z0 z1 z2 z3 z4 zf zl K0 K1 K2 KP HA c0 c1 c2 c4 c5 aa0 aal
     have hB6s:=hB6
     obtain⟨z0,z1,z2,z3,z4⟩:=hB6.c5
     have zf:=fun j=>hB6s.frozen j
     have zl:=hB6s.lt
     have hsR:=hWR.size
     clear hB6
     cases ag
     ·go_wp2
      refine bodyPost_ret (v:=.tuple #[.agg #[.int .i64 0,.string ⟨#[]⟩,.int .i64 0,.int .i64 0,.string ⟨#[]⟩],.int .i64 4]) (by simp[results,Tryz.results38,go_sem, *]) rfl ?_
      exact .mk1 (by rw[hd3.out];rfl) (zeb hw6 (by omega))
     ·go_wp2
      refine bodyPost_ret (v:=.tuple #[.agg #[.int .i64 kq,.string qn,.int .i64 j,.int .i64 f.kind.kind,.string f.kind.name],.int .i64 1]) (by simp[results,Tryz.results38,go_sem, *]) rfl ?_
      exact .mk1 (by rw[hd3.out];rfl) (zeb hw6 (by omega))
    ·have hd3:Hid (V=zjN p k0 m (j+1) (F.drop (j+1))):=hd2.out.trans (by rw[if_neg (by simpa using hnm)])
     clear hd2
     have hnb:(f.name.toList == m.toList)=false:=by simpa using hnm
     go_wp2_with (go_at_call 65;refine(HN _ (Fr.refl _ _)).mono ?_;rintro e W5 ⟨rfl,hf5⟩)
     go_roundw
     case rel=>exact⟨j+1,by omega,by go_num,hd3,hwr.trans0 hf5⟩
     case measure=>simp[intOf];omega
   ·have HS:Hid (V=(zd8,3)):=hd.out.trans (by rw[List.drop_of_length_le (by omega)];rfl)
    clear hd hcnt hlh hsm hsl HNm
    go_wp2
    refine bodyPost_ret (v:=.tuple #[.agg #[.int .i64 0,.string ⟨#[]⟩,.int .i64 0,.int .i64 0,.string ⟨#[]⟩],.int .i64 3]) (by simp[results,Tryz.results38,go_sem, *]) rfl ?_
    exact .mk1 (by rw[HS.out];rfl) (zeb hw4 (by omega))
 ·rw[if_neg hc] at hV
  subst hV
  have hc':((c:Int) != 1)=true:=by simpa using hc
  unfold getV lfV zd8
  clear hq
  go_enter Tryz.func38,Tryz.ntmps38
  go_wp2_with (go_at_call 53;refine(HK _ frc).mono ?_;rintro e w1 ⟨rfl,hf1⟩;have q1:Fr No w w1:=frc;have C1:=B1.keep hf1;have ⟨z0,z1,z2,z3,z4⟩:=C1.c5;have zf:=(fun j=>C1.frozen j);have zl:=C1.lt)
  refine bodyPost_ret (v:=.tuple #[.agg #[.int .i64 0,.string ⟨#[]⟩,.int .i64 0,.int .i64 0,.string ⟨#[]⟩],.int .i64 c]) (by simp[results,Tryz.results38,go_sem, *]) rfl ?_
  exact .mk1 rfl frc
theorem zvz (X:Nat->Prop) (p:Plan) (v:Value) (k:Int) (s m:Str) (w:World) (h:Sl X w 2 (KprC X w) v p.keepers) (hs:s.size≤maxLen) (hm:m.size≤maxLen):
  Calls Tryz.prog 15 #[.agg #[v],.int .i64 k,.string s,.string m] w (Gives (getV (getS p k s m)) w):=by
 obtain⟨A,cap,rfl,_,hlen⟩:=h.form
 unfold maxLen at hlen
 have hkw:=fun W (hW:Fr No w W)=>h.keep (R':=KprC X W) hW zN (fun _ _ _ h=>h.keep hW zN)
 have HK:=fun W (hW:Fr No w W)=>zaP X p _ W (hkw W hW)
 have HN:=fun W=>zlv s W hs
 have HM:=fun W=>zlv m W hm
 have HL:=fun W=>zlz k 0 ((p.keepers.length:Int)-1) W
 have wl:IntKind.i64.wrap ((p.keepers.length:Int)-1)=(p.keepers.length:Int)-1:=IntWalk.i64_in _ (by omega)
 have hhk:(decide (0≤k)&&decide (k≤(p.keepers.length:Int)-1))=hasK p k:=by unfold hasK;rw[Bool.eq_iff_iff];simp;omega
 rw[hhk] at HL
 have B0:Bx ((w.alloc (.cells #[.slice A p.keepers.length cap] 25)).alloc (.cells #[.int .i64 0,.string ⟨#[]⟩,.int .i64 0,.int .i64 0,.string ⟨#[]⟩] 53)) w.heap.size 25 #[.slice A p.keepers.length cap]:=bxc
 have B1:Bx ((w.alloc (.cells #[.slice A p.keepers.length cap] 25)).alloc (.cells #[.int .i64 0,.string ⟨#[]⟩,.int .i64 0,.int .i64 0,.string ⟨#[]⟩] 53)) (w.heap.size+1) 53 #[.int .i64 0,.string ⟨#[]⟩,.int .i64 0,.int .i64 0,.string ⟨#[]⟩]:=bxc
 have hno:zdS p k s m=(zbH,2)->getS p k s m=(zd8,2):=fun hl=>by
  unfold getS
  split
  ·unfold getB
   rw[hl]
   rfl
  ·rfl
 cases hp:lodB p
 ·have HV:Hid (getS p k s m=(zd8,2)):=by
   show getS p k s m=_
   unfold getS
   rw[hp]
   rfl
  rw[hp] at HK
  clear hp hno
  generalize getS p k s m=V at *
  unfold getV lfV
  clear h hkw hhk
  go_enter Tryz.func15,Tryz.ntmps15
  go_wp2_with (first
   | (go_at_call 28;refine(HK _ frc).mono ?_;rintro e w1 ⟨rfl,hf1⟩;have C0:=B0.keep hf1;have C1:=B1.keep hf1;have b0:=C0.c1;have l0:=C0.lt;have ⟨z0,z1,z2,z3,z4⟩:=C1.c5;have zf:=(fun j=>C1.frozen j);have zl:=C1.lt)
   | (go_at_call 29;refine(HL _).mono ?_;rintro e w2 ⟨rfl,rfl⟩)
   | (go_at_call_of 30 (Value.string s);refine(HN _).mono ?_;rintro e w2 ⟨rfl,rfl⟩)
   | (go_at_call_of 30 (Value.string m);refine(HM _).mono ?_;rintro e w2 ⟨rfl,rfl⟩))
  refine bodyPost_ret (v:=.tuple #[.agg #[.int .i64 0,.string ⟨#[]⟩,.int .i64 0,.int .i64 0,.string ⟨#[]⟩],.int .i64 2]) (by simp[results,Tryz.results15,go_sem, *]) rfl ?_
  exact .mk1 (by rw[HV.out];rfl) frc
 rw[hp] at HK
 cases hk:hasK p k
 ·have HV:Hid (getS p k s m=(zd8,2)):=by
   refine hno ?_
   unfold zdS
   rw[zdT (zg9 hk)]
   cases namB m<;>rfl
  rw[hk] at HL
  clear hp hk hno
  generalize getS p k s m=V at *
  unfold getV lfV
  clear h hkw hhk
  go_enter Tryz.func15,Tryz.ntmps15
  go_wp2_with (first
   | (go_at_call 28;refine(HK _ frc).mono ?_;rintro e w1 ⟨rfl,hf1⟩;have C0:=B0.keep hf1;have C1:=B1.keep hf1;have b0:=C0.c1;have l0:=C0.lt;have ⟨z0,z1,z2,z3,z4⟩:=C1.c5;have zf:=(fun j=>C1.frozen j);have zl:=C1.lt)
   | (go_at_call 29;refine(HL _).mono ?_;rintro e w2 ⟨rfl,rfl⟩)
   | (go_at_call_of 30 (Value.string s);refine(HN _).mono ?_;rintro e w2 ⟨rfl,rfl⟩)
   | (go_at_call_of 30 (Value.string m);refine(HM _).mono ?_;rintro e w2 ⟨rfl,rfl⟩))
  refine bodyPost_ret (v:=.tuple #[.agg #[.int .i64 0,.string ⟨#[]⟩,.int .i64 0,.int .i64 0,.string ⟨#[]⟩],.int .i64 2]) (by simp[results,Tryz.results15,go_sem, *]) rfl ?_
  exact .mk1 (by rw[HV.out];rfl) frc
 rw[hk] at HL
 cases hns:namB s
 ·have HV:Hid (getS p k s m=(zd8,2)):=by
   refine hno ?_
   unfold zdS
   rw[zdT (zg8 hp hns)]
   cases namB m<;>rfl
  rw[hns] at HN
  clear hp hk hns hno
  generalize getS p k s m=V at *
  unfold getV lfV
  clear h hkw hhk
  go_enter Tryz.func15,Tryz.ntmps15
  go_wp2_with (first
   | (go_at_call 28;refine(HK _ frc).mono ?_;rintro e w1 ⟨rfl,hf1⟩;have C0:=B0.keep hf1;have C1:=B1.keep hf1;have b0:=C0.c1;have l0:=C0.lt;have ⟨z0,z1,z2,z3,z4⟩:=C1.c5;have zf:=(fun j=>C1.frozen j);have zl:=C1.lt)
   | (go_at_call 29;refine(HL _).mono ?_;rintro e w2 ⟨rfl,rfl⟩)
   | (go_at_call_of 30 (Value.string s);refine(HN _).mono ?_;rintro e w2 ⟨rfl,rfl⟩)
   | (go_at_call_of 30 (Value.string m);refine(HM _).mono ?_;rintro e w2 ⟨rfl,rfl⟩))
  refine bodyPost_ret (v:=.tuple #[.agg #[.int .i64 0,.string ⟨#[]⟩,.int .i64 0,.int .i64 0,.string ⟨#[]⟩],.int .i64 2]) (by simp[results,Tryz.results15,go_sem, *]) rfl ?_
  exact .mk1 (by rw[HV.out];rfl) frc
 rw[hns] at HN
 cases hnm:namB m
 ·have HV:Hid (getS p k s m=(zd8,2)):=by
   refine hno ?_
   unfold zdS
   rw[hnm]
   rfl
  rw[hnm] at HM
  clear hp hk hns hnm hno
  generalize getS p k s m=V at *
  unfold getV lfV
  clear h hkw hhk
  go_enter Tryz.func15,Tryz.ntmps15
  go_wp2_with (first
   | (go_at_call 28;refine(HK _ frc).mono ?_;rintro e w1 ⟨rfl,hf1⟩;have C0:=B0.keep hf1;have C1:=B1.keep hf1;have b0:=C0.c1;have l0:=C0.lt;have ⟨z0,z1,z2,z3,z4⟩:=C1.c5;have zf:=(fun j=>C1.frozen j);have zl:=C1.lt)
   | (go_at_call 29;refine(HL _).mono ?_;rintro e w2 ⟨rfl,rfl⟩)
   | (go_at_call_of 30 (Value.string s);refine(HN _).mono ?_;rintro e w2 ⟨rfl,rfl⟩)
   | (go_at_call_of 30 (Value.string m);refine(HM _).mono ?_;rintro e w2 ⟨rfl,rfl⟩))
  refine bodyPost_ret (v:=.tuple #[.agg #[.int .i64 0,.string ⟨#[]⟩,.int .i64 0,.int .i64 0,.string ⟨#[]⟩],.int .i64 2]) (by simp[results,Tryz.results15,go_sem, *]) rfl ?_
  exact .mk1 (by rw[HV.out];rfl) frc
 rw[hnm] at HM
 ·have hV:getS p k s m=getG p k m (zdR p k s):=by
   unfold getS getB zdS
   rw[hp,if_pos rfl,hnm,if_pos rfl]
  unfold hasK at hk
  rw[lz5,decide_eq_true_eq,decide_eq_true_eq] at hk
  obtain⟨k,rfl⟩:=Int.eq_ofNat_of_zero_le hk.1
  have HF:=fun W (hW:Fr No w W)=>zlE X p _ k s m W hp (hkw W hW) (by omega) hs hm
  rw[<-hV] at HF
  clear hV h hkw hhk hp hk hns hnm hno
  generalize getS p k s m=V at *
  obtain⟨⟨⟨uk,un⟩,ui,⟨ud,us⟩⟩,uc⟩:=V
  unfold getV lfV at HF ⊢
  dsimp only at HF ⊢
  go_enter Tryz.func15,Tryz.ntmps15
  go_wp2_with (first
   | (go_at_call 28;refine(HK _ frc).mono ?_;rintro e w1 ⟨rfl,hf1⟩;have C0:=B0.keep hf1;have C1:=B1.keep hf1;have b0:=C0.c1;have l0:=C0.lt;have l1:=C1.lt)
   | (go_at_call 29;refine(HL _).mono ?_;rintro e w2 ⟨rfl,rfl⟩)
   | (go_at_call_of 30 (Value.string s);refine(HN _).mono ?_;rintro e w2 ⟨rfl,rfl⟩)
   | (go_at_call_of 30 (Value.string m);refine(HM _).mono ?_;rintro e w2 ⟨rfl,rfl⟩)
   | (go_at_call 38;refine(HF _ frc).mono ?_;rintro e w2 ⟨rfl,hf2⟩;have D1:=C1.keep hf2;have ⟨z0,z1,z2,z3,z4⟩:=D1.c5;have zf:=(fun j=>D1.frozen j);have zl:=D1.lt))
  refine bodyPost_ret (v:=.tuple #[.agg #[.int .i64 uk,.string un,.int .i64 ui,.int .i64 ud,.string us],.int .i64 uc]) (by simp[results,Tryz.results15,go_sem, *]) rfl ?_
  exact .mk1 rfl frc
end Go.Proofs.YtbfmeklfpackjaaGreatDoor
