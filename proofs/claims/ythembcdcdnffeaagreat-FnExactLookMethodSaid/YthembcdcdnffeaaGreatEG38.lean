/- The program's get: the walk. -/
import Derived.Test.YthembcdcdnffeaaGreatEG37
set_option maxHeartbeats 8000000
set_option maxRecDepth 100000
namespace Go.Proofs.YthembcdcdnffeaaGreat
open Go.RowKit
theorem zlm (l bl n:Nat) (p:Plan) (k:Int) (s m:Str) (w:World) (h:Lg w l bl n p) (hs:s.size≤maxLen) (hm:m.size≤maxLen) (hn:n<999999):
  Calls Tryz.prog 177 #[.pointer (some ⟨l,0,none⟩),.int .i64 k,.string s,.string m] w (zd9 (getB p k s m) p l bl n w):=by
 have hp:=h.ok
 have hlt:=h.lt
 have h0:=h
 have B0:Bx (w.alloc (.cells #[.int .i64 0,.string ⟨#[]⟩,.int .i64 0,.int .i64 0,.string ⟨#[]⟩] 178)) w.heap.size 178 #[.int .i64 0,.string ⟨#[]⟩,.int .i64 0,.int .i64 0,.string ⟨#[]⟩]:=bxc
 have HK:=fun W (hW:Fr No w W)=>zdX l bl n p k s m W (h.keep hW) hs hm (by omega)
 obtain⟨q,hq⟩:∃q,q=zdS p k s m:=⟨_,rfl⟩
 have hV:getB p k s m=getG p k m q:=by unfold getB;rw[hq]
 rw[<-hq] at HK
 generalize getB p k s m=V at *
 obtain⟨⟨rk,rn⟩,c⟩:=q
 unfold zdU at HK
 dsimp only at HK
 clear h
 by_cases hc:c=1
 ·subst hc
  obtain⟨kc,i,hr,hh⟩:=zd1 hp hq.symm
  have hcan:=zeg hp hq.symm
  obtain⟨rfl,rfl⟩:=Ref.mk.inj hr
  have h3:=zbM hp
  have hkl:=hh.2.1
  have wk:=zdW (show kc<4 by omega)
  have HP:=fun W (hW:Lg W l bl (n+1) p)=>zkl l bl (n+1) p ⟨(kc:Int),rn⟩ W hW hs wk (by omega)
  unfold zkk at HP
  have hLB:layB p ⟨(kc:Int),rn⟩=zjH 0 (zjB p (zmF p ⟨(kc:Int),rn⟩).reverse):=by unfold layB;rw[if_pos hcan];rfl
  rw[hLB] at HP
  unfold getG at hV
  dsimp only at hV
  rw[if_pos rfl] at hV
  have hall:=zhj hp ⟨(kc:Int),rn⟩
  have hnd:(zmF p ⟨(kc:Int),rn⟩).reverse.Nodup:=zed (zjA hp _)
  have hlen:=zhk hp ⟨(kc:Int),rn⟩
  have HFF:=fun(g:Int->Str->Option Int) (q:Ref) W (hW:zgF W l bl (n+2) p g) (hq:q.name.size≤maxLen)=>zkn l bl (n+2) p g q ⟨(kc:Int),rn⟩ W hW hs hq
  generalize zmF p ⟨(kc:Int),rn⟩=xs at *
  replace hV:=Lib.hid hV
  clear hq hr hh h3 hkl wk hLB hcan
  go_enter Tryz.func177,Tryz.ntmps177
  go_wp2_with (go_at_call 178;refine(HK _ frc).mono ?_;rintro e w1 ⟨ev,rfl,he,hf1,hL1⟩;obtain rfl:=he.nil;clear he)
  have hw1:Fr (fun b=>b=bl) w w1:=(show Fr No w (w.alloc (.cells #[.int .i64 0,.string ⟨#[]⟩,.int .i64 0,.int .i64 0,.string ⟨#[]⟩] 178)) from frc).of0.same hf1
  have B1:=B0.keepX hf1 (by omega)
  have l1:=B1.lt
  clear HK B0
  go_wp2_with fail
  refine zdP (fun W=>Bx W w.heap.size 178 #[.int .i64 0,.string ⟨#[]⟩,.int .i64 0,.int .i64 0,.string ⟨#[]⟩]∧Bx W w1.heap.size 34 #[.int .i64 kc,.string rn]∧Fr No w1 W) ⟨bxc,bxc,frc⟩ ?_
  rintro Wz ⟨hB,hR,hwz⟩
  have sB:=hB.lt
  have sR:=hR.lt
  refine(HP Wz (hL1.keep hwz)).mono ?_
  rintro e w2 ⟨v2,rfl,hrow,hf2,hL2⟩
  have hw2:Fr (fun b=>b=bl) w w2:=(hw1.trans0 hwz).same hf2
  have hB2:=hB.keepX hf2 (by omega)
  have hR2:=hR.keepX hf2 (by have:=hlt;have:=hw1.size;omega)
  obtain⟨g2,hLo2,hg2⟩:=hL2
  have hrs:zhb p xs.reverse:=fun x hx=>hall x (by simpa using hx)
  have hsl:=zdO hrow (zeh hp hrs 0)
  have hF18:=zjM hp hrs
  have hfa:=fun i (hi:i<(zjB p xs.reverse).length)=>zjG (p:=p) hnd i hi
  obtain⟨A2,c2,rfl,_,_⟩:=hsl.form
  have hll:=zjJ (zjB p xs.reverse) 0
  have hlg:∀i (hi:i<(zjB p xs.reverse).length) (h2:i<(zjH 0 (zjB p xs.reverse)).length),(zjH 0 (zjB p xs.reverse))[i]=⟨(zjB p xs.reverse)[i].1,((0+i:Nat):Int),(zjB p xs.reverse)[i].2.kind⟩:=fun i hi _=>zjK (zjB p xs.reverse) 0 i hi
  have hlh:∀x∈zjB p xs.reverse,∃kq iq:Nat,x.1.keeper=(kq:Int)∧Here p x.1 kq iq∧x.1.name.size≤maxLen:=fun x hx=>by
   obtain⟨h1,_⟩:=zjF hx
   obtain⟨h3,kq,iq,hh⟩:=hrs _ h1
   exact⟨kq,iq,hh.1,hh,h3⟩
  generalize zjH 0 (zjB p xs.reverse)=L at *
  generalize zjB p xs.reverse=F at *
  simp only[List.length_reverse] at hF18
  clear hrow hf1 hf2 hwz HP hB hR B1 hall hnd hrs hL1
  have hLm:L.length≤100:=by omega
  replace hlg:=Lib.hid hlg
  replace hfa:=Lib.hid hfa
  replace hlh:=Lib.hid hlh
  replace HFF:=Lib.hid HFF
  replace hll:=Lib.hid hll
  have hFm:F.length≤100:=by omega
  replace hF18:=Lib.hid hF18
  go_wp2_with fail
  go_loopw [31] (fun i wr=>∃j:Nat,j≤L.length∧i=.int .i64 j∧Hid (V=zjN p k m j (F.drop j))∧Fr No w2 wr) (fun i _=>L.length-(intOf i).toNat)
  case atStart=>exact⟨0,Nat.zero_le _,rfl,hV,Fr.refl _ _⟩
  case round=>
   clear hV
   obtain⟨j,hj,rfl,hd,hwr⟩:=hrel
   by_cases hlt2':j<L.length
   ·have hjl:=hlt2'
    have hlt2:j<F.length:=by have:=hll.out;omega
    obtain⟨b,off,rfl,_,c0,c1,c2,c3,c4,hsn,hsk⟩:=(hsl.keep (R':=zj4) hwr zN (fun _ _ _ h=>h)).lfld hjl
    rw[hlg.out j hlt2 hjl] at c0 c1 c2 c3 c4 hsn hsk
    rw[List.drop_eq_getElem_cons hlt2,zjN] at hd
    obtain⟨fa1,fa2,_⟩:=hfa.out j hlt2
    obtain⟨kq,iq,hqk,hhq,hqs⟩:=hlh.out _ (List.getElem_mem hlt2)
    have hd:=Lib.hid hd
    have cl:=lt_of_cell c0
    clear hsl hlg hfa hlh
    generalize F[j]=x at *
    obtain⟨⟨qk,qn⟩,f⟩:=x
    dsimp only at *
    subst hqk
    rw[Nat.zero_add] at c2
    generalize hfl:zjE p xs.reverse ⟨(kq:Int),qn⟩=fo at *
    have hB3:=hB2.keep hwr
    have hR3:=hR2.keep hwr
    obtain⟨r0,r1⟩:=hR3.c2
    have rl:=hR3.lt
    go_wp2_with fail
    refine zdP (fun W=>Bx W wr.heap.size 178 #[.int .i64 kq,.string qn,.int .i64 j,.int .i64 f.kind.kind,.string f.kind.name]∧Fr No wr W) ⟨bxc,frc⟩ ?_
    rintro W4 ⟨hF4,hf4⟩
    have hf4R:=hf4
    refine(HFF.out g2 ⟨kq,qn⟩ W4 (hLo2.keep (hwr.trans0 hf4)) hqs).mono ?_
    rintro e w5 ⟨rfl,hf5⟩
    have hf5R:=hf5
    rw[hfl]
    have hF5:=hF4.keep hf5
    have hw5:Fr No w2 w5:=(hwr.trans0 hf4).trans0 hf5
    obtain⟨Af,cf,Am,cm,hCR,HCl⟩:=zjq (hLo2.keep hw5) hhq hqs
    have hflds:Sl (fun b=>b=bl) w5 3 FldC (.slice Af (zbG p ⟨kq,qn⟩).fields.length cf) (zbG p ⟨kq,qn⟩).fields:=by obtain⟨_,_,he,_,_,h,_⟩:=hCR;cases he;exact h
    have hbi:=(List.getElem?_eq_some_iff.1 fa2)
    obtain⟨hbi1,hbi2⟩:=hbi
    obtain⟨bf,of,rfl,_,g0,_,_,hgn,_⟩:=hflds.fld hbi1
    rw[hbi2] at g0 hgn
    have gl:=lt_of_cell g0
    have KG:=kp g0
    have KF:=hF5.r5
    have hsub:IntKind.i64.wrap ((j:Int)-(fo:Int))=((j-fo:Nat):Int):=(IntWalk.i64_in _ (by omega)).trans (by omega)
    have hfm:=zjL (Here.clsB hp hhq)
    have hd2:Hid (V=if f.name.toList == m.toList then (if zmJ p k kq f.kind then (⟨⟨kq,qn⟩,j,f.kind⟩,1) else (zd8,4)) else zjN p k m (j+1) (F.drop (j+1))):=hd.out.out
    clear hd c0 c1 c2 c3 c4 cl r0 r1 rl hF4 hf4 hf5 hCR hflds hbi2 fa2 g0
    clear hgn
    go_wp2_with fail
    refine zn0 13 53 [mV (.pointer (some ⟨l,0,none⟩)),mV (.pointer (some ⟨wr.heap.size,0,none⟩)),mV (.agg #[.int .i64 kq,.string qn]),mV (.agg #[.string (zbG p ⟨kq,qn⟩).name,.string (zbG p ⟨kq,qn⟩).super,.slice (some ⟨bf,of,none⟩) (zbG p ⟨kq,qn⟩).fields.length cf,.slice Am (zbG p ⟨kq,qn⟩).methods.length cm]),mV (.slice (some ⟨bf,of,none⟩) (zbG p ⟨kq,qn⟩).fields.length cf),mV (.pointer (some ⟨wr.heap.size,2,none⟩)),mV (.int .i64 j),mV (.int .i64 fo),mV (.int .i64 ((j-fo:Nat):Int)),mV (.pointer (some ⟨bf,of+(j-fo) * 3,none⟩)),mV (.pointer (some ⟨bf,of+(j-fo) * 3,none⟩)),mV (.string f.name),mV (.string m)] (by kernel_rfl) (by kernel_rfl) (by simp) ?_ ?_
    ·refine hc4 ?_ ?_ ?_ ?_ <| hc4 ?_ ?_ ?_ ?_ <| hc4 ?_ ?_ ?_ ?_ <| hopC ?_ <| hopZ
     all_goals (intro a' W hW hoff hdep;have hbs:=hW.size;have H0:=hoff 0 rfl;have H13:=hoff 13 rfl;have H14:=hoff 14 rfl;have H3:=hoff 3 rfl;refine nE rfl ?_)
     ·simp[execOp,Act.eval,H0,go_sem,zaa];exact fr1 rfl
     ·simp[execOp,Act.eval,H13,go_sem,zaa];exact fr1 rfl
     ·have D41:_=_:=hdep 1 41 rfl;clear hoff hdep;simp[execOp,Act.eval,go_sem,zaa, *];exact fr1 rfl
     ·have D40:_=_:=hdep 0 40 rfl;have D42:_=_:=hdep 2 42 rfl;simp[Act.eval,D40,D42,go_sem,zaa];exact(HCl _ hW).mono fun e w' h=>⟨_,h.1,h.2,rfl⟩
     ·have D43:_=_:=hdep 3 43 rfl;simp[execOp,Act.eval,D43,go_sem,zaa];exact fr1 rfl
     ·simp[execOp,Act.eval,H13,go_sem,zaa];exact fr1 rfl
     ·have D45:_=_:=hdep 5 45 rfl;clear hoff hdep;simp[execOp,Act.eval,go_sem,zaa, *];exact fr1 rfl
     ·simp[execOp,Act.eval,H14,go_sem,zaa];exact fr1 rfl
     ·have D46:_=_:=hdep 6 46 rfl;have D47:_=_:=hdep 7 47 rfl;simp[execOp,Act.eval,D46,D47,go_sem,zaa];exact⟨Fr.refl _ _,by show Value.int _ _=_;rw[hsub]⟩
     ·have D44:_=_:=hdep 4 44 rfl;have D48:_=_:=hdep 8 48 rfl;clear hoff hdep;simp[execOp,Act.eval,go_sem,zaa, *];exact fr1 rfl
     ·have D49:_=_:=hdep 9 49 rfl;simp[execOp,Act.eval,D49,go_sem,zaa];exact fr1 rfl
     ·have D50:_=_:=hdep 10 50 rfl;clear hoff hdep;simp[execOp,Act.eval,go_sem,zaa, *];exact fr1 rfl
     ·simp[execOp,Act.eval,H3,go_sem,zaa];exact fr1 rfl
    intro vs WR hWR hv hne
    simp only[lz6,List.drop_zero,znK,znR,Nat.zero_add,Nat.reduceAdd]
    simp only[Act.put,lz0,lz1,lz2]
    clear hv
    have hF6:=hF5.keep hWR
    have hB6:=hB3.keep ((hf4R.trans0 hf5R).trans0 hWR)
    have hw6:Fr No w2 WR:=hw5.trans0 hWR
    obtain⟨y0,y1,y2,y3,y4⟩:=hF6.c5
    have yl:=hF6.lt
    clear KG KF HCl hsub
    by_cases hnm:f.name.toList=m.toList
    ·have HA:=fun W (hW:Fr No WR W)=>zmK l bl (n+2) p g2 k kq f.kind W ((hLo2.keep hw6).keep hW) (by have:=hsk;exact this)
     have hd3:Hid (V=if zmJ p k kq f.kind then (⟨⟨kq,qn⟩,j,f.kind⟩,1) else (zd8,4)):=hd2.out.trans (by rw[if_pos (by simpa using hnm)])
     clear hd2
     generalize zmJ p k kq f.kind=ag at *
     replace hnm:=Lib.hid hnm
     have hnb:(f.name.toList == m.toList)=true:=by simpa using hnm.out
     cases ag
     ·go_wp2_with (go_at_call 192;refine(HA _ (Fr.refl _ _)).mono ?_;rintro e w7 ⟨rfl,hf7⟩;have hF7:=hF6.keep hf7;have hB7:=hB6.keep hf7;have ⟨z0,z1,z2,z3,z4⟩:=hB7.c5;have zf:=(fun j=>hB7.frozen j);have zl:=hB7.lt;have ⟨x0,x1,x2,x3,x4⟩:=hF7.c5;have xl:=hF7.lt;clear y0 y1 y2 y3 y4 yl)
      refine bodyPost_ret (v:=.tuple #[.agg #[.int .i64 0,.string ⟨#[]⟩,.int .i64 0,.int .i64 0,.string ⟨#[]⟩],.iface 243 (.pointer (some ⟨w7.heap.size,0,none⟩))]) (by simp[results,Tryz.results177,go_sem, *]) rfl ?_
      exact .mk (hd3.out.trans (if_neg Bool.false_ne_true)) rfl (.mk (by decide) bx5) (set5 ((hw2.trans0 hw6).trans0 hf7) (Nat.le_refl _)) (h0.over ⟨g2,hLo2.keep (hw6.trans0 hf7),hg2⟩ ((hw2.trans0 hw6).trans0 hf7) (zea (Fr.refl _ _) (Nat.le_refl _)))
     ·go_wp2_with (go_at_call 192;refine(HA _ (Fr.refl _ _)).mono ?_;rintro e w7 ⟨rfl,hf7⟩;have hF7:=hF6.keep hf7;have hB7:=hB6.keep hf7;have ⟨z0,z1,z2,z3,z4⟩:=hB7.c5;have zf:=(fun j=>hB7.frozen j);have zl:=hB7.lt;have ⟨x0,x1,x2,x3,x4⟩:=hF7.c5;have xl:=hF7.lt;clear y0 y1 y2 y3 y4 yl)
      refine bodyPost_ret (v:=.tuple #[.agg #[.int .i64 kq,.string qn,.int .i64 j,.int .i64 f.kind.kind,.string f.kind.name],.nilIface]) (by simp[results,Tryz.results177,go_sem, *]) rfl ?_
      exact .mk (hd3.out.trans (if_pos trivial)) rfl (.inl ⟨rfl,rfl⟩) (zeb ((hw2.trans0 hw6).trans0 hf7) (Nat.le_refl _)) (h0.over ⟨g2,hLo2.keep (hw6.trans0 hf7),hg2⟩ ((hw2.trans0 hw6).trans0 hf7) (zec (Fr.refl _ _) (Nat.le_refl _)))
    ·have hd3:Hid (V=zjN p k m (j+1) (F.drop (j+1))):=hd2.out.trans (by rw[if_neg (by simpa using hnm)])
     clear hd2
     have hnb:(f.name.toList == m.toList)=false:=by simpa using hnm
     have hnb2:(f.name.toList != m.toList)=true:=by simpa using hnm
     go_wp2
     go_roundw
     case rel=>exact⟨j+1,by omega,by go_num,hd3,hw6⟩
     case measure=>simp[intOf];omega
   ·have HS:Hid (V=(zd8,3)):=hd.out.trans (by rw[List.drop_of_length_le (by have:=hll.out;omega)];rfl)
    have hBr:=hB2.keep hwr
    obtain⟨z0,z1,z2,z3,z4⟩:=hBr.c5
    have zf:=fun j=>hBr.frozen j
    have zl:=hBr.lt
    clear hd hsl hB2 hR2 hfa hlg hlh HFF
    go_wp2
    refine bodyPost_ret (v:=.tuple #[.agg #[.int .i64 0,.string ⟨#[]⟩,.int .i64 0,.int .i64 0,.string ⟨#[]⟩],.iface 243 (.pointer (some ⟨wr.heap.size,0,none⟩))]) (by simp[results,Tryz.results177,go_sem, *]) rfl ?_
    exact .mk HS.out rfl (.mk (by decide) bx5) (set5 (hw2.trans0 hwr) (Nat.le_refl _)) (h0.over ⟨g2,hLo2.keep hwr,hg2⟩ (hw2.trans0 hwr) (zea (Fr.refl _ _) (Nat.le_refl _)))
 ·unfold getG at hV
  dsimp only at hV
  rw[if_neg hc] at hV
  replace hV:=Lib.hid hV
  go_enter Tryz.func177,Tryz.ntmps177
  go_wp2_with (go_at_call 178;refine(HK _ frc).mono ?_;rintro e w1 ⟨ev,rfl,he,hf1,hL1⟩;obtain⟨eb,rfl,heb⟩:=he.some hc;clear he;have hw1:Fr (fun b=>b=bl) w w1:=(show Fr No w (w.alloc (.cells #[.int .i64 0,.string ⟨#[]⟩,.int .i64 0,.int .i64 0,.string ⟨#[]⟩] 178)) from frc).of0.same hf1;have B1:=B0.keepX hf1 (by omega);have ⟨z0,z1,z2,z3,z4⟩:=B1.c5;have zf:=(fun j=>B1.frozen j);have zl:=B1.lt)
  have hne:eb≠w.heap.size:=by
   intro h9
   rw[h9] at heb
   unfold Bx at heb B1
   rw[heb] at B1
   simp at B1
  clear HK B0
  refine bodyPost_ret (v:=.tuple #[.agg #[.int .i64 0,.string ⟨#[]⟩,.int .i64 0,.int .i64 0,.string ⟨#[]⟩],.iface 243 (.pointer (some ⟨eb,0,none⟩))]) (by simp[results,Tryz.results177,go_sem, *]) rfl ?_
  exact .mk hV.out rfl (.inr ⟨hc,eb,rfl,bxc⟩) frc ((h0.over hL1 hw1 frx).mono (by omega))
theorem zln {p:Plan} {k:Int} {m:Str}:∀(F:List (Ref×Fld)) (i:Nat),(∀x∈F,x.1.name.size≤maxLen∧x.2.kind.name.size≤maxLen)->(zjN p k m i F).1.of_.name.size≤maxLen∧(zjN p k m i F).1.kind.name.size≤maxLen
 | [],_,_=>⟨Nat.zero_le _,Nat.zero_le _⟩
 | x :: xs,i,h=>by
  rw[zjN]
  split
  ·split
   ·exact h x (by simp)
   ·exact⟨Nat.zero_le _,Nat.zero_le _⟩
  ·exact zln xs (i+1) (fun y hy=>h y (by simp[hy]))
theorem zlo {p:Plan} (hp:lodB p=true) (k:Int) (s m:Str):(getB p k s m).1.of_.name.size≤maxLen∧(getB p k s m).1.kind.name.size≤maxLen:=by
 unfold getB getG
 split
 ·refine zln _ _ (fun x hx=>?_)
  have hall:zhb p (zmF p (zdS p k s m).1).reverse:=fun x hx=>zhj hp _ x (by simpa using hx)
  obtain⟨h1,h2⟩:=zjF hx
  obtain⟨h3,_,_,hh⟩:=hall _ h1
  exact⟨h3,(zef hp hh _ h2).2⟩
 ·exact⟨Nat.zero_le _,Nat.zero_le _⟩
section
variable {K:LkP} {n:Nat} {Z:Nat->Prop} {j:Int} {f:Frm} {vl vs:Value} {w w':World}
theorem LkS.got (h:LkS K n Z j f vl vs w) (E:LkE K) {n':Nat} (hf:Fr (fun b=>b=K.bl) w w') (hl:Lg w' K.l K.bl n' K.p):LkS K n' Z j f vl vs w' where
 anchor:=h.anchor.late hf (fun b hb=>.inl hb)
 lg:=hl
 box:=h.box.keepX hf (fun hx=>by have:=E.bl_lt;have:=h.kb;omega)
 z:=fun b hb=>⟨(h.z b hb).1,Nat.lt_of_lt_of_le (h.z b hb).2 hf.size⟩
 zbl:=h.zbl
 zkb:=h.zkb
 kb:=h.kb
 loc:=h.loc.keep hf (fun q hq hx=>by have:=E.bl_lt;have:=(h.zl q hq).2;omega)
 stk:=h.stk.keep hf (fun q hq hx=>by have:=E.bl_lt;have:=(h.zs q hq).2;omega)
 zl:=h.zl
 zs:=h.zs
 apart:=h.apart
 ll:=h.ll
 sl:=h.sl
end
def zlp (K:LkP) (n:Nat) (Z:Nat->Prop) (j:Int) (f:Frm) (q:LFld×Int) (w:World) (e:Ending) (w':World):Prop:=
 if q.2=1 then e=.returned (lfV q.1)∧LkOk K n Z j f w w' else ∃c,e=.panicked c∧LkNo K n Z j c w w'
def errT (c:Int) (v:Value):Prop:=(c=1∧v=.nilIface)∨(c≠1∧∃b,v=.iface 243 (.pointer (some b)))
theorem ErrV.t {c:Int} {v:Value} {w:World} (h:ErrV c v w):errT c v:=by
 rcases h with ⟨h1,h2⟩ | ⟨h1,b,h2,_⟩
 ·exact .inl ⟨h1,h2⟩
 ·exact .inr ⟨h1,_,h2⟩
def GotC (K:LkP) (n:Nat) (a:World):World->Prop:=fun W=>Fr (fun b=>b=K.bl) a W∧Lg W K.l K.bl n K.p
theorem GotC.to {K:LkP} {n:Nat} {a W W':World} (h:GotC K n a W) (hf:Fr No W W'):GotC K n a W':=⟨h.1.trans0 hf,h.2.keep hf⟩
def gotV (q:LFld×Int):Value->World->Prop:=fun v _=>∃ev,v=.tuple #[lfV q.1,ev]∧errT q.2 ev
theorem zlq (q:LFld×Int):MonP (gotV q):=fun _ _ _ h _=>h
def errP (c:Int):Value->World->Prop:=fun v _=>∃x,v=x∧errT c x
theorem zlr (c:Int):MonP (errP c):=fun _ _ _ h _=>h
theorem zls (K:LkP) (E:LkE K) (n:Nat) (Z:Nat->Prop) (j:Int) (f:Frm) (vl vs:Value) (w:World) (h:LkS K n Z j f vl vs w) (hj:0≤j) (hj2:j<1000) (i:Ins) (h1:i.name.size≤maxLen) (h2:i.member.size≤maxLen) (hn:n<999999):
  Calls Tryz.prog 144 #[.pointer (some ⟨K.kb,0,none⟩),.agg #[.int .i64 i.op,.int .i64 i.a,.string i.name,.string i.member]] w (zlp K (n+2) Z j f (getB K.p K.k i.name i.member) w):=by
 obtain⟨wA,hwA⟩:∃wA,wA=((w.alloc (.cells #[.int .i64 i.op,.int .i64 i.a,.string i.name,.string i.member] 101)).alloc (.cells #[.int .i64 0,.string ⟨#[]⟩,.int .i64 0,.int .i64 0,.string ⟨#[]⟩] 178)):=⟨_,rfl⟩
 have hfA:Fr No w wA:=hwA▸frc
 have B0:=(hwA▸bxc:Bx wA w.heap.size 101 #[.int .i64 i.op,.int .i64 i.a,.string i.name,.string i.member])
 have B1:=(hwA▸bxc:Bx wA (w.heap.size+1) 178 #[.int .i64 0,.string ⟨#[]⟩,.int .i64 0,.int .i64 0,.string ⟨#[]⟩])
 have hA:=h.keep E hfA
 have hbl:=E.bl_lt
 have han:=h.anchor.size
 have HG:=fun W (hW:Fr No wA W)=>zlm K.l K.bl n K.p K.k i.name i.member W ((hA.keep E hW).lg) h1 h2 hn
 unfold zd9 at HG
 generalize getB K.p K.k i.name i.member=q at *
 obtain⟨G,hG,hGs,KC⟩:∃G:World->Prop,(∀W,(Fr No wA W∨GotC K (n+2) wA W)->G W)∧(∀W,G W->wA.heap.size≤W.heap.size) ∧
   (∀W,G W->W.cell? ⟨K.kb,0,none⟩=some (.pointer (some ⟨K.l,0,none⟩))∧W.cell? ⟨K.kb,1,none⟩=some (.int .i64 K.k)∧K.kb<W.heap.size∧W.cell? ⟨w.heap.size,2,none⟩=some (.string i.name)∧W.cell? ⟨w.heap.size,3,none⟩=some (.string i.member)∧w.heap.size<W.heap.size):=by
  have hall:∀W (X:Nat->Prop),Fr X wA W->(∀b,X b->b=K.bl)->W.cell? ⟨K.kb,0,none⟩=some (.pointer (some ⟨K.l,0,none⟩))∧W.cell? ⟨K.kb,1,none⟩=some (.int .i64 K.k)∧K.kb<W.heap.size∧W.cell? ⟨w.heap.size,2,none⟩=some (.string i.name)∧W.cell? ⟨w.heap.size,3,none⟩=some (.string i.member)∧w.heap.size<W.heap.size:=fun W X hW hX=>by
   have hb:=hA.box.keepX hW (fun hx=>by have:=hX _ hx;have:=hA.kb;omega)
   have h0:=B0.keepX hW (fun hx=>by have:=hX _ hx;omega)
   exact⟨hb.cell 0,hb.cell 1,hb.lt,h0.cell 2,h0.cell 3,h0.lt⟩
  refine⟨fun W=>Fr No wA W∨GotC K (n+2) wA W,fun _ h=>h,fun W hW=>?_,fun W hW=>?_⟩
  ·rcases hW with hW | ⟨hW,_⟩<;>exact hW.size
  ·rcases hW with hW | ⟨hW,_⟩
   ·exact hall W No hW zN
   ·exact hall W _ hW (fun _ h=>h)
 replace h:=Lib.hid h
 replace hA:=Lib.hid hA
 go_enter Tryz.func144,Tryz.ntmps144
 go_wp2_with fail
 rw[<-hwA]
 replace hwA:=Lib.hid hwA
 refine zn2 17 23 [mV (.pointer (some ⟨K.kb,0,none⟩)),mV (.pointer (some ⟨K.kb,0,none⟩)),mV (.pointer (some ⟨K.kb,0,none⟩)),mV (.pointer (some ⟨K.l,0,none⟩)),mV (.pointer (some ⟨K.kb,0,none⟩)),mV (.pointer (some ⟨K.kb,0,none⟩)),mV (.pointer (some ⟨K.kb,1,none⟩)),mV (.int .i64 K.k),mV (.pointer (some ⟨w.heap.size,2,none⟩)),mV (.string i.name),mV (.pointer (some ⟨w.heap.size,3,none⟩)),mV (.string i.member),mC (gotV q) (zlq q),mC (gotV q) (zlq q),mV (lfV q.1),mE (mC (errP q.2) (zlr q.2)),mB 178 (#[.int .i64 0,.string ⟨#[]⟩,.int .i64 0,.int .i64 0,.string ⟨#[]⟩]) wA.heap.size] 12 (fun _ _=>False) (GotC K (n+2) wA) (Fr (fun b=>b=K.bl)) (by kernel_rfl) (by kernel_rfl) (by simp) (fun W W' h hf=>h.to hf) ?_ ?_ ?_ ?_ ?_
 ·exact fun v W W' hs=>hSV <| hSV <| hSV <| hSV <| hSV <| hSV <| hSV <| hSV <| hSV <| hSV <| hSV <| hSV <| hopC (fun _ h=>by first|exact h|(obtain⟨b,g1,g2,g3⟩:=h;exact⟨b,g1,g2.keepX hs (by have:=hfA.size;omega),g3⟩)) <| hSV <| hopC (fun _ h=>by first|exact h|(obtain⟨b,g1,g2,g3⟩:=h;exact⟨b,g1,g2.keepX hs (by have:=hfA.size;omega),g3⟩)) <| hopC (fun _ h=>by first|exact h|(obtain⟨b,g1,g2,g3⟩:=h;exact⟨b,g1,g2.keepX hs (by have:=hfA.size;omega),g3⟩)) <| hopZ
 ·refine hc4 ?_ ?_ ?_ ?_ <| hc4 ?_ ?_ ?_ ?_ <| hc4 ?_ ?_ ?_ ?_ <| hc4 ?_ ?_ ?_ ?_ <| hopZ
  all_goals (intro a' W hW hoff hdep;replace hW:=hG _ hW;have hbs:=hGs _ hW;have H0:=hoff 0 rfl;have H3:=hoff 3 rfl)
  ·refine nE rfl ?_;simp[execOp,Act.eval,H0,go_sem,zaa];exact fr1 rfl
  ·have D8:_=_:=hdep 0 8 rfl;refine nE rfl ?_;simp[execOp,Act.eval,D8,go_sem,zaa];exact fr1 rfl
  ·have D9:_=_:=hdep 1 9 rfl;refine nE rfl ?_;simp[execOp,Act.eval,D9,go_sem,zaa];exact fr1 rfl
  ·have D10:_=_:=hdep 2 10 rfl;refine nE rfl ?_;clear hoff hdep;simp[execOp,Act.eval,go_sem,zaa, *];exact fr1 rfl
  ·refine nE rfl ?_;simp[execOp,Act.eval,H0,go_sem,zaa];exact fr1 rfl
  ·have D12:_=_:=hdep 4 12 rfl;refine nE rfl ?_;simp[execOp,Act.eval,D12,go_sem,zaa];exact fr1 rfl
  ·have D13:_=_:=hdep 5 13 rfl;refine nE rfl ?_;simp[execOp,Act.eval,D13,go_sem,zaa];exact fr1 rfl
  ·have D14:_=_:=hdep 6 14 rfl;refine nE rfl ?_;clear hoff hdep;simp[execOp,Act.eval,go_sem,zaa, *];exact fr1 rfl
  ·refine nE rfl ?_;simp[execOp,Act.eval,H3,go_sem,zaa];exact fr1 rfl
  ·have D16:_=_:=hdep 8 16 rfl;refine nE rfl ?_;clear hoff hdep;simp[execOp,Act.eval,go_sem,zaa, *];exact fr1 rfl
  ·refine nE rfl ?_;simp[execOp,Act.eval,H3,go_sem,zaa];exact fr1 rfl
  ·have D18:_=_:=hdep 10 18 rfl;refine nE rfl ?_;clear hoff hdep;simp[execOp,Act.eval,go_sem,zaa, *];exact fr1 rfl
  ·obtain⟨ev,D20,he⟩:(gotV q) _ W:=hdep 12 20 rfl;refine nE rfl ?_;simp[execOp,Act.eval,D20,go_sem,zaa];exact⟨Fr.refl _ _,_,rfl,he⟩
  ·obtain⟨ev,D7,he⟩:(gotV q) _ W:=hdep 13 7 rfl;refine nE rfl ?_;simp[execOp,Act.eval,D7,go_sem,zaa];exact fr1 rfl
  ·obtain⟨ev,D7,he⟩:(gotV q) _ W:=hdep 13 7 rfl;exact yE rfl ⟨ev,fun W=>by simp[execOp,Act.eval,D7,go_sem],⟨_,rfl,he⟩,rfl⟩
  ·refine nE rfl ?_;simp[execOp,go_sem,zaa];exact⟨(Fr.refl _ _).alloc _,⟨_,rfl,Bx.new_ rfl,hbs⟩,Nat.le_refl _⟩
 ·intro o r ho hr a' W hW hoff hdep
  have hbs:=hW.size
  cases ho;cases hr
  have D11:_=_:=hdep 3 11 rfl
  have D15:_=_:=hdep 7 15 rfl
  have D17:_=_:=hdep 9 17 rfl
  have D19:_=_:=hdep 11 19 rfl
  simp[Act.eval,D11,D15,D17,D19,go_sem,zlP]
  exact(HG _ hW).mono (fun e w' h=>by obtain⟨ev,g1,g2,g3,g4⟩:=h;exact⟨_,g1,⟨hW.of0.same g3,g4⟩,g3,ev,rfl,g2.t⟩)
 ·exact fun _ _ _ _ h=>h.elim
 intro vs WR hWR hv hne
 replace hWR:=hWR.resolve_left (fun h=>absurd h.1 (by decide))
 obtain⟨evR12,e12,heR12⟩:=hv 12 (by omega)
 obtain⟨evR13,e13,heR13⟩:=hv 13 (by omega)
 obtain⟨xR15,e15,heR15⟩:=hv 15 (by omega)
 obtain⟨b16,e16,hb16,hl16⟩:=hv 16 (by omega)
 simp only[lz6,List.drop_zero,znP,znM,znN,znK,znR,Nat.zero_add,Nat.reduceAdd,e12,e13,e15,e16]
 simp only[Act.put,lz0,lz1,lz2]
 clear e12 e13 e15 e16 hv
 obtain⟨hC1,hC2⟩:=hWR
 have hS:=hA.out.got E hC1 hC2
 have hlt:=fun b hz=>h.out.lt (b:=b) hz
 have hzb:=h.out.zbl
 have hB1:=B1.keepX hC1 (by omega)
 obtain⟨z0,z1,z2,z3,z4⟩:=hB1.c5
 have zf:=fun i=>hB1.frozen i
 have zl:=hB1.lt
 obtain⟨y0,y1,y2,y3,y4⟩:=hb16.c5
 have yf:=fun i=>hb16.frozen i
 have yl:=hb16.lt
 have hne2:b16≠w.heap.size+1:=by have:=B1.lt;omega
 have hwr:w.heap.size≤WR.heap.size:=Nat.le_trans hfA.size hC1.size
 have hwb:w.heap.size≤b16:=Nat.le_trans hfA.size hl16
 have hfr:Fr Z w WR:=hfA.of0.same (hC1.mono (fun b _ hb=>by subst hb;exact hzb))
 have hOk:∀W,Fr (fun b=>w.heap.size≤b) WR W->LkOk K (n+2) Z j f w W:=fun W hW=>
  .mk (hS.far E hW (fun b hb=>⟨by omega,fun hz=>by have:=hlt b hz;omega⟩)) (hfr.trans hW (fun b hb hx=>by omega))
 have HW:=fun W (hW:Fr (fun b=>w.heap.size≤b) WR W)=>zdf K (n+2) Z j f vl _ W (hS.far E hW (fun b hb=>⟨by omega,fun hz=>by have:=hlt b hz;omega⟩)) hj hj2
 have hN:∀W,Fr (fun b=>w.heap.size≤b) WR W->LkNo K (n+2) Z j (zeZ j) w W:=fun W hW=>let h:=(hS.far E hW (fun b hb=>⟨by omega,fun hz=>by have:=hlt b hz;omega⟩)).no;⟨h.1,h.2.1,h.2.2.1,hfr.trans hW (fun b hb hx=>by omega)⟩
 clear HG KC hne hb16 hS hB1 heR12 heR13
 rcases heR15 with ⟨hq,rfl⟩ | ⟨hq,eb,rfl⟩
 ·have hP:∀e W,zlp K (n+2) Z j f q w e W=(e=.returned (lfV q.1)∧LkOk K (n+2) Z j f w W):=fun e W=>by unfold zlp;rw[if_pos hq]
  unfold lfV at *
  clear hq
  go_wp2
  refine bodyPost_ret (v:=.agg #[.int .i64 q.1.of_.keeper,.string q.1.of_.name,.int .i64 q.1.at_,.int .i64 q.1.kind.kind,.string q.1.kind.name]) (by simp[results,Tryz.results144,go_sem, *]) rfl ?_
  rw[hP]
  exact⟨rfl,hOk _ (zec (zec (Fr.refl _ _) hwb) (by omega))⟩
 ·have hP:∀e W,zlp K (n+2) Z j f q w e W=(∃c,e=.panicked c∧LkNo K (n+2) Z j c w W):=fun e W=>by unfold zlp;rw[if_neg hq]
  unfold lfV at *
  clear hq
  go_wp2_with (go_at_call 108;refine(HW _ (zec (Fr.refl _ _) hwb)).mono ?_;rintro e w4 ⟨rfl,rfl⟩)
  refine⟨rfl,?_⟩
  rw[hP]
  exact⟨_,rfl,hN _ (zec (Fr.refl _ _) hwb)⟩
end Go.Proofs.YthembcdcdnffeaaGreat
