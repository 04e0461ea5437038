/- The reference's l8Inner: what is known ahead of an instruction, and an instruction. -/
import Derived.Test.YtmeaibjmnjcdfaaGreatVG40
set_option maxHeartbeats 8000000
set_option maxRecDepth 100000
namespace Go.Proofs.YtmeaibjmnjcdfaaGreat
open Go.RowKit
theorem ztP {s:Str} (h:s.size≤maxLen):(zqv s).1.name.size≤maxLen∧(zqv s).1.member.size≤maxLen:=by
 have hw:=zp0 s
 have ho:∀op,(zqt op (zpV s)).name.size≤maxLen∧(zqt op (zpV s)).member.size≤maxLen:=fun op=>by
  unfold zqt
  generalize zpV s=ws at *
  split
  ·rename_i x a rest
   refine⟨?_,?_⟩
   ·dsimp only
    split
    ·exact Nat.zero_le _
    ·exact Nat.le_trans (hw a (by simp)) h
   ·dsimp only
    cases rest with
    | nil=>exact Nat.zero_le _
    | cons b r=>exact Nat.le_trans (hw b (by simp)) h
  ·exact⟨Nat.zero_le _,Nat.zero_le _⟩
 have hg:∀f op,(zqu s f op).1.name.size≤maxLen∧(zqu s f op).1.member.size≤maxLen:=fun f=>by
  induction f with
  | zero=>intro op;exact⟨Nat.zero_le _,Nat.zero_le _⟩
  | succ f ih=>
   intro op
   rw[zqu]
   split
   ·split
    ·exact ho op
    ·exact⟨Nat.zero_le _,Nat.zero_le _⟩
   ·exact ih _
 exact hg _ _
theorem ztQ (lo:Nat->Prop) (nm sp:Str) (fs:List Fld) (ms:List Mth) (m:Mth) (ccs:List Value) (X:Nat->Prop) (v:Value) (x0:Str) (xs:List Str) (line:Str) (w:World) (hlo:∀b,lo b->b<w.heap.size) (hc:ClsC lo w ccs ⟨nm,sp,fs,ms ++ [m]⟩) (hws:Sl X w 1 StrC v (x0 :: xs)) (_:line.size≤90000)
  (hx:Str.l x0=sFrm) (hl:ms.length≤1000) (hl2:m.maps.length≤1000):
  Calls Tryz.prog 144 #[.agg ccs.toArray,v,.string line] w (ztL lo (⟨nm,sp,fs,ms ++ [⟨m.name,m.args,m.ret,m.locals,m.stack,m.code,m.maps ++ [(zqq (x0 :: xs)).1]⟩]⟩,(zqq (x0 :: xs)).2&&m.code.isEmpty) w):=by
 obtain⟨vf,vm,rfl,hz1,hz2,hf,hm⟩:=hc
 dsimp only at *
 have hml:(ms ++ [m]).length=ms.length+1:=by simp
 obtain⟨Af,cf,rfl,hcf,hlf⟩:=hf.form
 obtain⟨Am,cm,rfl,hcm,hlm⟩:=hm.form
 obtain⟨A,cap,rfl,hcap,hlen⟩:=hws.form
 obtain⟨bk,off,rfl,_,c0,z0⟩:=hws.strs (k:=0) (by simp)
 simp only[Nat.add_zero,List.getElem_cons_zero] at c0 z0
 have hbl:=lt_of_cell c0
 obtain⟨bm,om,Aa,ca,Ac,cc,Ax,cx,rfl,_,y0,y1,y2,y3,y4,y5,y6,y7,hn1,hn2,hma,hmc,hmx,_,_,_,_,_,_⟩:=hm.mth (k:=ms.length) (by omega)
 have hem:(ms ++ [m])[ms.length]'(by omega)=m:=by simp
 rw[hem] at y0 y1 y2 y3 y4 y5 y6 y7 hn1 hn2 hma hmc hmx
 have hbm:=lt_of_cell y0
 obtain⟨ks,hkl,hkR,hks⟩:=hm.pre.raw
 have hone:=zrJ zrL hkl hkR
 obtain⟨js,hjl,hjR,hjs⟩:=hmx.raw
 have honj:=zrJ zrM hjl hjR
 rw[hml] at hcm hlm ⊢
 unfold maxLen at hlen hlf hlm
 have hwl:(x0 :: xs).length=xs.length+1:=rfl
 have hn9:((ms.length+1:Nat):Int)=(ms.length:Int)+1:=by omega
 have hn8:((ms.length:Int)+1 == 0)=false:=beq_eq_false_iff_ne.2 (by omega)
 obtain⟨wA,hwA⟩:∃wA,wA=((w.alloc (.cells #[.string nm,.string sp,.slice Af fs.length cf,.slice (some ⟨bm,om,none⟩) (ms.length+1) cm] 55)).alloc (.cells #[.string ⟨#[]⟩,.string ⟨#[]⟩,.slice none 0 0,.slice none 0 0] 55)):=⟨_,rfl⟩
 have hfA:Fr No w wA:=hwA▸frc
 have B0:=(hwA▸bxc:Bx wA w.heap.size 55 #[.string nm,.string sp,.slice Af fs.length cf,.slice (some ⟨bm,om,none⟩) (ms.length+1) cm])
 have B1:=(hwA▸bxc:Bx wA (w.heap.size+1) 55 #[.string ⟨#[]⟩,.string ⟨#[]⟩,.slice none 0 0,.slice none 0 0])
 obtain⟨wC,hwC⟩:∃wC,wC=(wA.alloc (.cells #[.string m.name,.slice Aa m.args.length ca,.int .i64 m.ret.kind,.string m.ret.name,.int .i64 m.locals,.int .i64 m.stack,.slice Ac m.code.length cc,.slice Ax m.maps.length cx] 125)).alloc (.cells #[] 125):=⟨_,rfl⟩
 have hfC:Fr No wA wC:=hwC▸frc
 have hA3:wA.heap.size=w.heap.size+1+1:=by rw[hwA];simp
 have BM:Bx wC (w.heap.size+1+1) 125 #[.string m.name,.slice Aa m.args.length ca,.int .i64 m.ret.kind,.string m.ret.name,.int .i64 m.locals,.int .i64 m.stack,.slice Ac m.code.length cc,.slice Ax m.maps.length cx]:=by rw[<-hA3];exact(hwC▸bxc:Bx wC wA.heap.size 125 #[.string m.name,.slice Aa m.args.length ca,.int .i64 m.ret.kind,.string m.ret.name,.int .i64 m.locals,.int .i64 m.stack,.slice Ac m.code.length cc,.slice Ax m.maps.length cx])
 have hC2:wC.heap.size=wA.heap.size+1+1:=by rw[hwC];simp
 have hA2:w.heap.size+1<wA.heap.size:=B1.lt
 have g1:(x0.toList == [102,105,101,108,100])=false:=by rw[eq_l];exact decide_eq_false (by rw[hx];decide)
 have g2:(x0.toList == [109,101,116,104,111,100])=false:=by rw[eq_l];exact decide_eq_false (by rw[hx];decide)
 have g3:(x0.toList == [102,114,97,109,101])=true:=by rw[eq_l];exact decide_eq_true hx
 have HF:=fun W (hW:Fr No w W)=>zrw X _ (x0 :: xs) W (hws.k0 hW)
 simp only[List.length_cons] at HF
 clear hws hx
 have hk9:ks.length≤100000:=by omega
 have hj9:js.length≤100000:=by omega
 replace hkl:=Lib.hid hkl
 replace hjl:=Lib.hid hjl
 replace hkR:=Lib.hid hkR
 replace hjR:=Lib.hid hjR
 replace hmc:=Lib.hid hmc
 replace hmx:=Lib.hid hmx
 replace hma:=Lib.hid hma
 replace hf:=Lib.hid hf
 replace hml:=Lib.hid hml
 clear hm hem
 go_enter Tryz.func144,Tryz.ntmps144
 go_wp2_with (at_builtin;refine Hid.out ?_)
 refine Lib.hid ?_
 rw[<-hwA]
 rw[<-hwC]
 refine zqF zrU rfl _ _ rfl _ rfl lo (.slice (some ⟨bm,om,none⟩) ms.length cm) ks rfl (hks.rawKeep (hfA.trans0 hfC) zN) hk9 hone ?_
 intro A3 c3 w3 hrow3 hq3 hf3
 have E0:=(B0.keep hfC).keep hf3
 have E1:=(B1.keep hfC).keep hf3
 have EM:=BM.keep hf3
 have hw3:Fr No w w3:=(hfA.trans0 hfC).trans0 hf3
 obtain⟨e0,e1,e2,e3⟩:=E0.c4
 have el:=E0.lt
 have ef:=fun i=>E0.frozen i
 replace c0:=hw3.keep0 c0
 have hbl3:=lt_of_cell c0
 have G0:Bx (w3.setCell ⟨w.heap.size,3,none⟩ (.slice A3 ks.length c3)) w.heap.size 55 #[.string nm,.string sp,.slice Af fs.length cf,.slice A3 ks.length c3]:=E0.set_ 3 _
 have hp3:=Fr.put1 w.heap.size 3 (.slice A3 ks.length c3) w3
 have GM:=EM.keepX hp3 (by omega)
 have G1:=E1.keepX hp3 (by omega)
 have hwG:Fr No w (w3.setCell ⟨w.heap.size,3,none⟩ (.slice A3 ks.length c3)):=hw3.trans hp3 (fun b hb e=>by omega)
 have c0G:(w3.setCell ⟨w.heap.size,3,none⟩ (.slice A3 ks.length c3)).cell? ⟨bk,off,none⟩=some (.string x0):=hp3.keep (fun _ h=>h) (by omega) c0
 have hrowG:RowV (w3.setCell ⟨w.heap.size,3,none⟩ (.slice A3 ks.length c3)) 125 8 (.slice A3 ks.length c3) ks.length (rawL ks):=hrow3.keep hp3 (fun q hq e=>by have:=hq3 q hq;omega)
 simp only[Act.put,lz0,lz1,lz2]
 clear E0 E1 EM BM B0 B1 hks y0 y1 y2 y3 y4 y5 y6 y7
 go_wp2_with (first
  | (go_at_call 194;refine Hid.out ?_))
 refine Lib.hid ?_
 have hsG:w3.heap.size≤(w3.setCell ⟨w.heap.size,3,none⟩ (.slice A3 ks.length c3)).heap.size:=hp3.size
 have hs3:=hf3.size
 generalize(w3.setCell ⟨w.heap.size,3,none⟩ (.slice A3 ks.length c3))=wG at *
 have hA3q:∀q,zcP (.slice A3 ks.length c3)=some q->w.heap.size+1+1<q∧q<wG.heap.size:=fun q hq=>⟨by have:=hq3 q hq;omega,hrowG.lt hq⟩
 clear hp3 hw3 e0 e1 e2 e3 el ef hrow3 hq3 c0 hbl3
 replace hA3q:=Lib.hid hA3q
 replace hrowG:=Lib.hid hrowG
 generalize zqq (x0 :: xs)=q at *
 refine(HF _ hwG).mono ?_
 rintro e w4 ⟨xcs,rfl,hx9,hf4⟩
 obtain⟨xm,ok⟩:=q
 dsimp only at hx9
 have hel:=hx9
 obtain⟨vl9,vs9,rfl,hl9,hs9⟩:=hx9
 obtain⟨Al9,cl9,rfl,_,_⟩:=hl9.form
 obtain⟨As9,cs9,rfl,_,_⟩:=hs9.form
 clear HF hl9 hs9
 have G04:=G0.keep hf4
 have G14:=G1.keep hf4
 have GM4:=GM.keep hf4
 have hw4:Fr No w w4:=hwG.trans0 hf4
 have hs4:=hf4.size
 have hlG1:=G1.lt
 have hlGM:=GM.lt
 have hrow4:=Lib.hid (hrowG.out.keep0 hf4)
 obtain⟨n0,n1,n2,n3,n4,n5,n6,n7⟩:=GM4.c8
 have nl:=GM4.lt
 clear G0 G1 GM hrowG
 obtain⟨OK,hOK⟩:∃OK,OK=(ok&&m.code.isEmpty):=⟨_,rfl⟩
 have hcase:(ok=false∧OK=false)∨(ok=true∧((m.code.length:Int) == 0)=true∧OK=true)∨(ok=true∧((m.code.length:Int) == 0)=false∧OK=false):=by
  rw[hOK]
  cases ok
  ·simp
  ·cases hcd:m.code with
   | nil=>simp
   | cons a b=>right;right;exact⟨rfl,beq_eq_false_iff_ne.2 (by simp;omega),rfl⟩
 replace hOK:=Lib.hid hOK
 rcases hcase with ⟨rfl,hO⟩ | ⟨rfl,hce,hO⟩ | ⟨rfl,hce,hO⟩
 all_goals
  replace hO:=Lib.hid hO
  go_wp2_with fail
  clear n0 n1 n2 n3 n4 n5 n6 n7 nl
  obtain⟨wB,hwB⟩:∃wB,wB=w4.alloc (.cells #[.int .i64 xm.at_,.slice Al9 xm.locals.length cl9,.slice As9 xm.stack.length cs9] 281):=⟨_,rfl⟩
  rw[<-hwB]
  have hfB:Fr No w4 wB:=hwB▸frc
  have BE:Bx wB w4.heap.size 281 #[.int .i64 xm.at_,.slice Al9 xm.locals.length cl9,.slice As9 xm.stack.length cs9]:=hwB▸Bx.new w4 _ _
  have GMB:=GM4.keep hfB
  have KM:=GMB.r8
  have KE:=BE.r3
  have hjsW:=Lib.hid (fun W (hW:Fr No wB W)=>hjs.rawKeep ((hw4.trans0 hfB).trans0 hW) zN)
  have hj9:js.length≤100000:=by omega
  have hsB:=hfB.size
  replace hwB:=Lib.hid hwB
  replace hwA:=Lib.hid hwA
  replace hwC:=Lib.hid hwC
  refine zn0 6 101 [mS 281 (#[]) 0 wB.heap.size,mV (.pointer (some ⟨w.heap.size+1+1,7,none⟩)),mV (.slice Ax m.maps.length cx),mC (cpP 281 js wB.heap.size) (zrG _ _ _),mV (.agg #[.int .i64 xm.at_,.slice Al9 xm.locals.length cl9,.slice As9 xm.stack.length cs9]),mS 281 (#[.int .i64 xm.at_,.slice Al9 xm.locals.length cl9,.slice As9 xm.stack.length cs9]) 1 wB.heap.size] (by kernel_rfl) (by kernel_rfl) (by simp) ?_ ?_
  ·refine hc4 ?_ ?_ ?_ ?_ <| hopC ?_ <| hopC ?_ <| hopZ
   all_goals (intro a' W hW hoff hdep;have hbs:=hW.size;have H13:=hoff 13 rfl;have H14:=hoff 14 rfl;refine nE rfl ?_)
   ·simp[execOp,go_sem,zaa];exact⟨(Fr.refl _ _).alloc _,⟨_,rfl,Bx.new_ rfl,hbs⟩,Nat.le_refl _⟩
   ·simp[execOp,Act.eval,H13,go_sem,zaa];exact fr1 rfl
   ·have D96:_=_:=hdep 1 96 rfl;clear hoff hdep;simp[execOp,Act.eval,go_sem,zaa, *];exact fr1 rfl
   ·obtain⟨b,D95,hb,hl⟩:(slB 281 #[] 0 wB.heap.size) _ W:=hdep 0 95 rfl
    have D97:_=_:=hdep 2 97 rfl
    exact zrH zrW rfl (hjsW.out W hW) hj9 honj D95 D97 hbs
   ·exact gx0
   ·have D99:_=_:=hdep 4 99 rfl;simp at D99;simp[execOp,Act.eval,D99,go_sem,zaa];exact⟨(Fr.refl _ _).alloc _,⟨_,rfl,Bx.new_ rfl,hbs⟩,Nat.le_refl _⟩
  intro vs WR hWR hv hne
  obtain⟨b0,e0,hb0,hl0⟩:=hv 0 (by omega)
  obtain⟨A0R3,c0R3,e3,hA0R3,hq0R3⟩:=hv 3 (by omega)
  obtain⟨b5,e5,hb5,hl5⟩:=hv 5 (by omega)
  simp only[lz6,List.drop_zero,znM,znQ,znK,znR,Nat.zero_add,Nat.reduceAdd,e0,e3,e5]
  simp only[Act.put,lz0,lz1,lz2]
  clear e0 e3 e5 hv
  refine zqH zrW rfl _ _ rfl (.slice A0R3 js.length c0R3) js.length js rfl rfl hA0R3 (by have:=hj9;omega) b5 281 [.int .i64 xm.at_,.slice Al9 xm.locals.length cl9,.slice As9 xm.stack.length cs9] rfl hb5 rfl (by simp[Value.oneCell']) ?_
  intro g c2 w5 hrow5 hcap5 hgf hor
  have hg:wB.heap.size≤g:=by
   rcases hor with h9|h9
   ·exact hq0R3 _ h9
   ·have:=hWR.size;omega
  have D0:=((G04.keep hfB).keep hWR).keepX hgf (fun e=>by have:=hq0R3 _ e;omega)
  have D1:=((G14.keep hfB).keep hWR).keepX hgf (fun e=>by have:=hq0R3 _ e;omega)
  have DM:=(GMB.keep hWR).keepX hgf (fun e=>by have:=hq0R3 _ e;omega)
  have hF45:Fr No w4 w5:=(hfB.trans0 hWR).trans hgf (fun b hb e=>by have:=hq0R3 _ e;omega)
  have hrow5':=hrow4.out.keep0 hF45
  have hs5:=hF45.size
  obtain⟨d0,d1,d2,d3⟩:=D0.c4
  obtain⟨p0,p1,p2,p3,p4,p5,p6,p7⟩:=DM.c8
  have dl:=D0.lt
  have pl:=DM.lt
  have df:=fun i=>D0.frozen i
  have pf:=fun i=>DM.frozen i
  simp only[Act.put,lz0,lz1,lz2]
  clear hA0R3 hb5 KM KE BE GMB hjs hor
  replace hrow5:=Lib.hid hrow5
  replace hgf:=Lib.hid hgf
  replace hrow5':=Lib.hid hrow5'
  have hpm:=Fr.setCellX (X:=fun x=>w.heap.size≤x∧x<wG.heap.size) (p:=⟨w.heap.size+1+1,7,none⟩) (Fr.refl _ w5) ⟨by first|omega|(dsimp only;omega),by first|omega|(dsimp only;omega)⟩ (.slice (some ⟨g,0,none⟩) (js.length+1) c2)
  have D0m:=D0.far (p:=⟨w.heap.size+1+1,7,none⟩) (by show _≠w.heap.size+1+1;omega) (.slice (some ⟨g,0,none⟩) (js.length+1) c2)
  have D1m:=D1.far (p:=⟨w.heap.size+1+1,7,none⟩) (by show _≠w.heap.size+1+1;omega) (.slice (some ⟨g,0,none⟩) (js.length+1) c2)
  have hrowm:=Lib.hid (hrow5'.out.keep (Fr.put1 (w.heap.size+1+1) 7 (.slice (some ⟨g,0,none⟩) (js.length+1) c2) w5) (fun q hq e=>by have:=(hA3q.out q hq).1;omega))
  go_wp2_with (at_builtin;refine Hid.out ?_)
  refine Lib.hid ?_
  refine zqH zrU rfl _ _ rfl (.slice A3 ks.length c3) ks.length ks rfl rfl (hrowm.out.keep0 frc) (by have:=hk9;omega) _ 125 [.string m.name,.slice Aa m.args.length ca,.int .i64 m.ret.kind,.string m.ret.name,.int .i64 m.locals,.int .i64 m.stack,.slice Ac m.code.length cc,.slice (some ⟨g,0,none⟩) (js.length+1) c2] rfl bxc rfl (by simp[Value.oneCell']) ?_
  intro g3 c4 w9 hrow9 hcap9 hgf9 hor9
  have hw5:Fr No w w5:=hw4.trans0 hF45
  have hg3:w.heap.size+1+1<g3:=by
   rcases hor9 with h9|h9
   ·exact(hA3q.out _ h9).1
   ·rw[h9];simp;omega
  have hF59:Fr (fun x=>w.heap.size≤x∧x<wG.heap.size) w5 w9:=(hpm.alloc _).trans hgf9 (fun b hb e=>⟨by have:=(hA3q.out b e).1;omega,(hA3q.out b e).2⟩)
  have E0:=(D0m.alloc _).keepX hgf9 (fun e=>by have:=(hA3q.out _ e).1;omega)
  have E1:=(D1m.alloc _).keepX hgf9 (fun e=>by have:=(hA3q.out _ e).1;omega)
  have hw9:Fr No w w9:=hw5.trans hF59 (fun b hb e=>by first|omega|(dsimp only at e;omega))
  obtain⟨e0,e1,e2,e3⟩:=E0.c4
  obtain⟨f0,f1,f2,f3⟩:=E1.c4
  have el:=E0.lt
  have fl:=E1.lt
  have ef:=fun i=>E0.frozen i
  have ff:=fun i=>E1.frozen i
  have hfin:∀Wf,Fr (fun x=>x=w.heap.size∨x=w.heap.size+1) w9 Wf->ztL lo (⟨nm,sp,fs,ms ++ [⟨m.name,m.args,m.ret,m.locals,m.stack,m.code,m.maps ++ [xm]⟩]⟩,OK) w (.returned (.tuple #[.agg #[.string nm,.string sp,.slice Af fs.length cf,.slice (some ⟨g3,0,none⟩) (ks.length+1) c4],.bool OK])) Wf:=fun Wf hW=>by
   have hwf:Fr No w Wf:=hw9.trans hW (fun b hb e=>by omega)
   have h4f:Fr (fun x=>w.heap.size≤x∧x<wG.heap.size) w4 Wf:=(Fr.trans (Fr.of0 hF45) hF59 (fun b _ e=>e)).trans hW (fun b _ e=>⟨by omega,by omega⟩)
   have hr5:=(hrow5.out.keep hF59 (fun q hq e=>by rw[zcQ,if_neg (by omega)] at hq;cases hq;first|omega|(dsimp only at e;omega))).keep hW (fun q hq e=>by rw[zcQ,if_neg (by omega)] at hq;cases hq;first|omega|(dsimp only at e;omega))
   have hm9:MthC lo Wf [.string m.name,.slice Aa m.args.length ca,.int .i64 m.ret.kind,.string m.ret.name,.int .i64 m.locals,.int .i64 m.stack,.slice Ac m.code.length cc,.slice (some ⟨g,0,none⟩) (js.length+1) c2] ⟨m.name,m.args,m.ret,m.locals,m.stack,m.code,m.maps ++ [xm]⟩:=⟨_,_,_,rfl,hn1,hn2,hma.out.k0 hwf,hmc.out.k0 hwf,RRow.sl (RRow.snoc (n:=w.heap.size) rfl hjl.out (fun i h1 h2=>(hjR.out i h1 h2).keep hwf zN) ((MapC.keep hel h4f (fun b e=>e.2)).weaken (fun b e=>by have:=hlo b e;have:=hwG.size;show b<wG.heap.size;omega)) hr5 (by omega) hcap5) (fun q hq e=>by have:=hlo q e;omega)⟩
   exact⟨[_,_,_,_],rfl,⟨_,_,rfl,hz1,hz2,hf.out.k0 hwf,RRow.sl (RRow.snoc (n:=w.heap.size) rfl hkl.out (fun i h1 h2=>(hkR.out i h1 h2).keep hwf zN) hm9 (hrow9.keep hW (fun q hq e=>by rw[zcQ,if_neg (by omega)] at hq;cases hq;first|omega|(dsimp only at e;omega))) (by omega) hcap9) (fun q hq e=>by have:=hlo q e;omega)⟩,hwf⟩
  replace hfin:=Lib.hid hfin
  simp only[Act.put,lz0,lz1,lz2]
  clear hrow9 hgf9 hor9 hF59 E0 E1 hpm D0m D1m D0 D1 DM p0 p1 p2 p3 p4 p5 p6 p7 d0 d1 d2 d3
  go_wp2
  refine bodyPost_ret (v:=.tuple #[.agg #[.string nm,.string sp,.slice Af fs.length cf,.slice (some ⟨g3,0,none⟩) (ks.length+1) c4],.bool OK]) (by rw[hO.out];simp[results,Tryz.results144,go_sem, *]) rfl ?_
  rw[<-hOK.out]
  refine hfin.out _ ?_
  repeat(first|(with_reducible exact Fr.refl _ _)|(with_reducible refine Fr.setCellXO (by first|exact .inl rfl|exact .inr rfl) ?_ _))
theorem ztR (lo:Nat->Prop) (nm sp:Str) (fs:List Fld) (ms:List Mth) (m:Mth) (ccs:List Value) (X:Nat->Prop) (v:Value) (x0:Str) (xs:List Str) (line:Str) (w:World) (hlo:∀b,lo b->b<w.heap.size) (hc:ClsC lo w ccs ⟨nm,sp,fs,ms ++ [m]⟩) (hws:Sl X w 1 StrC v (x0 :: xs)) (hls:line.size≤90000)
  (hx1:¬Str.l x0=sFld) (hx2:¬Str.l x0=sMth) (hx3:¬Str.l x0=sFrm) (hl:ms.length≤1000) (hl2:m.code.length≤1000):
  Calls Tryz.prog 144 #[.agg ccs.toArray,v,.string line] w (ztL lo (⟨nm,sp,fs,ms ++ [⟨m.name,m.args,m.ret,m.locals,m.stack,m.code ++ [(zqv line).1],m.maps⟩]⟩,(zqv line).2) w):=by
 obtain⟨vf,vm,rfl,hz1,hz2,hf,hm⟩:=hc
 dsimp only at *
 have hml:(ms ++ [m]).length=ms.length+1:=by simp
 obtain⟨Af,cf,rfl,hcf,hlf⟩:=hf.form
 obtain⟨Am,cm,rfl,hcm,hlm⟩:=hm.form
 obtain⟨A,cap,rfl,hcap,hlen⟩:=hws.form
 obtain⟨bk,off,rfl,_,c0,z0⟩:=hws.strs (k:=0) (by simp)
 simp only[Nat.add_zero,List.getElem_cons_zero] at c0 z0
 have hbl:=lt_of_cell c0
 obtain⟨bm,om,Aa,ca,Ac,cc,Ax,cx,rfl,_,y0,y1,y2,y3,y4,y5,y6,y7,hn1,hn2,hma,hmc,hmx,_,_,_,_,_,_⟩:=hm.mth (k:=ms.length) (by omega)
 have hem:(ms ++ [m])[ms.length]'(by omega)=m:=by simp
 rw[hem] at y0 y1 y2 y3 y4 y5 y6 y7 hn1 hn2 hma hmc hmx
 have hbm:=lt_of_cell y0
 obtain⟨ks,hkl,hkR,hks⟩:=hm.pre.raw
 have hone:=zrJ zrL hkl hkR
 obtain⟨js,hjl,hjR,hjs⟩:=hmc.raw
 have honj:=zrJ zrO hjl hjR
 rw[hml] at hcm hlm ⊢
 unfold maxLen at hlen hlf hlm
 have hwl:(x0 :: xs).length=xs.length+1:=rfl
 have hn9:((ms.length+1:Nat):Int)=(ms.length:Int)+1:=by omega
 have hn8:((ms.length:Int)+1 == 0)=false:=beq_eq_false_iff_ne.2 (by omega)
 obtain⟨wA,hwA⟩:∃wA,wA=((w.alloc (.cells #[.string nm,.string sp,.slice Af fs.length cf,.slice (some ⟨bm,om,none⟩) (ms.length+1) cm] 55)).alloc (.cells #[.string ⟨#[]⟩,.string ⟨#[]⟩,.slice none 0 0,.slice none 0 0] 55)):=⟨_,rfl⟩
 have hfA:Fr No w wA:=hwA▸frc
 have B0:=(hwA▸bxc:Bx wA w.heap.size 55 #[.string nm,.string sp,.slice Af fs.length cf,.slice (some ⟨bm,om,none⟩) (ms.length+1) cm])
 have B1:=(hwA▸bxc:Bx wA (w.heap.size+1) 55 #[.string ⟨#[]⟩,.string ⟨#[]⟩,.slice none 0 0,.slice none 0 0])
 obtain⟨wC,hwC⟩:∃wC,wC=(wA.alloc (.cells #[.string m.name,.slice Aa m.args.length ca,.int .i64 m.ret.kind,.string m.ret.name,.int .i64 m.locals,.int .i64 m.stack,.slice Ac m.code.length cc,.slice Ax m.maps.length cx] 125)).alloc (.cells #[] 125):=⟨_,rfl⟩
 have hfC:Fr No wA wC:=hwC▸frc
 have hA3:wA.heap.size=w.heap.size+1+1:=by rw[hwA];simp
 have BM:Bx wC (w.heap.size+1+1) 125 #[.string m.name,.slice Aa m.args.length ca,.int .i64 m.ret.kind,.string m.ret.name,.int .i64 m.locals,.int .i64 m.stack,.slice Ac m.code.length cc,.slice Ax m.maps.length cx]:=by rw[<-hA3];exact(hwC▸bxc:Bx wC wA.heap.size 125 #[.string m.name,.slice Aa m.args.length ca,.int .i64 m.ret.kind,.string m.ret.name,.int .i64 m.locals,.int .i64 m.stack,.slice Ac m.code.length cc,.slice Ax m.maps.length cx])
 have hC2:wC.heap.size=wA.heap.size+1+1:=by rw[hwC];simp
 have hA2:w.heap.size+1<wA.heap.size:=B1.lt
 have g1:(x0.toList == [102,105,101,108,100])=false:=by rw[eq_l];exact decide_eq_false hx1
 have g2:(x0.toList == [109,101,116,104,111,100])=false:=by rw[eq_l];exact decide_eq_false hx2
 have g3:(x0.toList == [102,114,97,109,101])=false:=by rw[eq_l];exact decide_eq_false hx3
 have HF:=fun W=>zrF line W hls
 skip
 clear hws hx1 hx2 hx3
 have hk9:ks.length≤100000:=by omega
 have hj9:js.length≤100000:=by omega
 replace hkl:=Lib.hid hkl
 replace hjl:=Lib.hid hjl
 replace hkR:=Lib.hid hkR
 replace hjR:=Lib.hid hjR
 replace hmc:=Lib.hid hmc
 replace hmx:=Lib.hid hmx
 replace hma:=Lib.hid hma
 replace hf:=Lib.hid hf
 replace hml:=Lib.hid hml
 clear hm hem
 go_enter Tryz.func144,Tryz.ntmps144
 go_wp2_with (at_builtin;refine Hid.out ?_)
 refine Lib.hid ?_
 rw[<-hwA]
 rw[<-hwC]
 refine zqF zrU rfl _ _ rfl _ rfl lo (.slice (some ⟨bm,om,none⟩) ms.length cm) ks rfl (hks.rawKeep (hfA.trans0 hfC) zN) hk9 hone ?_
 intro A3 c3 w3 hrow3 hq3 hf3
 have E0:=(B0.keep hfC).keep hf3
 have E1:=(B1.keep hfC).keep hf3
 have EM:=BM.keep hf3
 have hw3:Fr No w w3:=(hfA.trans0 hfC).trans0 hf3
 obtain⟨e0,e1,e2,e3⟩:=E0.c4
 have el:=E0.lt
 have ef:=fun i=>E0.frozen i
 replace c0:=hw3.keep0 c0
 have hbl3:=lt_of_cell c0
 have G0:Bx (w3.setCell ⟨w.heap.size,3,none⟩ (.slice A3 ks.length c3)) w.heap.size 55 #[.string nm,.string sp,.slice Af fs.length cf,.slice A3 ks.length c3]:=E0.set_ 3 _
 have hp3:=Fr.put1 w.heap.size 3 (.slice A3 ks.length c3) w3
 have GM:=EM.keepX hp3 (by omega)
 have G1:=E1.keepX hp3 (by omega)
 have hwG:Fr No w (w3.setCell ⟨w.heap.size,3,none⟩ (.slice A3 ks.length c3)):=hw3.trans hp3 (fun b hb e=>by omega)
 have c0G:(w3.setCell ⟨w.heap.size,3,none⟩ (.slice A3 ks.length c3)).cell? ⟨bk,off,none⟩=some (.string x0):=hp3.keep (fun _ h=>h) (by omega) c0
 have hrowG:RowV (w3.setCell ⟨w.heap.size,3,none⟩ (.slice A3 ks.length c3)) 125 8 (.slice A3 ks.length c3) ks.length (rawL ks):=hrow3.keep hp3 (fun q hq e=>by have:=hq3 q hq;omega)
 simp only[Act.put,lz0,lz1,lz2]
 clear E0 E1 EM BM B0 B1 hks y0 y1 y2 y3 y4 y5 y6 y7
 go_wp2_with (first
  | (go_at_call 195;refine Hid.out ?_))
 refine Lib.hid ?_
 have hsG:w3.heap.size≤(w3.setCell ⟨w.heap.size,3,none⟩ (.slice A3 ks.length c3)).heap.size:=hp3.size
 have hs3:=hf3.size
 generalize(w3.setCell ⟨w.heap.size,3,none⟩ (.slice A3 ks.length c3))=wG at *
 have hA3q:∀q,zcP (.slice A3 ks.length c3)=some q->w.heap.size+1+1<q∧q<wG.heap.size:=fun q hq=>⟨by have:=hq3 q hq;omega,hrowG.lt hq⟩
 clear hp3 hw3 e0 e1 e2 e3 el ef hrow3 hq3 c0 hbl3
 replace hA3q:=Lib.hid hA3q
 replace hrowG:=Lib.hid hrowG
 have hiz:=ztP (s:=line) (by unfold maxLen;omega)
 generalize zqv line=q at *
 refine(HF _).mono ?_
 rintro e w4 ⟨rfl,hf4⟩
 obtain⟨⟨xo,xa,xn,xb⟩,ok⟩:=q
 unfold zrC
 dsimp only at *
 have hel:InsC [.int .i64 xo,.int .i64 xa,.string xn,.string xb] ⟨xo,xa,xn,xb⟩:=⟨rfl,hiz.1,hiz.2⟩
 clear HF
 have G04:=G0.keep hf4
 have G14:=G1.keep hf4
 have GM4:=GM.keep hf4
 have hw4:Fr No w w4:=hwG.trans0 hf4
 have hs4:=hf4.size
 have hlG1:=G1.lt
 have hlGM:=GM.lt
 have hrow4:=Lib.hid (hrowG.out.keep0 hf4)
 obtain⟨n0,n1,n2,n3,n4,n5,n6,n7⟩:=GM4.c8
 have nl:=GM4.lt
 clear G0 G1 GM hrowG
 go_wp2_with fail
 clear n0 n1 n2 n3 n4 n5 n6 n7 nl
 obtain⟨wB,hwB⟩:∃wB,wB=w4.alloc (.cells #[.int .i64 xo,.int .i64 xa,.string xn,.string xb] 177):=⟨_,rfl⟩
 rw[<-hwB]
 have hfB:Fr No w4 wB:=hwB▸frc
 have BE:Bx wB w4.heap.size 177 #[.int .i64 xo,.int .i64 xa,.string xn,.string xb]:=hwB▸Bx.new w4 _ _
 have GMB:=GM4.keep hfB
 have KM:=GMB.r8
 have KE:=BE.r4
 have hjsW:=Lib.hid (fun W (hW:Fr No wB W)=>hjs.rawKeep ((hw4.trans0 hfB).trans0 hW) zN)
 have hsB:=hfB.size
 replace hwB:=Lib.hid hwB
 replace hwA:=Lib.hid hwA
 replace hwC:=Lib.hid hwC
 refine zn0 6 122 [mS 177 (#[]) 0 wB.heap.size,mV (.pointer (some ⟨w.heap.size+1+1,6,none⟩)),mV (.slice Ac m.code.length cc),mC (cpP 177 js wB.heap.size) (zrG _ _ _),mV (.agg #[.int .i64 xo,.int .i64 xa,.string xn,.string xb]),mS 177 (#[.int .i64 xo,.int .i64 xa,.string xn,.string xb]) 1 wB.heap.size] (by kernel_rfl) (by kernel_rfl) (by simp) ?_ ?_
 ·refine hc4 ?_ ?_ ?_ ?_ <| hopC ?_ <| hopC ?_ <| hopZ
  all_goals (intro a' W hW hoff hdep;have hbs:=hW.size;have H13:=hoff 13 rfl;have H16:=hoff 16 rfl;refine nE rfl ?_)
  ·simp[execOp,go_sem,zaa];exact⟨(Fr.refl _ _).alloc _,⟨_,rfl,Bx.new_ rfl,hbs⟩,Nat.le_refl _⟩
  ·simp[execOp,Act.eval,H13,go_sem,zaa];exact fr1 rfl
  ·have D117:_=_:=hdep 1 117 rfl;clear hoff hdep;simp[execOp,Act.eval,go_sem,zaa, *];exact fr1 rfl
  ·obtain⟨b,D116,hb,hl⟩:(slB 177 #[] 0 wB.heap.size) _ W:=hdep 0 116 rfl
   have D118:_=_:=hdep 2 118 rfl
   exact zrH zrY rfl (hjsW.out W hW) hj9 honj D116 D118 hbs
  ·exact gx0
  ·have D120:_=_:=hdep 4 120 rfl;simp at D120;simp[execOp,Act.eval,D120,go_sem,zaa];exact⟨(Fr.refl _ _).alloc _,⟨_,rfl,Bx.new_ rfl,hbs⟩,Nat.le_refl _⟩
 intro vs WR hWR hv hne
 obtain⟨b0,e0,hb0,hl0⟩:=hv 0 (by omega)
 obtain⟨A0R3,c0R3,e3,hA0R3,hq0R3⟩:=hv 3 (by omega)
 obtain⟨b5,e5,hb5,hl5⟩:=hv 5 (by omega)
 simp only[lz6,List.drop_zero,znM,znQ,znK,znR,Nat.zero_add,Nat.reduceAdd,e0,e3,e5]
 simp only[Act.put,lz0,lz1,lz2]
 clear e0 e3 e5 hv
 refine zqH zrY rfl _ _ rfl (.slice A0R3 js.length c0R3) js.length js rfl rfl hA0R3 (by have:=hj9;omega) b5 177 [.int .i64 xo,.int .i64 xa,.string xn,.string xb] rfl hb5 rfl (by simp[Value.oneCell']) ?_
 intro g c2 w5 hrow5 hcap5 hgf hor
 have hg:wB.heap.size≤g:=by
  rcases hor with h9|h9
  ·exact hq0R3 _ h9
  ·have:=hWR.size;omega
 have D0:=((G04.keep hfB).keep hWR).keepX hgf (fun e=>by have:=hq0R3 _ e;omega)
 have D1:=((G14.keep hfB).keep hWR).keepX hgf (fun e=>by have:=hq0R3 _ e;omega)
 have DM:=(GMB.keep hWR).keepX hgf (fun e=>by have:=hq0R3 _ e;omega)
 have hF45:Fr No w4 w5:=(hfB.trans0 hWR).trans hgf (fun b hb e=>by have:=hq0R3 _ e;omega)
 have hrow5':=hrow4.out.keep0 hF45
 have hs5:=hF45.size
 obtain⟨d0,d1,d2,d3⟩:=D0.c4
 obtain⟨p0,p1,p2,p3,p4,p5,p6,p7⟩:=DM.c8
 have dl:=D0.lt
 have pl:=DM.lt
 have df:=fun i=>D0.frozen i
 have pf:=fun i=>DM.frozen i
 simp only[Act.put,lz0,lz1,lz2]
 clear hA0R3 hb5 KM KE BE GMB hjs hor
 replace hrow5:=Lib.hid hrow5
 replace hgf:=Lib.hid hgf
 replace hrow5':=Lib.hid hrow5'
 have hpm:=Fr.setCellX (X:=fun x=>w.heap.size≤x∧x<wG.heap.size) (p:=⟨w.heap.size+1+1,6,none⟩) (Fr.refl _ w5) ⟨by first|omega|(dsimp only;omega),by first|omega|(dsimp only;omega)⟩ (.slice (some ⟨g,0,none⟩) (js.length+1) c2)
 have D0m:=D0.far (p:=⟨w.heap.size+1+1,6,none⟩) (by show _≠w.heap.size+1+1;omega) (.slice (some ⟨g,0,none⟩) (js.length+1) c2)
 have D1m:=D1.far (p:=⟨w.heap.size+1+1,6,none⟩) (by show _≠w.heap.size+1+1;omega) (.slice (some ⟨g,0,none⟩) (js.length+1) c2)
 have hrowm:=Lib.hid (hrow5'.out.keep (Fr.put1 (w.heap.size+1+1) 6 (.slice (some ⟨g,0,none⟩) (js.length+1) c2) w5) (fun q hq e=>by have:=(hA3q.out q hq).1;omega))
 go_wp2_with (at_builtin;refine Hid.out ?_)
 refine Lib.hid ?_
 refine zqH zrU rfl _ _ rfl (.slice A3 ks.length c3) ks.length ks rfl rfl (hrowm.out.keep0 frc) (by have:=hk9;omega) _ 125 [.string m.name,.slice Aa m.args.length ca,.int .i64 m.ret.kind,.string m.ret.name,.int .i64 m.locals,.int .i64 m.stack,.slice (some ⟨g,0,none⟩) (js.length+1) c2,.slice Ax m.maps.length cx] rfl bxc rfl (by simp[Value.oneCell']) ?_
 intro g3 c4 w9 hrow9 hcap9 hgf9 hor9
 have hw5:Fr No w w5:=hw4.trans0 hF45
 have hg3:w.heap.size+1+1<g3:=by
  rcases hor9 with h9|h9
  ·exact(hA3q.out _ h9).1
  ·rw[h9];simp;omega
 have hF59:Fr (fun x=>w.heap.size≤x∧x<wG.heap.size) w5 w9:=(hpm.alloc _).trans hgf9 (fun b hb e=>⟨by have:=(hA3q.out b e).1;omega,(hA3q.out b e).2⟩)
 have E0:=(D0m.alloc _).keepX hgf9 (fun e=>by have:=(hA3q.out _ e).1;omega)
 have E1:=(D1m.alloc _).keepX hgf9 (fun e=>by have:=(hA3q.out _ e).1;omega)
 have hw9:Fr No w w9:=hw5.trans hF59 (fun b hb e=>by first|omega|(dsimp only at e;omega))
 obtain⟨e0,e1,e2,e3⟩:=E0.c4
 obtain⟨f0,f1,f2,f3⟩:=E1.c4
 have el:=E0.lt
 have fl:=E1.lt
 have ef:=fun i=>E0.frozen i
 have ff:=fun i=>E1.frozen i
 have hfin:∀Wf,Fr (fun x=>x=w.heap.size∨x=w.heap.size+1) w9 Wf->ztL lo (⟨nm,sp,fs,ms ++ [⟨m.name,m.args,m.ret,m.locals,m.stack,m.code ++ [⟨xo,xa,xn,xb⟩],m.maps⟩]⟩,ok) w (.returned (.tuple #[.agg #[.string nm,.string sp,.slice Af fs.length cf,.slice (some ⟨g3,0,none⟩) (ks.length+1) c4],.bool ok])) Wf:=fun Wf hW=>by
  have hwf:Fr No w Wf:=hw9.trans hW (fun b hb e=>by omega)
  have h4f:Fr (fun x=>w.heap.size≤x∧x<wG.heap.size) w4 Wf:=(Fr.trans (Fr.of0 hF45) hF59 (fun b _ e=>e)).trans hW (fun b _ e=>⟨by omega,by omega⟩)
  have hr5:=(hrow5.out.keep hF59 (fun q hq e=>by rw[zcQ,if_neg (by omega)] at hq;cases hq;first|omega|(dsimp only at e;omega))).keep hW (fun q hq e=>by rw[zcQ,if_neg (by omega)] at hq;cases hq;first|omega|(dsimp only at e;omega))
  have hm9:MthC lo Wf [.string m.name,.slice Aa m.args.length ca,.int .i64 m.ret.kind,.string m.ret.name,.int .i64 m.locals,.int .i64 m.stack,.slice (some ⟨g,0,none⟩) (js.length+1) c2,.slice Ax m.maps.length cx] ⟨m.name,m.args,m.ret,m.locals,m.stack,m.code ++ [⟨xo,xa,xn,xb⟩],m.maps⟩:=⟨_,_,_,rfl,hn1,hn2,hma.out.k0 hwf,RRow.sl (RRow.snoc (n:=w.heap.size) rfl hjl.out (fun i h1 h2=>hjR.out i h1 h2) hel hr5 (by omega) hcap5) (fun q hq e=>by have:=hlo q e;omega),hmx.out.keep hwf zN (fun _ _ _ h=>h.keep hwf zN)⟩
  exact⟨[_,_,_,_],rfl,⟨_,_,rfl,hz1,hz2,hf.out.k0 hwf,RRow.sl (RRow.snoc (n:=w.heap.size) rfl hkl.out (fun i h1 h2=>(hkR.out i h1 h2).keep hwf zN) hm9 (hrow9.keep hW (fun q hq e=>by rw[zcQ,if_neg (by omega)] at hq;cases hq;first|omega|(dsimp only at e;omega))) (by omega) hcap9) (fun q hq e=>by have:=hlo q e;omega)⟩,hwf⟩
 replace hfin:=Lib.hid hfin
 simp only[Act.put,lz0,lz1,lz2]
 clear hrow9 hgf9 hor9 hF59 E0 E1 hpm D0m D1m D0 D1 DM p0 p1 p2 p3 p4 p5 p6 p7 d0 d1 d2 d3
 go_wp2
 refine bodyPost_ret (v:=.tuple #[.agg #[.string nm,.string sp,.slice Af fs.length cf,.slice (some ⟨g3,0,none⟩) (ks.length+1) c4],.bool ok]) (by  simp[results,Tryz.results144,go_sem, *]) rfl ?_
 skip
 refine hfin.out _ ?_
 repeat(first|(with_reducible exact Fr.refl _ _)|(with_reducible refine Fr.setCellXO (by first|exact .inl rfl|exact .inr rfl) ?_ _))
end Go.Proofs.YtmeaibjmnjcdfaaGreat
