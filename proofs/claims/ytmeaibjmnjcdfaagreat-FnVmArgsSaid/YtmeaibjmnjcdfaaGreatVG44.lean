/- The reference's l8Line: a line, behind keepers that were read. -/
import Derived.Test.YtmeaibjmnjcdfaaGreatVG42
import Derived.Test.YtmeaibjmnjcdfaaGreatVG43
set_option maxHeartbeats 8000000
set_option maxRecDepth 100000
namespace Go.Proofs.YtmeaibjmnjcdfaaGreat
open Go.RowKit
def ztZ (lo:Nat) (q:List Kpr×Bool) (w:World) (e:Ending) (w':World):Prop:=∃v,e=.returned (.tuple #[.agg #[v],.bool q.2])∧KsT lo w' v q.1∧Fr No w w'
def sKp:Bs:=[107,101,101,112,101,114]
def sAsk:Bs:=[97,115,107,115]
def sCls:Bs:=[99,108,97,115,115]
theorem zt0 (lo:Nat) (ks:List Kpr) (v:Value) (line:Str) (w:World) (hlo:lo≤w.heap.size) (hkT:KsT lo w v ks) (hls:line.size≤90000) (hx:Str.l line=sKp) (hl:ks.length≤1000):
  Calls Tryz.prog 89 #[.agg #[v],.string line] w (ztZ lo (ks ++ [⟨[],[]⟩],decide (ks.length<3)) w):=by
 have hk:=hkT.sl
 obtain⟨Ak,ck,rfl,hck,hlk⟩:=hk.form
 obtain⟨Y0,js,hPT,hjs⟩:=hkT.whole
 have hjl:=hPT.2.1
 have hjR:=hPT.c
 have honj:=zrJ zrN hjl hjR
 have HW:=fun W=>zq2 line W hls
 obtain⟨wA,hwA⟩:∃wA,wA=((w.alloc (.cells #[.slice Ak ks.length ck] 25)).alloc (.cells #[.slice none 0 0] 25)):=⟨_,rfl⟩
 have hfA:Fr No w wA:=hwA▸frc
 have B0:=(hwA▸bxc:Bx wA w.heap.size 25 #[.slice Ak ks.length ck])
 have B1:=(hwA▸bxc:Bx wA (w.heap.size+1) 25 #[.slice none 0 0])
 have hA2:w.heap.size+1<wA.heap.size:=B1.lt
 have g1:(line.toList == [107,101,101,112,101,114])=true:=by rw[eq_l];exact decide_eq_true hx
 have hj9:js.length≤100000:=by omega
 unfold maxLen at hlk
 replace hjl:=Lib.hid hjl
 replace hPT:=Lib.hid hPT
 clear hx hk hkT hjR
 go_enter Tryz.func89,Tryz.ntmps89
 go_wp2_with (go_at_call 141;rw[<-hwA];refine(HW _).mono ?_;rintro e w1 ⟨u,rfl,hu,hf1⟩;have E0:=B0.keep hf1;have E1:=B1.keep hf1;have c0:=E0.c1;have l0:=E0.lt;refine Hid.out ?_)
 refine Lib.hid ?_
 obtain⟨A,cap,rfl,_,_⟩:=hu.form
 have hw1:Fr No w w1:=hfA.trans0 hf1
 clear hu HW
 go_wp2_with (at_builtin;refine Hid.out ?_)
 refine Lib.hid ?_
 refine zqF zr2 rfl _ _ rfl _ rfl (fun b=>b<lo) (.slice Ak ks.length ck) js rfl (hjs.rawKeep (hw1.trans0 frc) zN) hj9 honj ?_
 intro A3 c3 w3 hrow3 hq3 hf3
 simp only[Act.put,lz0,lz1,lz2]
 have F0:=(Bx.keep (E0.alloc _) hf3)
 have F1:=(Bx.keep (E1.alloc _) hf3)
 have hw3:Fr No w w3:=(hw1.alloc _).trans0 hf3
 have hs1:=hf1.size
 have hA3q:∀q,zcP (.slice A3 js.length c3)=some q->w.heap.size+1<q:=fun q hq=>by rw[hq3 q hq];simp;omega
 replace hrow3:=Lib.hid hrow3
 replace hA3q:=Lib.hid hA3q
 go_wp2_with (at_builtin;refine Hid.out ?_)
 refine Lib.hid ?_
 refine zqH zr2 rfl _ _ rfl (.slice A3 js.length c3) js.length js rfl rfl (hrow3.out.keep0 frc) hj9 _ 90 [.slice none 0 0,.slice none 0 0] rfl bxc rfl (by simp[Value.oneCell']) ?_
 intro g c2 w5 hrow5 hcap5 hgf hor
 have hg:w.heap.size+1<g:=by
  rcases hor with h9|h9
  ·exact hA3q.out _ h9
  ·have:=hf3.size;rw[h9];simp at *;omega
 have D0:=Bx.keepX (F0.alloc _) hgf (fun e=>by have:=hA3q.out _ e;omega)
 have D1:=Bx.keepX (F1.alloc _) hgf (fun e=>by have:=hA3q.out _ e;omega)
 have hw5:Fr No w w5:=(hw3.alloc _).trans hgf (fun b hb e=>by have:=hA3q.out _ e;omega)
 have d0:=D0.c1
 have d1:=D1.c1
 have dl:=D0.lt
 have fl:=D1.lt
 have df:=fun i=>D0.frozen i
 have ff:=fun i=>D1.frozen i
 have hfin:∀Wf b9,b9=decide (ks.length<3)->Fr (fun x=>x=w.heap.size∨x=w.heap.size+1) w5 Wf->ztZ lo (ks ++ [⟨[],[]⟩],decide (ks.length<3)) w (.returned (.tuple #[.agg #[.slice (some ⟨g,0,none⟩) (js.length+1) c2],.bool b9])) Wf:=fun Wf b9 hb9 hW=>by
  have hwf:Fr No w Wf:=hw5.trans hW (fun b hb e=>by omega)
  exact⟨_,by rw[hb9],hPT.out.snoc hwf hlo rfl (hrow5.keep hW (fun q hq e=>by rw[zcQ,if_neg (by omega)] at hq;cases hq;first|omega|(dsimp only at e;omega))) (by omega) hcap5 (fun Y _ _=>⟨_,_,rfl,RRow.nil,RRow.nil⟩) (fun b hb _=>(ztX hb).elim),hwf⟩
 replace hfin:=Lib.hid hfin
 clear hrow5 hgf hor D0 D1 F0 F1 E0 E1 B0 B1
 simp only[Act.put,lz0,lz1,lz2]
 go_wp2
 refine bodyPost_ret (v:=.tuple #[.agg #[.slice (some ⟨g,0,none⟩) (js.length+1) c2],.bool (decide ((ks.length:Int)<3))]) (by simp[results,Tryz.results89,go_sem,d1]) rfl ?_
 refine hfin.out _ _ (Bool.eq_iff_iff.2 (by simp only[decide_eq_true_eq];omega)) ?_
 repeat(first|(with_reducible exact Fr.refl _ _)|(with_reducible refine Fr.setCellXO (by first|exact .inl rfl|exact .inr rfl) ?_ _))
theorem zt1 (lo:Nat)  (v:Value) (line:Str) (w:World) (_:lo≤w.heap.size) (hkT:KsT lo w v ([]:List Kpr)) (hls:line.size≤90000) (hx:¬Str.l line=sKp):
  Calls Tryz.prog 89 #[.agg #[v],.string line] w (ztZ lo ([],false) w):=by
 have hk:=hkT.sl
 obtain⟨Ak,ck,rfl,hck,hlk⟩:=hk.form
 simp only[List.length_nil] at *
 have HW:=fun W=>zq2 line W hls
 have hB:=Bx.new w 25 #[.slice Ak 0 ck]
 obtain⟨wA,hwA⟩:∃wA,wA=((w.alloc (.cells #[.slice Ak 0 ck] 25)).alloc (.cells #[.slice none 0 0] 25)):=⟨_,rfl⟩
 have hfA:Fr No w wA:=hwA▸frc
 have B0:=(hwA▸bxc:Bx wA w.heap.size 25 #[.slice Ak 0 ck])
 have B1:=(hwA▸bxc:Bx wA (w.heap.size+1) 25 #[.slice none 0 0])
 have g1:(line.toList == [107,101,101,112,101,114])=false:=by rw[eq_l];exact decide_eq_false hx
 replace hkT:=Lib.hid hkT
 clear hx hk
 go_enter Tryz.func89,Tryz.ntmps89
 go_wp2_with (go_at_call 141;rw[<-hwA];refine(HW _).mono ?_;rintro e w1 ⟨u,rfl,hu,hf1⟩;have E0:=B0.keep hf1;have E1:=B1.keep hf1;have c0:=E0.c1;have l0:=E0.lt;have c1:=E1.c1;have l1:=E1.lt;have f1:=(fun i=>E1.frozen i);have hw1:Fr No w w1:=hfA.trans0 hf1;clear hu)
 refine bodyPost_ret (v:=.tuple #[.agg #[.slice Ak 0 ck],.bool false]) (by simp[results,Tryz.results89,go_sem,c1]) rfl ?_
 have hfin:∀Wf,Fr No w Wf->ztZ lo ([],false) w (.returned (.tuple #[.agg #[.slice Ak 0 ck],.bool false])) Wf:=fun Wf hW=>⟨_,rfl,hkT.out.keep hW,hW⟩
 exact hfin _ (by exact frc)
theorem zt2 {ws:List Str} (h:∀x∈ws,x.size≤maxLen):(zqk ws).1.name.size≤maxLen:=by
 unfold zqk
 split
 ·exact h _ (by simp)
 ·exact Nat.zero_le _
theorem zt3 (lo:Nat) (kp:List Kpr) (owns:List Cls) (aks:List Ask) (x0:Str) (xs:List Str) (v:Value) (line:Str) (w:World) (hlo:lo≤w.heap.size) (hkT:KsT lo w v (kp ++ [⟨owns,aks⟩])) (hls:line.size≤90000) (hx:¬Str.l line=sKp) (hwx:zpV line=x0 :: xs) (hl:kp.length≤1000) (hx0:Str.l x0=sAsk) (hl2:aks.length≤1000):
  Calls Tryz.prog 89 #[.agg #[v],.string line] w (ztZ lo (kp ++ [⟨owns,aks ++ [(zqk (x0 :: xs)).1]⟩],(zqk (x0 :: xs)).2&&owns.isEmpty) w):=by
 have hk:=hkT.sl
 obtain⟨Ak,ck,rfl,hck,hlk⟩:=hk.form
 have hkl9:(kp ++ [(⟨owns,aks⟩:Kpr)]).length=kp.length+1:=by simp
 obtain⟨bm,om,Ao,co,Aa,ca,rfl,_,y0,y1,hmo,hma,ho1,ho2,ha1,ha2⟩:=hk.kpr (k:=kp.length) (by omega)
 have hem:(kp ++ [(⟨owns,aks⟩:Kpr)])[kp.length]'(by omega)=⟨owns,aks⟩:=by simp
 rw[hem] at y0 y1 hmo hma ho1 ho2 ha1 ha2
 dsimp only at y0 y1 hmo hma ho1 ho2 ha1 ha2
 obtain⟨Y0,js,hPT,hLT,hjs,hY9⟩:=hkT.parts y0 y1
 have hjl:=hPT.2.1
 have hjR:=hPT.c
 have honj:=zrJ zrN hjl hjR
 rw[hkl9] at hck hlk ⊢
 have hbm:=lt_of_cell y0
 have HW:=fun W=>zq2 line W hls
 rw[hwx] at HW
 obtain⟨wA,hwA⟩:∃wA,wA=((w.alloc (.cells #[.slice (some ⟨bm,om,none⟩) (kp.length+1) ck] 25)).alloc (.cells #[.slice none 0 0] 25)):=⟨_,rfl⟩
 have hfA:Fr No w wA:=hwA▸frc
 have B0:=(hwA▸bxc:Bx wA w.heap.size 25 #[.slice (some ⟨bm,om,none⟩) (kp.length+1) ck])
 have B1:=(hwA▸bxc:Bx wA (w.heap.size+1) 25 #[.slice none 0 0])
 have hA2:w.heap.size+1<wA.heap.size:=B1.lt
 have g1:(line.toList == [107,101,101,112,101,114])=false:=by rw[eq_l];exact decide_eq_false hx
 have hj9:js.length≤100000:=by omega
 unfold maxLen at hlk ho2 ha2
 have hn9:((kp.length+1:Nat):Int)=(kp.length:Int)+1:=by omega
 have hn8:((kp.length:Int)+1 == 0)=false:=beq_eq_false_iff_ne.2 (by omega)
 have hn7:((kp.length:Int)+1-1)=(kp.length:Int):=by omega
 have g2:(x0.toList == [97,115,107,115])=true:=by rw[eq_l];exact decide_eq_true hx0
 replace hjl:=Lib.hid hjl
 replace hPT:=Lib.hid hPT
 replace hLT:=Lib.hid hLT
 clear hx hk hkT hjR hem hkl9
 go_enter Tryz.func89,Tryz.ntmps89
 go_wp2_with (go_at_call 141;rw[<-hwA];refine(HW _).mono ?_;rintro e w1 ⟨u,rfl,hu,hf1⟩;refine Hid.out ?_)
 refine Lib.hid ?_
 have hw1:Fr No w w1:=hfA.trans0 hf1
 have hs1:=hf1.size
 have E0:=B0.keep hf1
 have E1:=B1.keep hf1
 have e0:=E0.c1
 have el:=E0.lt
 have el1:=E1.lt
 obtain⟨A,cap,rfl,hcap,hlen⟩:=hu.form
 obtain⟨bk,off,rfl,_,c0,z0⟩:=hu.strs (k:=0) (by simp)
 simp only[Nat.add_zero,List.getElem_cons_zero] at c0 z0
 have hbl:=lt_of_cell c0
 unfold maxLen at hlen
 have hwl:(x0 :: xs).length=xs.length+1:=rfl
 replace y0:=hw1.keep0 y0
 replace y1:=hw1.keep0 y1
 have hbm1:=lt_of_cell y0
 clear HW B0 B1 hbm
 have hqz:(zqk (x0 :: xs)).1.name.size≤maxLen:=zt2 (fun y hy=>by
  obtain⟨k,hk,rfl⟩:=List.getElem_of_mem hy
  obtain⟨_,_,_,_,_,h⟩:=hu.strs hk
  exact h)
 have HF:=fun W (hW:Fr No w1 W)=>zq6 (fun b=>b<wA.heap.size) _ (x0 :: xs) W (hu.k0 hW)
 simp only[List.length_cons] at HF
 obtain⟨ps,hpl,hpR,hps⟩:=hma.raw
 have honp:=zrJ zrQ hpl hpR
 have hp9:ps.length≤100000:=by omega
 replace hpl:=Lib.hid hpl
 replace hpR:=Lib.hid hpR
 generalize zqk (x0 :: xs)=q at *
 obtain⟨⟨an,ak⟩,ok⟩:=q
 dsimp only at *
 have hel:AskC [.string an,.int .i64 ak] ⟨an,ak⟩:=⟨rfl,hqz⟩
 have hw1A:=hw1.alloc (.cells #[.slice Ao owns.length co,.slice Aa aks.length ca] 90 )
 clear hu
 go_wp2_with (go_at_call 142;refine(HF _ (by exact frc)).mono ?_;rintro e w2 ⟨rfl,hf2⟩;have GKc:=((Bx.new w1 90 #[.slice Ao owns.length co,.slice Aa aks.length ca]).keep hf2);obtain⟨m0,m1⟩:=GKc.c2;have ml:=GKc.lt;refine Hid.out ?_)
 refine Lib.hid ?_
 have G0:=(E0.alloc (.cells #[.slice Ao owns.length co,.slice Aa aks.length ca] 90 )).keep hf2
 have G1:=(E1.alloc (.cells #[.slice Ao owns.length co,.slice Aa aks.length ca] 90 )).keep hf2
 have hw2:Fr No w w2:=hw1A.trans0 hf2
 obtain⟨OK,hOK⟩:∃OK,OK=(ok&&owns.isEmpty):=⟨_,rfl⟩
 have hcase:(ok=false∧OK=false)∨(ok=true∧((owns.length:Int) == 0)=true∧OK=true)∨(ok=true∧((owns.length:Int) == 0)=false∧OK=false):=by
  rw[hOK]
  cases ok
  ·simp
  ·cases owns with
   | nil=>simp
   | cons a b=>right;right;exact⟨rfl,beq_eq_false_iff_ne.2 (by simp;omega),rfl⟩
 replace hOK:=Lib.hid hOK
 clear HF E0 E1
 rcases hcase with ⟨rfl,hO⟩ | ⟨rfl,hce,hO⟩ | ⟨rfl,hce,hO⟩
 all_goals
  replace hO:=Lib.hid hO
  go_wp2_with fail
  obtain⟨wB,hwB⟩:∃wB,wB=w2.alloc (.cells #[.string an,.int .i64 ak] 150):=⟨_,rfl⟩
  rw[<-hwB]
  have hfB:Fr No w2 wB:=hwB▸frc
  have BE:Bx wB w2.heap.size 150 #[.string an,.int .i64 ak]:=hwB▸Bx.new w2 _ _
  have GKB:=GKc.keep hfB
  have hwb:Fr No w wB:=hw2.trans0 hfB
  replace hwB:=Lib.hid hwB
  clear m0 m1 ml
  have hksW:=Lib.hid (fun W (hW:Fr No wB W)=>hps.rawKeep (hwb.trans0 hW) zN)
  have KM:=GKB.r2
  have KE:=BE.r2
  refine zn0 6 89 [mS 150 (#[]) 0 wB.heap.size,mV (.pointer (some ⟨w1.heap.size,1,none⟩)),mV (.slice Aa aks.length ca),mC (cpP 150 ps wB.heap.size) (zrG _ _ _),mV (.agg #[.string an,.int .i64 ak]),mS 150 (#[.string an,.int .i64 ak]) 1 wB.heap.size] (by kernel_rfl) (by kernel_rfl) (by simp) ?_ ?_
  ·refine hc4 ?_ ?_ ?_ ?_ <| hopC ?_ <| hopC ?_ <| hopZ
   all_goals (intro a' W hW hoff hdep;have hbs:=hW.size;have H8:=hoff 8 rfl;have H10:=hoff 10 rfl;refine nE rfl ?_)
   ·simp[execOp,go_sem,zaa];exact⟨(Fr.refl _ _).alloc _,⟨_,rfl,Bx.new_ rfl,hbs⟩,Nat.le_refl _⟩
   ·simp[execOp,Act.eval,H8,go_sem,zaa];exact fr1 rfl
   ·have D84:_=_:=hdep 1 84 rfl;clear hoff hdep;simp[execOp,Act.eval,go_sem,zaa, *];exact fr1 rfl
   ·obtain⟨b,D83,hb,hl⟩:(slB 150 #[] 0 wB.heap.size) _ W:=hdep 0 83 rfl
    have D85:_=_:=hdep 2 85 rfl
    exact zrH zr4 rfl (hksW.out W hW) hp9 honp D83 D85 hbs
   ·exact gx0
   ·have D87:_=_:=hdep 4 87 rfl;simp at D87;simp[execOp,Act.eval,D87,go_sem,zaa];exact⟨(Fr.refl _ _).alloc _,⟨_,rfl,Bx.new_ rfl,hbs⟩,Nat.le_refl _⟩
  intro vs WR hWR hv hne
  obtain⟨b0,e0,hb0,hl0⟩:=hv 0 (by omega)
  obtain⟨A0R3,c0R3,e3,hA0R3,hq0R3⟩:=hv 3 (by omega)
  obtain⟨b5,e5,hb5,hl5⟩:=hv 5 (by omega)
  simp only[lz6,List.drop_zero,znM,znQ,znK,znR,Nat.zero_add,Nat.reduceAdd,e0,e3,e5]
  simp only[Act.put,lz0,lz1,lz2]
  clear e0 e3 e5 hv
  refine zqH zr4 rfl _ _ rfl (.slice A0R3 ps.length c0R3) ps.length ps rfl rfl hA0R3 hp9 b5 150 [.string an,.int .i64 ak] rfl hb5 rfl (by simp[Value.oneCell']) ?_
  intro g c2 w5 hrow5 hcap5 hgf hor
  have hsB:=hfB.size
  have hs2:w1.heap.size+1≤w2.heap.size:=by simpa using hf2.size
  have hg:wB.heap.size≤g:=by
   rcases hor with h9|h9
   ·exact hq0R3 _ h9
   ·have:=hWR.size;omega
  have D0:=((G0.keep hfB).keep hWR).keepX hgf (fun e=>by have:=hq0R3 _ e;omega)
  have D1:=((G1.keep hfB).keep hWR).keepX hgf (fun e=>by have:=hq0R3 _ e;omega)
  have DK:=(GKB.keep hWR).keepX hgf (fun e=>by have:=hq0R3 _ e;omega)
  have hw5:Fr No w w5:=(hwb.trans0 hWR).trans hgf (fun b hb e=>by have:=hq0R3 _ e;have:=hwb.size;omega)
  obtain⟨k0,k1⟩:=DK.c2
  have kl:=DK.lt
  have kf:=fun i=>DK.frozen i
  simp only[Act.put,lz0,lz1,lz2]
  replace hrow5:=Lib.hid hrow5
  clear hA0R3 hb5 KM KE hor
  go_wp2_with fail
  obtain⟨wZ,hwZ⟩:∃wZ,wZ=w5.setCell ⟨w1.heap.size,1,none⟩ (.slice (some ⟨g,0,none⟩) (ps.length+1) c2):=⟨_,rfl⟩
  rw[<-hwZ]
  have hpz:Fr (fun x=>x=w1.heap.size) w5 wZ:=hwZ▸Fr.put1 _ _ _ _
  have ZK:Bx wZ w1.heap.size 90 #[.slice Ao owns.length co,.slice (some ⟨g,0,none⟩) (ps.length+1) c2]:=hwZ▸DK.set_ 1 _
  have Z0:=D0.keepX hpz (by omega)
  have Z1:=D1.keepX hpz (by omega)
  have hwz:Fr No w wZ:=hw5.trans hpz (fun b hb e=>by have:=hw1.size;omega)
  replace hwZ:=Lib.hid hwZ
  have hr5:=hrow5.out.keep hpz (fun q hq e=>by rw[zcQ,if_neg (by omega)] at hq;cases hq;first|omega|(dsimp only at e;omega))
  clear k0 k1 kl kf D0 D1 DK
  have hnk:Hid (∀g8 Wf,Fr (fun x=>x=w.heap.size∨x=w.heap.size+1) wZ Wf->∀Y:Nat->Prop,(∀b,Y b->b<w.heap.size->Y0 b)->(∀b,Y b->w.heap.size≤b->b=g8∨ztV [.slice Ao owns.length co,.slice (some ⟨g,0,none⟩) (ps.length+1) c2] b)->KprT Y lo Wf [.slice Ao owns.length co,.slice (some ⟨g,0,none⟩) (ps.length+1) c2] ⟨owns,aks ++ [⟨an,ak⟩]⟩):=fun g8 Wf hzf Y hY _=>by
   have hwf:Fr No w Wf:=hwz.trans hzf (fun b hb e=>by omega)
   obtain⟨vo9,va9,e9,ho9,_⟩:=hLT.out.1
   cases e9
   exact⟨_,_,rfl,(ho9.mono (fun _ _ h=>h.wid hY)).keep hwf (fun _ _ h=>h) (fun _ _ _ h=>h.keep hwf zN),RRow.snoc (n:=lo) rfl hpl.out (fun i h1 h2=>hpR.out i h1 h2) hel (hr5.keep hzf (fun q hq e=>by rw[zcQ,if_neg (by omega)] at hq;cases hq;first|omega|(dsimp only at e;omega))) (by have:=hw1.size;omega) hcap5⟩
  have K0:=Z0.r1
  have KK:=ZK.r2
  have hjsW:=Lib.hid (fun W (hW:Fr No wZ W)=>hjs.rawKeep (hwz.trans0 hW) zN)
  have hzl1:=Z1.lt
  replace hwA:=Lib.hid hwA
  refine zn0 9 116 [mS 90 (#[]) 0 wZ.heap.size,mV (.pointer (some ⟨w.heap.size,0,none⟩)),mV (.slice (some ⟨bm,om,none⟩) (kp.length+1) ck),mV (.int .i64 ((kp.length:Int)+1)),mV (.int .i64 (kp.length:Int)),mV (.slice (some ⟨bm,om,none⟩) kp.length ck),mC (cpP 90 js wZ.heap.size) (zrG _ _ _),mV (.agg #[.slice Ao owns.length co,.slice (some ⟨g,0,none⟩) (ps.length+1) c2]),mS 90 (#[.slice Ao owns.length co,.slice (some ⟨g,0,none⟩) (ps.length+1) c2]) 1 wZ.heap.size] (by kernel_rfl) (by kernel_rfl) (by simp) ?_ ?_
  ·refine hc4 ?_ ?_ ?_ ?_ <| hc4 ?_ ?_ ?_ ?_ <| hopC ?_ <| hopZ
   all_goals (intro a' W hW hoff hdep;have hbs:=hW.size;have H2:=hoff 2 rfl;have H7:=hoff 7 rfl;have H8:=hoff 8 rfl;refine nE rfl ?_)
   ·simp[execOp,go_sem,zaa];exact⟨(Fr.refl _ _).alloc _,⟨_,rfl,Bx.new_ rfl,hbs⟩,Nat.le_refl _⟩
   ·simp[execOp,Act.eval,H2,go_sem,zaa];exact fr1 rfl
   ·have D108:_=_:=hdep 1 108 rfl;clear hoff hdep;simp[execOp,Act.eval,go_sem,zaa, *];exact fr1 rfl
   ·simp[execOp,Act.eval,H7,go_sem,zaa];exact fr1 rfl
   ·have D110:_=_:=hdep 3 110 rfl;simp[execOp,Act.eval,D110,go_sem,zaa];exact fr1 (show Value.int .i64 _=_ by rw[IntWalk.i64_in _ (by omega)])
   ·have D109:_=_:=hdep 2 109 rfl;have D111:_=_:=hdep 4 111 rfl;clear hoff hdep;simp[execOp,Act.eval,go_sem,zaa,↓IntWalk.iteOmega, *];exact fr1 rfl
   ·obtain⟨b,D107,hb,hl⟩:(slB 90 #[] 0 wZ.heap.size) _ W:=hdep 0 107 rfl
    have D112:_=_:=hdep 5 112 rfl
    exact zrH zr2 rfl (hjsW.out W hW) hj9 honj D107 D112 hbs
   ·exact gx0
   ·have D114:_=_:=hdep 7 114 rfl;simp at D114;simp[execOp,Act.eval,D114,go_sem,zaa];exact⟨(Fr.refl _ _).alloc _,⟨_,rfl,Bx.new_ rfl,hbs⟩,Nat.le_refl _⟩
  intro vs WR hWR hv hne
  obtain⟨b0,e0,hb0,hl0⟩:=hv 0 (by omega)
  obtain⟨A0R6,c0R6,e6,hA0R6,hq0R6⟩:=hv 6 (by omega)
  obtain⟨b8,e8,hb8,hl8⟩:=hv 8 (by omega)
  simp only[lz6,List.drop_zero,znM,znQ,znK,znR,Nat.zero_add,Nat.reduceAdd,e0,e6,e8]
  simp only[Act.put,lz0,lz1,lz2]
  clear e0 e6 e8 hv
  refine zqH zr2 rfl _ _ rfl (.slice A0R6 js.length c0R6) js.length js rfl rfl hA0R6 hj9 b8 90 [.slice Ao owns.length co,.slice (some ⟨g,0,none⟩) (ps.length+1) c2] rfl hb8 rfl (by simp[Value.oneCell']) ?_
  intro g9 c9 w9 hrow9 hcap9 hgf9 hor9
  have hg9:w.heap.size+1<g9:=by
   rcases hor9 with h9|h9
   ·have:=hq0R6 _ h9;omega
   ·have:=hWR.size;omega
  have YY0:=Bx.keepX (Z0.keep hWR) hgf9 (fun e=>by have:=hq0R6 _ e;omega)
  have YY1:=Bx.keepX (Z1.keep hWR) hgf9 (fun e=>by have:=hq0R6 _ e;omega)
  have hw9:Fr No wZ w9:=hWR.trans hgf9 (fun b hb e=>by have:=hq0R6 _ e;omega)
  have d0:=YY0.c1
  have d1:=YY1.c1
  have dl:=YY0.lt
  have fl:=YY1.lt
  have df:=fun i=>YY0.frozen i
  have ff:=fun i=>YY1.frozen i
  have hfin:∀Wf,Fr (fun x=>x=w.heap.size∨x=w.heap.size+1) w9 Wf->ztZ lo (kp ++ [⟨owns,aks ++ [⟨an,ak⟩]⟩],OK) w (.returned (.tuple #[.agg #[.slice (some ⟨g9,0,none⟩) (js.length+1) c9],.bool OK])) Wf:=fun Wf hW=>by
   have hzf:Fr (fun x=>x=w.heap.size∨x=w.heap.size+1) wZ Wf:=(Fr.of0 hw9).trans hW (fun b _ e=>e)
   have hwf:Fr No w Wf:=hwz.trans hzf (fun b hb e=>by omega)
   exact⟨_,rfl,hPT.out.snoc hwf hlo rfl (hrow9.keep hW (fun q hq e=>by rw[zcQ,if_neg (by omega)] at hq;cases hq;first|omega|(dsimp only at e;omega))) (by omega) hcap9 (fun Y h1 h2=>hnk.out g9 Wf hzf Y h1 h2) (hLT.out.oldO (ztY (by have:=hwb.size;omega))),hwf⟩
  replace hfin:=Lib.hid hfin
  simp only[Act.put,lz0,lz1,lz2]
  clear hrow9 hgf9 hor9 K0 KK YY0 YY1
  go_wp2
  refine bodyPost_ret (v:=.tuple #[.agg #[.slice (some ⟨g9,0,none⟩) (js.length+1) c9],.bool OK]) (by rw[hO.out];simp[results,Tryz.results89,go_sem,d1]) rfl ?_
  rw[<-hOK.out]
  refine hfin.out _ ?_
  repeat(first|(with_reducible exact Fr.refl _ _)|(with_reducible refine Fr.setCellXO (by first|exact .inl rfl|exact .inr rfl) ?_ _))
theorem zt4 {ws:List Str} (h:∀x∈ws,x.size≤maxLen):(zql ws).1.name.size≤maxLen∧(zql ws).1.super.size≤maxLen∧(zql ws).1.fields=[]∧(zql ws).1.methods=[]:=by
 unfold zql
 split
 ·split
  ·refine⟨h _ (by simp),?_,rfl,rfl⟩
   dsimp only
   split
   ·exact Nat.zero_le _
   ·exact h _ (by simp)
  ·exact⟨Nat.zero_le _,Nat.zero_le _,rfl,rfl⟩
 ·exact⟨Nat.zero_le _,Nat.zero_le _,rfl,rfl⟩
theorem zt5 (lo:Nat) (kp:List Kpr) (owns:List Cls) (aks:List Ask) (x0:Str) (xs:List Str) (v:Value) (line:Str) (w:World) (hlo:lo≤w.heap.size) (hkT:KsT lo w v (kp ++ [⟨owns,aks⟩])) (hls:line.size≤90000) (hx:¬Str.l line=sKp) (hwx:zpV line=x0 :: xs) (hl:kp.length≤1000) (hx0:Str.l x0=sCls) (hl2:owns.length≤1000):
  Calls Tryz.prog 89 #[.agg #[v],.string line] w (ztZ lo (kp ++ [⟨owns ++ [(zql (x0 :: xs)).1],aks⟩],(zql (x0 :: xs)).2) w):=by
 have hk:=hkT.sl
 obtain⟨Ak,ck,rfl,hck,hlk⟩:=hk.form
 have hkl9:(kp ++ [(⟨owns,aks⟩:Kpr)]).length=kp.length+1:=by simp
 obtain⟨bm,om,Ao,co,Aa,ca,rfl,_,y0,y1,hmo,hma,ho1,ho2,ha1,ha2⟩:=hk.kpr (k:=kp.length) (by omega)
 have hem:(kp ++ [(⟨owns,aks⟩:Kpr)])[kp.length]'(by omega)=⟨owns,aks⟩:=by simp
 rw[hem] at y0 y1 hmo hma ho1 ho2 ha1 ha2
 dsimp only at y0 y1 hmo hma ho1 ho2 ha1 ha2
 obtain⟨Y0,js,hPT,hLT,hjs,hY9⟩:=hkT.parts y0 y1
 have hjl:=hPT.2.1
 have hjR:=hPT.c
 have honj:=zrJ zrN hjl hjR
 rw[hkl9] at hck hlk ⊢
 have hbm:=lt_of_cell y0
 have HW:=fun W=>zq2 line W hls
 rw[hwx] at HW
 obtain⟨wA,hwA⟩:∃wA,wA=((w.alloc (.cells #[.slice (some ⟨bm,om,none⟩) (kp.length+1) ck] 25)).alloc (.cells #[.slice none 0 0] 25)):=⟨_,rfl⟩
 have hfA:Fr No w wA:=hwA▸frc
 have B0:=(hwA▸bxc:Bx wA w.heap.size 25 #[.slice (some ⟨bm,om,none⟩) (kp.length+1) ck])
 have B1:=(hwA▸bxc:Bx wA (w.heap.size+1) 25 #[.slice none 0 0])
 have hA2:w.heap.size+1<wA.heap.size:=B1.lt
 have g1:(line.toList == [107,101,101,112,101,114])=false:=by rw[eq_l];exact decide_eq_false hx
 have hj9:js.length≤100000:=by omega
 unfold maxLen at hlk ho2 ha2
 have hn9:((kp.length+1:Nat):Int)=(kp.length:Int)+1:=by omega
 have hn8:((kp.length:Int)+1 == 0)=false:=beq_eq_false_iff_ne.2 (by omega)
 have hn7:((kp.length:Int)+1-1)=(kp.length:Int):=by omega
 have g2:(x0.toList == [97,115,107,115])=false:=by rw[eq_l,hx0];rfl
 have g3:(x0.toList == [99,108,97,115,115])=true:=by rw[eq_l];exact decide_eq_true hx0
 replace hjl:=Lib.hid hjl
 replace hPT:=Lib.hid hPT
 replace hLT:=Lib.hid hLT
 clear hx hk hkT hjR hem hkl9
 go_enter Tryz.func89,Tryz.ntmps89
 go_wp2_with (go_at_call 141;rw[<-hwA];refine(HW _).mono ?_;rintro e w1 ⟨u,rfl,hu,hf1⟩;refine Hid.out ?_)
 refine Lib.hid ?_
 have hw1:Fr No w w1:=hfA.trans0 hf1
 have hs1:=hf1.size
 have E0:=B0.keep hf1
 have E1:=B1.keep hf1
 have e0:=E0.c1
 have el:=E0.lt
 have el1:=E1.lt
 obtain⟨A,cap,rfl,hcap,hlen⟩:=hu.form
 obtain⟨bk,off,rfl,_,c0,z0⟩:=hu.strs (k:=0) (by simp)
 simp only[Nat.add_zero,List.getElem_cons_zero] at c0 z0
 have hbl:=lt_of_cell c0
 unfold maxLen at hlen
 have hwl:(x0 :: xs).length=xs.length+1:=rfl
 replace y0:=hw1.keep0 y0
 replace y1:=hw1.keep0 y1
 have hbm1:=lt_of_cell y0
 clear HW B0 B1 hbm
 have hqz:(zql (x0 :: xs)).1.name.size≤maxLen∧(zql (x0 :: xs)).1.super.size≤maxLen∧(zql (x0 :: xs)).1.fields=[]∧(zql (x0 :: xs)).1.methods=[]:=zt4 (fun y hy=>by
  obtain⟨k,hk,rfl⟩:=List.getElem_of_mem hy
  obtain⟨_,_,_,_,_,h⟩:=hu.strs hk
  exact h)
 have HF:=fun W (hW:Fr No w1 W)=>zq9 (fun b=>b<wA.heap.size) _ (x0 :: xs) W (hu.k0 hW)
 simp only[List.length_cons] at HF
 obtain⟨qs,hql,hqR,hqs⟩:∃qs:List (Raw 4),qs.length=owns.length∧(∀i (h1:i<qs.length) (h2:i<owns.length),ClsC Y0 w qs[i].1 owns[i])∧Sl (fun b=>b<lo) w 4 RawC (.slice Ao owns.length co) qs:=by
  obtain⟨vo9,va9,e9,ho9,_⟩:=hLT.out.1
  cases e9
  exact ho9.rawS
 have honq:=zrJ zrK hql hqR
 have hq9:qs.length≤100000:=by omega
 replace hql:=Lib.hid hql
 replace hqR:=Lib.hid hqR
 generalize zql (x0 :: xs)=q at *
 obtain⟨⟨an,ap,af,am⟩,ok⟩:=q
 dsimp only at *
 obtain⟨hz1,hz2,rfl,rfl⟩:=hqz
 have hw1A:=hw1.alloc (.cells #[.slice Ao owns.length co,.slice Aa aks.length ca] 90 )
 clear hu
 go_wp2_with (go_at_call 143;refine(HF _ (by exact frc)).mono ?_;rintro e w2 ⟨rfl,hf2⟩;have GKc:=((Bx.new w1 90 #[.slice Ao owns.length co,.slice Aa aks.length ca]).keep hf2);obtain⟨m0,m1⟩:=GKc.c2;have ml:=GKc.lt)
 have G0:=(E0.alloc (.cells #[.slice Ao owns.length co,.slice Aa aks.length ca] 90 )).keep hf2
 have G1:=(E1.alloc (.cells #[.slice Ao owns.length co,.slice Aa aks.length ca] 90 )).keep hf2
 have hw2:Fr No w w2:=hw1A.trans0 hf2
 clear HF E0 E1
 obtain⟨wB,hwB⟩:∃wB,wB=w2.alloc (.cells #[.string an,.string ap,.slice none 0 0,.slice none 0 0] 55):=⟨_,rfl⟩
 rw[<-hwB]
 have hfB:Fr No w2 wB:=hwB▸frc
 have BE:Bx wB w2.heap.size 55 #[.string an,.string ap,.slice none 0 0,.slice none 0 0]:=hwB▸Bx.new w2 _ _
 have GKB:=GKc.keep hfB
 have hwb:Fr No w wB:=hw2.trans0 hfB
 replace hwB:=Lib.hid hwB
 clear m0 m1 ml
 have hksW:=Lib.hid (fun W (hW:Fr No wB W)=>hqs.rawKeep (hwb.trans0 hW) zN)
 have KM:=GKB.r2
 have KE:=BE.r4
 refine zn0 6 105 [mS 55 (#[]) 0 wB.heap.size,mV (.pointer (some ⟨w1.heap.size,0,none⟩)),mV (.slice Ao owns.length co),mC (cpP 55 qs wB.heap.size) (zrG _ _ _),mV (.agg #[.string an,.string ap,.slice none 0 0,.slice none 0 0]),mS 55 (#[.string an,.string ap,.slice none 0 0,.slice none 0 0]) 1 wB.heap.size] (by kernel_rfl) (by kernel_rfl) (by simp) ?_ ?_
 ·refine hc4 ?_ ?_ ?_ ?_ <| hopC ?_ <| hopC ?_ <| hopZ
  all_goals (intro a' W hW hoff hdep;have hbs:=hW.size;have H8:=hoff 8 rfl;have H12:=hoff 12 rfl;refine nE rfl ?_)
  ·simp[execOp,go_sem,zaa];exact⟨(Fr.refl _ _).alloc _,⟨_,rfl,Bx.new_ rfl,hbs⟩,Nat.le_refl _⟩
  ·simp[execOp,Act.eval,H8,go_sem,zaa];exact fr1 rfl
  ·have D100:_=_:=hdep 1 100 rfl;clear hoff hdep;simp[execOp,Act.eval,go_sem,zaa, *];exact fr1 rfl
  ·obtain⟨b,D99,hb,hl⟩:(slB 55 #[] 0 wB.heap.size) _ W:=hdep 0 99 rfl
   have D101:_=_:=hdep 2 101 rfl
   exact zrH zrS rfl (hksW.out W hW) hq9 honq D99 D101 hbs
  ·exact gx0
  ·have D103:_=_:=hdep 4 103 rfl;simp at D103;simp[execOp,Act.eval,D103,go_sem,zaa];exact⟨(Fr.refl _ _).alloc _,⟨_,rfl,Bx.new_ rfl,hbs⟩,Nat.le_refl _⟩
 intro vs WR hWR hv hne
 obtain⟨b0,e0,hb0,hl0⟩:=hv 0 (by omega)
 obtain⟨A0R3,c0R3,e3,hA0R3,hq0R3⟩:=hv 3 (by omega)
 obtain⟨b5,e5,hb5,hl5⟩:=hv 5 (by omega)
 simp only[lz6,List.drop_zero,znM,znQ,znK,znR,Nat.zero_add,Nat.reduceAdd,e0,e3,e5]
 simp only[Act.put,lz0,lz1,lz2]
 clear e0 e3 e5 hv
 refine zqH zrS rfl _ _ rfl (.slice A0R3 qs.length c0R3) qs.length qs rfl rfl hA0R3 hq9 b5 55 [.string an,.string ap,.slice none 0 0,.slice none 0 0] rfl hb5 rfl (by simp[Value.oneCell']) ?_
 intro g c2 w5 hrow5 hcap5 hgf hor
 have hsB:=hfB.size
 have hs2:w1.heap.size+1≤w2.heap.size:=by simpa using hf2.size
 have hg:wB.heap.size≤g:=by
  rcases hor with h9|h9
  ·exact hq0R3 _ h9
  ·have:=hWR.size;omega
 have D0:=((G0.keep hfB).keep hWR).keepX hgf (fun e=>by have:=hq0R3 _ e;omega)
 have D1:=((G1.keep hfB).keep hWR).keepX hgf (fun e=>by have:=hq0R3 _ e;omega)
 have DK:=(GKB.keep hWR).keepX hgf (fun e=>by have:=hq0R3 _ e;omega)
 have hw5:Fr No w w5:=(hwb.trans0 hWR).trans hgf (fun b hb e=>by have:=hq0R3 _ e;have:=hwb.size;omega)
 obtain⟨k0,k1⟩:=DK.c2
 have kl:=DK.lt
 have kf:=fun i=>DK.frozen i
 simp only[Act.put,lz0,lz1,lz2]
 replace hrow5:=Lib.hid hrow5
 clear hA0R3 hb5 KM KE hor
 go_wp2_with fail
 obtain⟨wZ,hwZ⟩:∃wZ,wZ=w5.setCell ⟨w1.heap.size,0,none⟩ (.slice (some ⟨g,0,none⟩) (qs.length+1) c2):=⟨_,rfl⟩
 rw[<-hwZ]
 have hpz:Fr (fun x=>x=w1.heap.size) w5 wZ:=hwZ▸Fr.put1 _ _ _ _
 have ZK:Bx wZ w1.heap.size 90 #[.slice (some ⟨g,0,none⟩) (qs.length+1) c2,.slice Aa aks.length ca]:=hwZ▸DK.set_ 0 _
 have Z0:=D0.keepX hpz (by omega)
 have Z1:=D1.keepX hpz (by omega)
 have hwz:Fr No w wZ:=hw5.trans hpz (fun b hb e=>by have:=hw1.size;omega)
 replace hwZ:=Lib.hid hwZ
 have hr5:=hrow5.out.keep hpz (fun q hq e=>by rw[zcQ,if_neg (by omega)] at hq;cases hq;first|omega|(dsimp only at e;omega))
 clear k0 k1 kl kf D0 D1 DK
 have hnk:Hid (∀g8 Wf,Fr (fun x=>x=w.heap.size∨x=w.heap.size+1) wZ Wf->∀Y:Nat->Prop,(∀b,Y b->b<w.heap.size->Y0 b)->(∀b,Y b->w.heap.size≤b->b=g8∨ztV [.slice (some ⟨g,0,none⟩) (qs.length+1) c2,.slice Aa aks.length ca] b)->KprT Y lo Wf [.slice (some ⟨g,0,none⟩) (qs.length+1) c2,.slice Aa aks.length ca] ⟨owns ++ [⟨an,ap,[],[]⟩],aks⟩):=fun g8 Wf hzf Y hY _=>by
  have hwf:Fr No w Wf:=hwz.trans hzf (fun b hb e=>by omega)
  obtain⟨vo9,va9,e9,_,ha9⟩:=hLT.out.1
  cases e9
  exact⟨_,_,rfl,RRow.snoc (n:=lo) rfl hql.out (fun i h1 h2=>((hqR.out i h1 h2).wid hY).keep hwf zN) ⟨_,_,rfl,hz1,hz2,Sl.nil _ _ _ _,Sl.nil _ _ _ _⟩ (hr5.keep hzf (fun q hq e=>by rw[zcQ,if_neg (by omega)] at hq;cases hq;first|omega|(dsimp only at e;omega))) (by have:=hw1.size;omega) hcap5,ha9.keep0 hwf⟩
 have K0:=Z0.r1
 have KK:=ZK.r2
 have hjsW:=Lib.hid (fun W (hW:Fr No wZ W)=>hjs.rawKeep (hwz.trans0 hW) zN)
 have hzl1:=Z1.lt
 replace hwA:=Lib.hid hwA
 refine zn0 9 116 [mS 90 (#[]) 0 wZ.heap.size,mV (.pointer (some ⟨w.heap.size,0,none⟩)),mV (.slice (some ⟨bm,om,none⟩) (kp.length+1) ck),mV (.int .i64 ((kp.length:Int)+1)),mV (.int .i64 (kp.length:Int)),mV (.slice (some ⟨bm,om,none⟩) kp.length ck),mC (cpP 90 js wZ.heap.size) (zrG _ _ _),mV (.agg #[.slice (some ⟨g,0,none⟩) (qs.length+1) c2,.slice Aa aks.length ca]),mS 90 (#[.slice (some ⟨g,0,none⟩) (qs.length+1) c2,.slice Aa aks.length ca]) 1 wZ.heap.size] (by kernel_rfl) (by kernel_rfl) (by simp) ?_ ?_
 ·refine hc4 ?_ ?_ ?_ ?_ <| hc4 ?_ ?_ ?_ ?_ <| hopC ?_ <| hopZ
  all_goals (intro a' W hW hoff hdep;have hbs:=hW.size;have H2:=hoff 2 rfl;have H7:=hoff 7 rfl;have H8:=hoff 8 rfl;refine nE rfl ?_)
  ·simp[execOp,go_sem,zaa];exact⟨(Fr.refl _ _).alloc _,⟨_,rfl,Bx.new_ rfl,hbs⟩,Nat.le_refl _⟩
  ·simp[execOp,Act.eval,H2,go_sem,zaa];exact fr1 rfl
  ·have D108:_=_:=hdep 1 108 rfl;clear hoff hdep;simp[execOp,Act.eval,go_sem,zaa, *];exact fr1 rfl
  ·simp[execOp,Act.eval,H7,go_sem,zaa];exact fr1 rfl
  ·have D110:_=_:=hdep 3 110 rfl;simp[execOp,Act.eval,D110,go_sem,zaa];exact fr1 (show Value.int .i64 _=_ by rw[IntWalk.i64_in _ (by omega)])
  ·have D109:_=_:=hdep 2 109 rfl;have D111:_=_:=hdep 4 111 rfl;clear hoff hdep;simp[execOp,Act.eval,go_sem,zaa,↓IntWalk.iteOmega, *];exact fr1 rfl
  ·obtain⟨b,D107,hb,hl⟩:(slB 90 #[] 0 wZ.heap.size) _ W:=hdep 0 107 rfl
   have D112:_=_:=hdep 5 112 rfl
   exact zrH zr2 rfl (hjsW.out W hW) hj9 honj D107 D112 hbs
  ·exact gx0
  ·have D114:_=_:=hdep 7 114 rfl;simp at D114;simp[execOp,Act.eval,D114,go_sem,zaa];exact⟨(Fr.refl _ _).alloc _,⟨_,rfl,Bx.new_ rfl,hbs⟩,Nat.le_refl _⟩
 intro vs WR hWR hv hne
 obtain⟨b0,e0,hb0,hl0⟩:=hv 0 (by omega)
 obtain⟨A0R6,c0R6,e6,hA0R6,hq0R6⟩:=hv 6 (by omega)
 obtain⟨b8,e8,hb8,hl8⟩:=hv 8 (by omega)
 simp only[lz6,List.drop_zero,znM,znQ,znK,znR,Nat.zero_add,Nat.reduceAdd,e0,e6,e8]
 simp only[Act.put,lz0,lz1,lz2]
 clear e0 e6 e8 hv
 refine zqH zr2 rfl _ _ rfl (.slice A0R6 js.length c0R6) js.length js rfl rfl hA0R6 hj9 b8 90 [.slice (some ⟨g,0,none⟩) (qs.length+1) c2,.slice Aa aks.length ca] rfl hb8 rfl (by simp[Value.oneCell']) ?_
 intro g9 c9 w9 hrow9 hcap9 hgf9 hor9
 have hg9:w.heap.size+1<g9:=by
  rcases hor9 with h9|h9
  ·have:=hq0R6 _ h9;omega
  ·have:=hWR.size;omega
 have YY0:=Bx.keepX (Z0.keep hWR) hgf9 (fun e=>by have:=hq0R6 _ e;omega)
 have YY1:=Bx.keepX (Z1.keep hWR) hgf9 (fun e=>by have:=hq0R6 _ e;omega)
 have hw9:Fr No wZ w9:=hWR.trans hgf9 (fun b hb e=>by have:=hq0R6 _ e;omega)
 have d0:=YY0.c1
 have d1:=YY1.c1
 have dl:=YY0.lt
 have fl:=YY1.lt
 have df:=fun i=>YY0.frozen i
 have ff:=fun i=>YY1.frozen i
 have hfin:∀Wf,Fr (fun x=>x=w.heap.size∨x=w.heap.size+1) w9 Wf->ztZ lo (kp ++ [⟨owns ++ [⟨an,ap,[],[]⟩],aks⟩],ok) w (.returned (.tuple #[.agg #[.slice (some ⟨g9,0,none⟩) (js.length+1) c9],.bool ok])) Wf:=fun Wf hW=>by
  have hzf:Fr (fun x=>x=w.heap.size∨x=w.heap.size+1) wZ Wf:=(Fr.of0 hw9).trans hW (fun b _ e=>e)
  have hwf:Fr No w Wf:=hwz.trans hzf (fun b hb e=>by omega)
  exact⟨_,rfl,hPT.out.snoc hwf hlo rfl (hrow9.keep hW (fun q hq e=>by rw[zcQ,if_neg (by omega)] at hq;cases hq;first|omega|(dsimp only at e;omega))) (by omega) hcap9 (fun Y h1 h2=>hnk.out g9 Wf hzf Y h1 h2) (hLT.out.oldA (ztY (by have:=hwb.size;omega))),hwf⟩
 replace hfin:=Lib.hid hfin
 simp only[Act.put,lz0,lz1,lz2]
 clear hrow9 hgf9 hor9 K0 KK YY0 YY1
 go_wp2
 refine bodyPost_ret (v:=.tuple #[.agg #[.slice (some ⟨g9,0,none⟩) (js.length+1) c9],.bool ok]) (by simp[results,Tryz.results89,go_sem,d1]) rfl ?_
 refine hfin.out _ ?_
 repeat(first|(with_reducible exact Fr.refl _ _)|(with_reducible refine Fr.setCellXO (by first|exact .inl rfl|exact .inr rfl) ?_ _))
end Go.Proofs.YtmeaibjmnjcdfaaGreat
