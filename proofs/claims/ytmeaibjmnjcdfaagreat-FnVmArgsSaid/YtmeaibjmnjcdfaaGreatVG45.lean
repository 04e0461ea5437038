/- The reference's l8Line: a line behind a class. -/
import Derived.Test.YtmeaibjmnjcdfaaGreatVG44
set_option maxHeartbeats 8000000
set_option maxRecDepth 100000
namespace Go.Proofs.YtmeaibjmnjcdfaaGreat
open Go.RowKit
theorem zt6 (lo:Nat) (kp:List Kpr) (aks:List Ask) (x0:Str) (xs:List Str) (v:Value) (line:Str) (w:World) (_:lo≤w.heap.size) (hkT:KsT lo w v (kp ++ [⟨[],aks⟩])) (hls:line.size≤90000) (hx:¬Str.l line=sKp) (hwx:zpV line=x0 :: xs) (hl:kp.length≤1000) (hxa:¬Str.l x0=sAsk) (hxc:¬Str.l x0=sCls):
  Calls Tryz.prog 89 #[.agg #[v],.string line] w (ztZ lo (kp ++ [⟨[],aks⟩],false) w):=by
 have hk:=hkT.sl
 obtain⟨Ak,ck,rfl,hck,hlk⟩:=hk.form
 have hkl9:(kp ++ [(⟨([]:List Cls),aks⟩:Kpr)]).length=kp.length+1:=by simp
 obtain⟨bm,om,Ao,co,Aa,ca,rfl,_,y0,y1,hmo,hma,ho1,ho2,ha1,ha2⟩:=hk.kpr (k:=kp.length) (by omega)
 have hem:(kp ++ [(⟨([]:List Cls),aks⟩:Kpr)])[kp.length]'(by omega)=⟨([]:List Cls),aks⟩:=by simp
 rw[hem] at y0 y1 hmo hma ho1 ho2 ha1 ha2
 dsimp only at y0 y1 hmo hma ho1 ho2 ha1 ha2
 obtain⟨js,hjl,hjR,hjs⟩:=hk.pre.raw
 have honj:=zrJ zrN hjl hjR
 rw[hkl9] at hck hlk ⊢
 have hbm:=lt_of_cell y0
 have HW:=fun W=>zq2 line W hls
 rw[hwx] at HW
 obtain⟨wA,hwA⟩:∃wA,wA=((w.alloc (.cells #[.slice (some ⟨bm,om,none⟩) (kp.length+1) ck] 25)).alloc (.cells #[.slice none 0 0] 25)):=⟨_,rfl⟩
 have hfA:Fr No w wA:=hwA▸frc
 have B0:=(hwA▸bxc:Bx wA w.heap.size 25 #[.slice (some ⟨bm,om,none⟩) (kp.length+1) ck])
 have B1:=(hwA▸bxc:Bx wA (w.heap.size+1) 25 #[.slice none 0 0])
 have hA2:w.heap.size+1<wA.heap.size:=B1.lt
 have g1:(line.toList == [107,101,101,112,101,114])=false:=by rw[eq_l];exact decide_eq_false hx
 have hj9:js.length≤100000:=by omega
 unfold maxLen at hlk ho2 ha2
 have hn9:((kp.length+1:Nat):Int)=(kp.length:Int)+1:=by omega
 have hn8:((kp.length:Int)+1 == 0)=false:=beq_eq_false_iff_ne.2 (by omega)
 have hn7:((kp.length:Int)+1-1)=(kp.length:Int):=by omega
 have g2:(x0.toList == [97,115,107,115])=false:=by rw[eq_l];exact decide_eq_false hxa
 have g3:(x0.toList == [99,108,97,115,115])=false:=by rw[eq_l];exact decide_eq_false hxc
 rw[hkl9] at hkT
 have hkk:=Lib.hid hkT
 replace hjR:=Lib.hid hjR
 replace hjl:=Lib.hid hjl
 clear hx hk hkT hem hkl9
 go_enter Tryz.func89,Tryz.ntmps89
 go_wp2_with (go_at_call 141;rw[<-hwA];refine(HW _).mono ?_;rintro e w1 ⟨u,rfl,hu,hf1⟩;refine Hid.out ?_)
 refine Lib.hid ?_
 have hw1:Fr No w w1:=hfA.trans0 hf1
 have hs1:=hf1.size
 have E0:=B0.keep hf1
 have E1:=B1.keep hf1
 have e0:=E0.c1
 have el:=E0.lt
 have el1:=E1.lt
 obtain⟨A,cap,rfl,hcap,hlen⟩:=hu.form
 obtain⟨bk,off,rfl,_,c0,z0⟩:=hu.strs (k:=0) (by simp)
 simp only[Nat.add_zero,List.getElem_cons_zero] at c0 z0
 have hbl:=lt_of_cell c0
 unfold maxLen at hlen
 have hwl:(x0 :: xs).length=xs.length+1:=rfl
 replace y0:=hw1.keep0 y0
 replace y1:=hw1.keep0 y1
 have hbm1:=lt_of_cell y0
 clear HW B0 B1 hbm
 simp only[List.length_nil] at *
 have c1:=E1.c1
 have f1:=fun i=>E1.frozen i
 have hfin:∀Wf,Fr No w Wf->ztZ lo (kp ++ [⟨[],aks⟩],false) w (.returned (.tuple #[.agg #[.slice (some ⟨bm,om,none⟩) (kp.length+1) ck],.bool false])) Wf:=fun Wf hW=>⟨_,rfl,hkk.out.keep hW,hW⟩
 replace hfin:=Lib.hid hfin
 replace hkk:=Lib.hid hkk
 clear hu honj hjs
 go_wp2
 refine bodyPost_ret (v:=.tuple #[.agg #[.slice (some ⟨bm,om,none⟩) (kp.length+1) ck],.bool false]) (by simp[results,Tryz.results89,go_sem,c1,el1]) rfl ?_
 exact hfin.out _ (by exact frc)
theorem zt7 (lo:Nat) (os:List Cls) (cl0:Cls) (kp:List Kpr) (owns:List Cls) (aks:List Ask) (x0:Str) (xs:List Str) (v:Value) (line:Str) (w:World) (hlo:lo≤w.heap.size) (hkT:KsT lo w v (kp ++ [⟨owns,aks⟩])) (hls:line.size≤90000) (hx:¬Str.l line=sKp) (hwx:zpV line=x0 :: xs) (hl:kp.length≤1000) (hxa:¬Str.l x0=sAsk) (hxc:¬Str.l x0=sCls) (hox:owns=os ++ [cl0]) (hl2:os.length≤1000) (hsm:ztT cl0):
  Calls Tryz.prog 89 #[.agg #[v],.string line] w (ztZ lo (kp ++ [⟨os ++ [(zqw cl0 line).1],aks⟩],(zqw cl0 line).2) w):=by
 have hk:=hkT.sl
 obtain⟨Ak,ck,rfl,hck,hlk⟩:=hk.form
 have hkl9:(kp ++ [(⟨owns,aks⟩:Kpr)]).length=kp.length+1:=by simp
 obtain⟨bm,om,Ao,co,Aa,ca,rfl,_,y0,y1,hmo,hma,ho1,ho2,ha1,ha2⟩:=hk.kpr (k:=kp.length) (by omega)
 have hem:(kp ++ [(⟨owns,aks⟩:Kpr)])[kp.length]'(by omega)=⟨owns,aks⟩:=by simp
 rw[hem] at y0 y1 hmo hma ho1 ho2 ha1 ha2
 dsimp only at y0 y1 hmo hma ho1 ho2 ha1 ha2
 obtain⟨Y0,js,hPT,hLT,hjs,hY9⟩:=hkT.parts y0 y1
 have hjl:=hPT.2.1
 have hjR:=hPT.c
 have honj:=zrJ zrN hjl hjR
 rw[hkl9] at hck hlk ⊢
 have hbm:=lt_of_cell y0
 have HW:=fun W=>zq2 line W hls
 rw[hwx] at HW
 obtain⟨wA,hwA⟩:∃wA,wA=((w.alloc (.cells #[.slice (some ⟨bm,om,none⟩) (kp.length+1) ck] 25)).alloc (.cells #[.slice none 0 0] 25)):=⟨_,rfl⟩
 have hfA:Fr No w wA:=hwA▸frc
 have B0:=(hwA▸bxc:Bx wA w.heap.size 25 #[.slice (some ⟨bm,om,none⟩) (kp.length+1) ck])
 have B1:=(hwA▸bxc:Bx wA (w.heap.size+1) 25 #[.slice none 0 0])
 have hA2:w.heap.size+1<wA.heap.size:=B1.lt
 have g1:(line.toList == [107,101,101,112,101,114])=false:=by rw[eq_l];exact decide_eq_false hx
 have hj9:js.length≤100000:=by omega
 unfold maxLen at hlk ho2 ha2
 have hn9:((kp.length+1:Nat):Int)=(kp.length:Int)+1:=by omega
 have hn8:((kp.length:Int)+1 == 0)=false:=beq_eq_false_iff_ne.2 (by omega)
 have hn7:((kp.length:Int)+1-1)=(kp.length:Int):=by omega
 have g2:(x0.toList == [97,115,107,115])=false:=by rw[eq_l];exact decide_eq_false hxa
 have g3:(x0.toList == [99,108,97,115,115])=false:=by rw[eq_l];exact decide_eq_false hxc
 replace hjl:=Lib.hid hjl
 have hYlo:=hPT.1
 have hY8:=hY9 hlo
 replace hPT:=Lib.hid hPT
 replace hLT:=Lib.hid hLT
 clear hx hk hkT hjR hem hkl9
 go_enter Tryz.func89,Tryz.ntmps89
 go_wp2_with (go_at_call 141;rw[<-hwA];refine(HW _).mono ?_;rintro e w1 ⟨u,rfl,hu,hf1⟩;refine Hid.out ?_)
 refine Lib.hid ?_
 have hw1:Fr No w w1:=hfA.trans0 hf1
 have hs1:=hf1.size
 have E0:=B0.keep hf1
 have E1:=B1.keep hf1
 have e0:=E0.c1
 have el:=E0.lt
 have el1:=E1.lt
 obtain⟨A,cap,rfl,hcap,hlen⟩:=hu.form
 obtain⟨bk,off,rfl,_,c0,z0⟩:=hu.strs (k:=0) (by simp)
 simp only[Nat.add_zero,List.getElem_cons_zero] at c0 z0
 have hbl:=lt_of_cell c0
 unfold maxLen at hlen
 have hwl:(x0 :: xs).length=xs.length+1:=rfl
 replace y0:=hw1.keep0 y0
 replace y1:=hw1.keep0 y1
 have hbm1:=lt_of_cell y0
 clear HW B0 B1 hbm
 have hol:owns.length=os.length+1:=by rw[hox];simp
 have hoe:∀(h:os.length<owns.length),owns[os.length]'h=cl0:=by intro h;subst hox;simp
 have hmo:Sl (fun b=>b<lo) w 4 (ClsC Y0 w) (.slice Ao owns.length co) owns:=by
  obtain⟨vo9,va9,e9,ho9,_⟩:=hLT.out.1
  cases e9
  exact ho9.sl (fun q hq e=>by omega)
 obtain⟨bo,oo,Af,cf,Am,cm,rfl,_,v0,v1,v2,v3,hz0,hz1,hvf,hvm,hf1',hf2',hm1',hm2'⟩:=hmo.cls2 (k:=os.length) (by omega)
 rw[hoe] at v0 v1 v2 v3 hz0 hz1 hvf hvm hf1' hf2' hm1' hm2'
 rw[hol] at hmo ho1 ho2 y0
 replace v0:=hw1.keep0 v0
 replace v1:=hw1.keep0 v1
 replace v2:=hw1.keep0 v2
 replace v3:=hw1.keep0 v3
 have hbo:=lt_of_cell v0
 have hs1:=hw1.size
 obtain⟨XX,hXX⟩:∃XX:Nat->Prop,XX=fun b=>Y0 b∨b=w.heap.size∨b=w.heap.size+1∨b=w1.heap.size:=⟨_,rfl⟩
 have hXl:∀b,XX b->b<w.heap.size->Y0 b:=by
  intro b h hb
  rw[hXX] at h
  rcases h with h|h
  ·exact h
  ·omega
 have hX1:∀b,Y0 b->XX b:=by
  intro b h
  rw[hXX]
  exact .inl h
 have hX2:∀b,(b=w.heap.size∨b=w.heap.size+1∨b=w1.heap.size)->XX b:=by
  intro b h
  rw[hXX]
  exact .inr h
 have hXs:∀W:World,w1.heap.size<W.heap.size->w.heap.size+1<W.heap.size->∀b,XX b->b<W.heap.size:=by
  intro W h1 h2 b h
  rw[hXX] at h
  rcases h with h|h
  ·have:=hY8 b h;omega
  ·omega
 have hA1:w.heap.size+1<w1.heap.size:=E1.lt
 have hcc:∀W,Fr No w W->ClsC XX W [.string cl0.name,.string cl0.super,.slice Af cl0.fields.length cf,.slice Am cl0.methods.length cm] cl0:=fun W hW=>⟨_,_,rfl,hz0,hz1,(hvf.wid (by omega) hXl (fun _ _ _ h=>h)).k0 hW,(hvm.wid (by omega) hXl (fun _ _ _ h=>h.wid hXl)).keep hW zN (fun _ _ _ h=>h.keep hW zN)⟩
 have HF:=fun W (hW:Fr No w1 W) (hsz:w1.heap.size<W.heap.size)=>ztU XX cl0 _ (fun b=>b<wA.heap.size) _ line W (hXs W hsz (by omega)) (hcc _ (hw1.trans0 hW)) (by rw[hwx];exact hu.k0 hW) hls hsm
 simp only[List.length_cons] at HF
 have HL:=fun W (hW:Fr No w W) (hsz:w1.heap.size<W.heap.size) cs (hcs:ClsC XX W cs (zqw cl0 line).1)=>zr6 XX (fun b=>b<lo) aks (zqw cl0 line).1 cl0 os _ _ cs W (by rw[<-hox];exact hmo.keep hW zN (fun _ _ _ h=>(h.wid hXl).keep hW zN)) (hma.k0 hW) hl2 hcs
 generalize zqw cl0 line=q at *
 obtain⟨cl9,ok⟩:=q
 dsimp only at *
 have hn6:((os.length+1:Nat):Int)=(os.length:Int)+1:=by omega
 have hn5:((os.length:Int)+1 == 0)=false:=beq_eq_false_iff_ne.2 (by omega)
 have hn4:((os.length:Int)+1-1)=(os.length:Int):=by omega
 have hw1A:=hw1.alloc (.cells #[.slice (some ⟨bo,oo,none⟩) (os.length+1) co,.slice Aa aks.length ca] 90 )
 replace hox:=Lib.hid hox
 replace hol:=Lib.hid hol
 replace hXX:=Lib.hid hXX
 replace hX1:=Lib.hid hX1
 replace hX2:=Lib.hid hX2
 replace hXs:=Lib.hid hXs
 clear hu hcc hoe hXl
 go_wp2_with (go_at_call 144;refine(HF _ (by exact frc) (by simp)).mono ?_;rintro e w2 ⟨cs9,rfl,hc9,hf2⟩;have GKc:=((Bx.new w1 90 #[.slice (some ⟨bo,oo,none⟩) (os.length+1) co,.slice Aa aks.length ca]).keep hf2);obtain⟨m0,m1⟩:=GKc.c2;have ml:=GKc.lt;refine Hid.out ?_)
 refine Lib.hid ?_
 have G0:=(E0.alloc (.cells #[.slice (some ⟨bo,oo,none⟩) (os.length+1) co,.slice Aa aks.length ca] 90 )).keep hf2
 have G1:=(E1.alloc (.cells #[.slice (some ⟨bo,oo,none⟩) (os.length+1) co,.slice Aa aks.length ca] 90 )).keep hf2
 have hw2:Fr No w w2:=hw1A.trans0 hf2
 have hC9:=Lib.hid hc9
 obtain⟨vf9,vm9,rfl,hz9,hz8,hvf9,hvm9⟩:=hc9
 obtain⟨Af9,cf9,rfl,_,_⟩:=hvf9.form
 obtain⟨Am9,cm9,rfl,_,_⟩:=hvm9.form
 have HL9:=fun W (hW:Fr No w2 W)=>HL W (hw2.trans0 hW) (by have:=hW.size;have:=hf2.size;simp at *;omega) _ (ClsC.keep hC9.out hW (fun _ h=>False.elim h))
 clear HF HL hvf9 hvm9 E0 E1 y0 y1 v0 v1 v2 v3 c0 hC9
 go_wp2_with (go_at_call 145;refine(HL9 _ (by exact frc)).mono ?_;rintro e w3 ⟨vo,va,rfl,hro,hva9,hf3,rfl⟩;refine Hid.out ?_)
 refine Lib.hid ?_
 have hs1A:=hw1A.size
 have hs2:w1.heap.size+1≤w2.heap.size:=by simpa using hf2.size
 have hs3:w2.heap.size+1≤w3.heap.size:=by simpa using hf3.size
 obtain⟨Av,cv,rfl,hv1,hv2⟩:=(hro.sl (X:=No) (fun _ _ h=>h)).form
 rw[show(os ++ [cl9]).length=os.length+1 by simp] at hro
 have hvq:∀q,zcP (.slice Av (os.length+1) cv)=some q->w2.heap.size+1≤q:=fun q hq=>by have:=hro.choose_spec.2.2.1 q hq;simpa using this
 replace hvq:=Lib.hid hvq
 have DK:=(GKc.alloc (.cells #[.string cl9.name,.string cl9.super,.slice Af9 cl9.fields.length cf9,.slice Am9 cl9.methods.length cm9] 55)).keep hf3
 have D0:=(G0.alloc (.cells #[.string cl9.name,.string cl9.super,.slice Af9 cl9.fields.length cf9,.slice Am9 cl9.methods.length cm9] 55)).keep hf3
 have D1:=(G1.alloc (.cells #[.string cl9.name,.string cl9.super,.slice Af9 cl9.fields.length cf9,.slice Am9 cl9.methods.length cm9] 55)).keep hf3
 have hw3:Fr No w w3:=(hw2.alloc _).trans0 hf3
 obtain⟨k0,k1⟩:=DK.c2
 have kl:=DK.lt
 have kf:=fun i=>DK.frozen i
 clear G0 G1 GKc HL9 m0 m1 ml
 go_wp2_with fail
 obtain⟨wZ,hwZ⟩:∃wZ,wZ=(w3.setCell ⟨w1.heap.size,0,none⟩ (.slice Av (os.length+1) cv)).setCell ⟨w1.heap.size,1,none⟩ (.slice Aa aks.length ca):=⟨_,rfl⟩
 rw[<-hwZ]
 have hpz:Fr (fun x=>x=w1.heap.size) w3 wZ:=hwZ▸(Fr.put1 _ _ _ _).trans (Fr.put1 _ _ _ _) (fun b _ e=>e)
 have ZK:Bx wZ w1.heap.size 90 #[.slice Av (os.length+1) cv,.slice Aa aks.length ca]:=hwZ▸(DK.set_ 0 _).set_ 1 _
 have Z0:=D0.keepX hpz (by omega)
 have Z1:=D1.keepX hpz (by omega)
 have hwz:Fr No w wZ:=hw3.trans hpz (fun b hb e=>by have:=hw1.size;omega)
 replace hwZ:=Lib.hid hwZ
 have hl1:=hw1.size
 have hnk:Hid (∀g8 Wf,w2.heap.size+1≤g8->Fr (fun x=>x=w.heap.size∨x=w.heap.size+1) wZ Wf->∀Y:Nat->Prop,(∀b,Y b->b<w.heap.size->Y0 b)->(∀b,Y b->w.heap.size≤b->b=g8∨ztV [.slice Av (os.length+1) cv,.slice Aa aks.length ca] b)->KprT Y lo Wf [.slice Av (os.length+1) cv,.slice Aa aks.length ca] ⟨os ++ [cl9],aks⟩):=fun g8 Wf hg8 hzf Y hY hY2=>by
  have h3f:Fr (fun x=>x=w.heap.size∨x=w.heap.size+1∨x=w1.heap.size) w3 Wf:=(hpz.mono (fun b _ e=>.inr (.inr e))).trans hzf (fun b _ e=>e.elim .inl (fun e=>.inr (.inl e)))
  have hwf:Fr No w Wf:=hwz.trans hzf (fun b hb e=>by omega)
  have h9f:=(Fr.of0 (X:=fun x=>x=w.heap.size∨x=w.heap.size+1∨x=w1.heap.size) hf3).same h3f
  obtain⟨vo9,va9,e9,_,ha9⟩:=hLT.out.1
  cases e9
  have hZ:∀b,(Y b∨XX b)->b<(w2.alloc (.cells #[.string cl9.name,.string cl9.super,.slice Af9 cl9.fields.length cf9,.slice Am9 cl9.methods.length cm9] 55)).heap.size->XX b:=by
   rintro b (h|h) hb
   ·by_cases hbw:b<w.heap.size
    ·exact hX1.out b (hY b h hbw)
    ·rw[World.size_alloc] at hb
     rcases hY2 b h (by omega) with rfl | ⟨u,hu,hq⟩
     ·omega
     ·simp only[List.mem_cons,List.not_mem_nil,or_false] at hu
      rcases hu with rfl|rfl
      ·have:=hvq.out b hq;omega
      ·have:=ha9.lt hq;omega
   ·exact h
  exact⟨_,_,rfl,((hro.low (by rw[World.size_alloc];omega)).mono (fun _ _ h=>h.wid hZ)).keep h3f (fun q hq e=>by have:=hvq.out q hq;omega) (fun _ _ _ h=>(h.keep h9f (fun b e=>.inr (hX2.out b e))).weaken (fun b hb=>.inl hb)),ha9.keep0 hwf⟩
 clear k0 k1 kl kf D0 D1 DK
 have K0:=Z0.r1
 have KK:=ZK.r2
 have hjsW:=Lib.hid (fun W (hW:Fr No wZ W)=>hjs.rawKeep (hwz.trans0 hW) zN)
 have hzl1:=Z1.lt
 replace hwA:=Lib.hid hwA
 refine zn0 9 116 [mS 90 (#[]) 0 wZ.heap.size,mV (.pointer (some ⟨w.heap.size,0,none⟩)),mV (.slice (some ⟨bm,om,none⟩) (kp.length+1) ck),mV (.int .i64 ((kp.length:Int)+1)),mV (.int .i64 (kp.length:Int)),mV (.slice (some ⟨bm,om,none⟩) kp.length ck),mC (cpP 90 js wZ.heap.size) (zrG _ _ _),mV (.agg #[.slice Av (os.length+1) cv,.slice Aa aks.length ca]),mS 90 (#[.slice Av (os.length+1) cv,.slice Aa aks.length ca]) 1 wZ.heap.size] (by kernel_rfl) (by kernel_rfl) (by simp) ?_ ?_
 ·refine hc4 ?_ ?_ ?_ ?_ <| hc4 ?_ ?_ ?_ ?_ <| hopC ?_ <| hopZ
  all_goals (intro a' W hW hoff hdep;have hbs:=hW.size;have H2:=hoff 2 rfl;have H7:=hoff 7 rfl;have H8:=hoff 8 rfl;refine nE rfl ?_)
  ·simp[execOp,go_sem,zaa];exact⟨(Fr.refl _ _).alloc _,⟨_,rfl,Bx.new_ rfl,hbs⟩,Nat.le_refl _⟩
  ·simp[execOp,Act.eval,H2,go_sem,zaa];exact fr1 rfl
  ·have D108:_=_:=hdep 1 108 rfl;clear hoff hdep;simp[execOp,Act.eval,go_sem,zaa, *];exact fr1 rfl
  ·simp[execOp,Act.eval,H7,go_sem,zaa];exact fr1 rfl
  ·have D110:_=_:=hdep 3 110 rfl;simp[execOp,Act.eval,D110,go_sem,zaa];exact fr1 (show Value.int .i64 _=_ by rw[IntWalk.i64_in _ (by omega)])
  ·have D109:_=_:=hdep 2 109 rfl;have D111:_=_:=hdep 4 111 rfl;clear hoff hdep;simp[execOp,Act.eval,go_sem,zaa,↓IntWalk.iteOmega, *];exact fr1 rfl
  ·obtain⟨b,D107,hb,hl⟩:(slB 90 #[] 0 wZ.heap.size) _ W:=hdep 0 107 rfl
   have D112:_=_:=hdep 5 112 rfl
   exact zrH zr2 rfl (hjsW.out W hW) hj9 honj D107 D112 hbs
  ·exact gx0
  ·have D114:_=_:=hdep 7 114 rfl;simp at D114;simp[execOp,Act.eval,D114,go_sem,zaa];exact⟨(Fr.refl _ _).alloc _,⟨_,rfl,Bx.new_ rfl,hbs⟩,Nat.le_refl _⟩
 intro vs WR hWR hv hne
 obtain⟨b0,e0,hb0,hl0⟩:=hv 0 (by omega)
 obtain⟨A0R6,c0R6,e6,hA0R6,hq0R6⟩:=hv 6 (by omega)
 obtain⟨b8,e8,hb8,hl8⟩:=hv 8 (by omega)
 simp only[lz6,List.drop_zero,znM,znQ,znK,znR,Nat.zero_add,Nat.reduceAdd,e0,e6,e8]
 simp only[Act.put,lz0,lz1,lz2]
 clear e0 e6 e8 hv
 refine zqH zr2 rfl _ _ rfl (.slice A0R6 js.length c0R6) js.length js rfl rfl hA0R6 hj9 b8 90 [.slice Av (os.length+1) cv,.slice Aa aks.length ca] rfl hb8 rfl (by simp[Value.oneCell']) ?_
 intro g9 c9 w9 hrow9 hcap9 hgf9 hor9
 have hg9:w.heap.size+1<g9:=by
  rcases hor9 with h9|h9
  ·have:=hq0R6 _ h9;omega
  ·have:=hWR.size;omega
 have hg9':w2.heap.size+1≤g9:=by
  rcases hor9 with h9|h9
  ·have:=hq0R6 _ h9;have:=hpz.size;omega
  ·have:=hWR.size;have:=hpz.size;omega
 have YY0:=Bx.keepX (Z0.keep hWR) hgf9 (fun e=>by have:=hq0R6 _ e;omega)
 have YY1:=Bx.keepX (Z1.keep hWR) hgf9 (fun e=>by have:=hq0R6 _ e;omega)
 have hw9:Fr No wZ w9:=hWR.trans hgf9 (fun b hb e=>by have:=hq0R6 _ e;omega)
 have d0:=YY0.c1
 have d1:=YY1.c1
 have dl:=YY0.lt
 have fl:=YY1.lt
 have df:=fun i=>YY0.frozen i
 have ff:=fun i=>YY1.frozen i
 have hfin:∀Wf,Fr (fun x=>x=w.heap.size∨x=w.heap.size+1) w9 Wf->ztZ lo (kp ++ [⟨os ++ [cl9],aks⟩],ok) w (.returned (.tuple #[.agg #[.slice (some ⟨g9,0,none⟩) (js.length+1) c9],.bool ok])) Wf:=fun Wf hW=>by
  have hzf:Fr (fun x=>x=w.heap.size∨x=w.heap.size+1) wZ Wf:=(Fr.of0 hw9).trans hW (fun b _ e=>e)
  have hwf:Fr No w Wf:=hwz.trans hzf (fun b hb e=>by omega)
  exact⟨_,rfl,hPT.out.snoc hwf hlo rfl (hrow9.keep hW (fun q hq e=>by rw[zcQ,if_neg (by omega)] at hq;cases hq;first|omega|(dsimp only at e;omega))) (by omega) hcap9 (fun Y h1 h2=>hnk.out g9 Wf hg9' hzf Y h1 h2) (hLT.out.oldA (fun q hq=>by have:=hvq.out q hq;omega)),hwf⟩
 replace hfin:=Lib.hid hfin
 simp only[Act.put,lz0,lz1,lz2]
 clear hrow9 hgf9 hor9 K0 KK YY0 YY1
 go_wp2
 refine bodyPost_ret (v:=.tuple #[.agg #[.slice (some ⟨g9,0,none⟩) (js.length+1) c9],.bool ok]) (by simp[results,Tryz.results89,go_sem,d1]) rfl ?_
 refine hfin.out _ ?_
 repeat(first|(with_reducible exact Fr.refl _ _)|(with_reducible refine Fr.setCellXO (by first|exact .inl rfl|exact .inr rfl) ?_ _))
def zt8 (k:Kpr):Prop:=k.owns.length≤1000∧k.asks.length≤1000∧∀c∈k.owns,ztT c
theorem zt9 (lo:Nat) (ks:List Kpr) (v:Value) (line:Str) (w:World) (hlo:lo≤w.heap.size) (hkT:KsT lo w v ks) (hls:line.size≤90000) (hl:ks.length≤1000) (hsm:∀k∈ks,zt8 k):
  Calls Tryz.prog 89 #[.agg #[v],.string line] w (ztZ lo (zqx ks line) w):=by
 obtain⟨x0,xs,hwx⟩:∃x0 xs,zpV line=x0 :: xs:=by
  match h:zpV line with
  | []=>exact absurd h (zpY line)
  | x :: xs=>exact⟨x,xs,rfl⟩
 have hw0:zpW line=Str.l x0:=by unfold zpW;rw[hwx];rfl
 unfold zqx
 by_cases hx:Str.l line=[107,101,101,112,101,114]
 ·rw[if_pos hx]
  exact zt0 lo ks v line w hlo hkT hls hx hl
 rw[if_neg hx]
 rcases List.eq_nil_or_concat ks with rfl | ⟨kp,k,rfl⟩
 ·exact zt1 lo v line w hlo hkT hls hx
 ·rw[List.concat_eq_append] at *
  have hg:(kp ++ [k]).getLast? =some k:=by simp
  have hd:(kp ++ [k]).dropLast=kp:=by simp
  have hkp:kp.length≤1000:=by simp at hl;omega
  have hks:=hsm k (by simp)
  rw[hg,hd]
  dsimp only
  obtain⟨owns,aks⟩:=k
  rw[hw0,hwx]
  by_cases h1:Str.l x0=[97,115,107,115]
  ·rw[if_pos h1]
   exact zt3 lo kp owns aks x0 xs v line w hlo hkT hls hx hwx hkp h1 hks.2.1
  rw[if_neg h1]
  by_cases h2:Str.l x0=[99,108,97,115,115]
  ·rw[if_pos h2]
   exact zt5 lo kp owns aks x0 xs v line w hlo hkT hls hx hwx hkp h2 hks.1
  rw[if_neg h2]
  rcases List.eq_nil_or_concat owns with rfl | ⟨os,c0,rfl⟩
  ·exact zt6 lo kp aks x0 xs v line w hlo hkT hls hx hwx hkp h1 h2
  ·rw[List.concat_eq_append] at *
   have hg2:(os ++ [c0]).getLast? =some c0:=by simp
   have hd2:(os ++ [c0]).dropLast=os:=by simp
   dsimp only
   rw[hg2,hd2]
   exact zt7 lo os c0 kp (os ++ [c0]) aks x0 xs v line w hlo hkT hls hx hwx hkp h1 h2 rfl (by have:=hks.1;simp at this;omega) (hks.2.2 c0 (by simp))
end Go.Proofs.YtmeaibjmnjcdfaaGreat
