/- The laws' marks of keepers and of a change; keepers that hold all that they were given. -/
import Derived.Test.YtpghfhjhjlmljaaGreatPG41
set_option maxHeartbeats 4000000
set_option maxRecDepth 100000
namespace Go.Proofs.YtpghfhjhjlmljaaGreat
open Go.RowKit
theorem zCq {α:Type} (f:α->Nat) (q:α->Bool):∀xs:List α,sumL f (xs.filter q)≤sumL f xs
 | []=>Nat.le_refl _
 | x :: xs=>by
  have:=zCq f q xs
  cases hq:q x
  ·rw[List.filter_cons_of_neg (by simp[hq])];simp only[sumL];omega
  ·rw[List.filter_cons_of_pos (by simp[hq])];simp only[sumL];omega
theorem zCr {α:Type} (f:α->Nat) (y:α) (d:Nat):∀(xs:List α) (i:Nat) (h:i<xs.length),f y≤f xs[i]+d->sumL f (xs.set i y)≤sumL f xs+d
 | x :: xs,0,_,h=>by simp only[lz1,sumL];simp only[List.getElem_cons_zero] at h;omega
 | x :: xs,i+1,hi,h=>by
  have:=zCr f y d xs i (by simpa using hi) (by simpa using h)
  simp only[lz2,sumL]
  omega
theorem zCs (c:Chg) (k:Kpr):zoE (zA2 c k)≤zoE k+(zoD c.cls+2):=by
 have h1:=zCq zoD (kCls c.name) k.owns
 have h2:=List.length_filter_le (kAsk c.name) k.asks
 unfold zA2 zoE
 split
 ·dsimp only
  rw[zgf]
  simp only[sumL]
  omega
 ·split
  ·dsimp only;omega
  ·split
   ·dsimp only
    rw[List.length_append,List.length_singleton]
    omega
   ·dsimp only;omega
theorem zCt (p:Plan) (c:Chg) (hp:zcb p≤1048576) (hc:zhR c.cls≤1048576):sumL zoE (zA5 p c)≤100000000:=by
 unfold zA5
 cases hb:zA4 p c
 ·exact Nat.zero_le _
 ·rw[if_pos rfl]
  have hlt:c.keeper.toNat<p.keepers.length:=by
   unfold zA4 chgB at hb
   simp only[lz5,decide_eq_true_eq] at hb
   omega
  have h1:=zCr zoE (zA2 c p.keepers[c.keeper.toNat]) (zoD c.cls+2) p.keepers c.keeper.toNat hlt (zCs c _)
  have h2:=zox zpw p.keepers
  have h3:=zoI c.cls
  unfold zcb at hp
  have e:(zA3 p c).keepers=p.keepers.set c.keeper.toNat (zA2 c p.keepers[c.keeper.toNat]):=by unfold zA3;simp[List.getD,hlt]
  rw[e]
  omega
theorem zCu (lo hi:Nat) (p:Plan) (v:Value) (w:World) (h:Sl (fun b=>b<lo∨hi≤b) w 2 (KprC (fun b=>b<lo∨hi≤b) w) v p.keepers) (hun:Unf lo hi w) (hs:zcb p≤1048576):
  ∃n:Nat,n≤10000000∧Calls Tryz.prog 12 #[.agg #[v],.int .i64 1] w (zot lo hi n w):=by
 obtain⟨ms,g,e⟩:=h.wtd (Q:=KprW (fun b=>b<lo∨hi≤b) w) zoE (fun _ _ h=>h.wt)
 have hle:=zox zpw p.keepers
 unfold zcb at hs
 have hb:sumN ms≤8388608:=by omega
 clear h hle e
 refine⟨1+sumN ms,by omega,?_⟩
 obtain⟨A,cap,rfl,_,_⟩:=g.form
 obtain⟨wA,hwA⟩:∃wA,wA=w.alloc (.cells #[.slice A ms.length cap] 35):=⟨_,rfl⟩
 have hfA:Fr No w wA:=hwA▸frc
 have hT:Tw (fun b=>lo≤b∧b<hi) w wA:=.of0 hfA
 have HM:=zpv lo hi _ ms 1 wA (g.tw (R':=KprW (fun b=>b<lo∨hi≤b) wA) hT (fun _ _ _ _ h a b=>h.lk hT a b)) (hun.tw hT) (by omega) (by omega)
 go_enter Tryz.func12,Tryz.ntmps12
 go_wp2_with fail
 rw[<-hwA]
 refine HM.mono ?_
 rintro e w2 ⟨rfl,hT2⟩
 go_wp2
 go_ret
 exact⟨by simp,hT.trans hT2⟩
theorem zCv (lo hi:Nat) (m:Nat) (cs:List Value) (k:Int) (w:World) (h:ClsW (fun b=>b<lo∨hi≤b) w cs m) (hun:Unf lo hi w) (h0:0≤k) (hk:k+m≤1000000000) (hhi:hi≤w.heap.size):
  ∃n:Int,0≤n∧Calls Tryz.prog 29 #[.agg cs.toArray,.int .i64 k] w (zot lo hi n w):=by
 obtain⟨s,t,vf,vm,mf,mm,rfl,gf,gm,e⟩:=h
 refine⟨k+sumN mf+sumN mm,by omega,?_⟩
 obtain⟨Af,cf,rfl,_,_⟩:=gf.form
 obtain⟨Am,cm,rfl,_,_⟩:=gm.form
 obtain⟨wA,hwA⟩:∃wA,wA=w.alloc (.cells #[.string s,.string t,.slice Af mf.length cf,.slice Am mm.length cm] 42):=⟨_,rfl⟩
 have hfA:Fr No w wA:=hwA▸frc
 have B1:Bx wA w.heap.size 42 #[.string s,.string t,.slice Af mf.length cf,.slice Am mm.length cm]:=hwA▸bxc
 have hT:Tw (fun b=>lo≤b∧b<hi) w wA:=.of0 hfA
 have HF:=zpq lo hi _ mf k wA (gf.tw (R':=FldW) hT (fun _ _ _ _ h a b=>h.lk a b)) (hun.tw hT) h0 (by omega)
 have HM:=fun W (hW:Tw (fun b=>lo≤b∧b<hi) wA W)=>zpt lo hi _ mm (k+sumN mf) W (gm.tw (R':=MthW (fun b=>b<lo∨hi≤b) W) (hT.trans hW) (fun _ _ _ _ h a b=>h.lk (hT.trans hW) a b)) (hun.tw (hT.trans hW)) (by omega) (by omega)
 have p:=B1.c4
 have pl:=B1.lt
 go_enter Tryz.func29,Tryz.ntmps29
 go_wp2_with fail
 rw[<-hwA]
 refine HF.mono ?_
 rintro e w2 ⟨rfl,hT2⟩
 have B1:=B1.keepX hT2.fr (fun h=>by have:=h.2;omega)
 have p:=B1.c4
 have pl:=B1.lt
 go_wp2_with fail
 refine(HM _ hT2).mono ?_
 rintro e w3 ⟨rfl,hT3⟩
 clear HF HM gf gm
 go_wp2_with fail
 go_ret
 exact⟨rfl,(hT.trans hT2).trans hT3⟩
theorem zCw (lo hi:Nat) (c:Chg) (Af Am:Option Addr) (nf cf nm cm:Nat) (k:Int) (w:World) (hC:ClsW (fun b=>b<lo∨hi≤b) w [.string c.cls.name,.string c.cls.super,.slice Af nf cf,.slice Am nm cm] (zoD c.cls)) (hun:Unf lo hi w) (h0:0≤k) (hk:k≤10000000) (hs:zhR c.cls≤1048576) (hhi:hi≤w.heap.size):
  ∃n:Int,0≤n∧Calls Tryz.prog 13 #[.agg #[.int .i64 c.kind,.int .i64 c.keeper,.string c.name,.int .i64 c.tq,.string c.cls.name,.string c.cls.super,.slice Af nf cf,.slice Am nm cm],.int .i64 k] w (zot lo hi n w):=by
 have h3:=zoI c.cls
 obtain⟨wA,hwA⟩:∃wA,wA=w.alloc (.cells #[.int .i64 c.kind,.int .i64 c.keeper,.string c.name,.int .i64 c.tq,.string c.cls.name,.string c.cls.super,.slice Af nf cf,.slice Am nm cm] 44):=⟨_,rfl⟩
 have hfA:Fr No w wA:=hwA▸frc
 have hT:Tw (fun b=>lo≤b∧b<hi) w wA:=.of0 hfA
 have hsA:=hfA.size
 obtain⟨n,hn,HC⟩:=zCv lo hi _ _ k wA (hC.lk hT rfl (fun j u h=>⟨u,h,.refl _⟩)) (hun.tw hT) h0 (by omega) (by omega)
 refine⟨n,hn,?_⟩
 clear hC
 go_enter Tryz.func13,Tryz.ntmps13
 go_wp2_with fail
 rw[<-hwA]
 refine HC.mono ?_
 rintro e w2 ⟨rfl,hT2⟩
 clear HC
 go_wp2_with fail
 go_ret
 exact⟨rfl,hT.trans hT2⟩
theorem zCx (v:Value) (ks:List Kpr) (Y:Nat->Prop) (w:World) (h:zzE w Y v ks) (hk:sumL zoE ks≤100000000):
  Calls Tryz.prog 12 #[.agg #[v],.int .i64 1] w (fun e w'=>e=.returned (.int .i64 (1+((sumL zoE ks:Nat):Int)))∧zzE w' (fun b=>Y b∧b<w.heap.size) v (zCf 1 ks)∧Fr (fun b=>Y b∧b<w.heap.size) w w'):=by
 obtain⟨A,cap,rfl,_,_⟩:=OwnL.form h
 obtain⟨wA,hwA⟩:∃wA,wA=w.alloc (.cells #[.slice A ks.length cap] 35):=⟨_,rfl⟩
 have hfA:Fr No w wA:=hwA▸frc
 have HM:=zCg _ ks (fun b=>Y b∧b<w.heap.size) 1 wA ((OwnL.wid h (fun b h1 h2=>⟨h1,h2⟩)).keep zzK hfA (fun _ _ _ h=>h)) (by omega) (by omega)
 clear h
 go_enter Tryz.func12,Tryz.ntmps12
 go_wp2_with fail
 rw[<-hwA]
 refine HM.mono ?_
 rintro e w2 ⟨rfl,hO2,hf2⟩
 clear HM
 go_wp2_with fail
 go_ret
 exact⟨rfl,hO2,(Fr.of0 hfA).same hf2⟩
theorem zCy (X:Nat->Prop) (v:Value) (ks:List Kpr) (w:World) (h:Sl X w 2 (KprC X w) v (zCf 1 ks)) (hk:sumL zoE ks≤100000000):
  Calls Tryz.prog 14 #[.agg #[v],.int .i64 1] w (Gives (.int .i64 (1+((sumL zoE ks:Nat):Int))) w):=by
 obtain⟨A,cap,rfl,_,_⟩:=h.form
 obtain⟨wA,hwA⟩:∃wA,wA=w.alloc (.cells #[.slice A (zCf 1 ks).length cap] 35):=⟨_,rfl⟩
 have hfA:Fr No w wA:=hwA▸frc
 have HM:=zCp X _ ks 1 wA (h.keep hfA zN (fun _ _ _ h=>KprC.keep h hfA zN)) (by omega) (by omega)
 clear h
 go_enter Tryz.func14,Tryz.ntmps14
 go_wp2_with fail
 rw[<-hwA]
 refine HM.mono ?_
 rintro e w2 ⟨rfl,hf2⟩
 clear HM
 go_wp2_with fail
 go_ret
 exact .mk rfl (hfA.trans0 hf2)
theorem zCz (X:Nat->Prop) (x:Chg) (cs:List Value) (w:World) (h:ChgC X w cs x) (hs:zAW x≤1048576):
  Calls Tryz.prog 8 #[.agg cs.toArray] w (zci ChgC x w):=by
 obtain⟨v_fields,v_methods,rfl,z0,z1,z2,h_fields,h_methods⟩:=h
 unfold zAW at hs
 have HC:ClsC X w [.string x.cls.name,.string x.cls.super,v_fields,v_methods] x.cls:=⟨_,_,rfl,z1,z2,h_fields,h_methods⟩
 have H:=fun W (h:Fr No w W)=>zjb X x.cls _ W (HC.keep h zN) (by omega)
 obtain⟨A_fields,c_fields,rfl,_,_⟩:=h_fields.form
 obtain⟨A_methods,c_methods,rfl,_,_⟩:=h_methods.form
 clear h_fields h_methods HC hs
 go_enter Tryz.func8,Tryz.ntmps8
 go_wp2_with fail
 refine(H _ ?_).mono ?_
 ·exact frc
 rintro e w1 ⟨cs1,rfl,⟨u_fields,u_methods,rfl,_,_,s_fields,s_methods⟩,hf1,nf1⟩
 obtain⟨B_fields,d_fields,rfl,_,_⟩:=s_fields.form
 obtain⟨B_methods,d_methods,rfl,_,_⟩:=s_methods.form
 have t_fields:=s_fields.weaken (Y:=fun b=>b<w.heap.size+3) (fun b (hb:b<w.heap.size+3)=>Nat.lt_of_lt_of_le hb (by first|(simp;done)|(simp;omega))) (fun _ _ _ h=>h)
 have t_methods:=s_methods.weaken (Y:=fun b=>b<w.heap.size+3) (fun b (hb:b<w.heap.size+3)=>Nat.lt_of_lt_of_le hb (by first|(simp;done)|(simp;omega))) (fun _ _ _ h9=>h9.weaken (fun b (hb:b<w.heap.size+3)=>Nat.lt_of_lt_of_le hb (by first|(simp;done)|(simp;omega))))
 clear s_fields s_methods
 have hb1:Bx w1 w.heap.size 30 #[.int .i64 x.kind,.int .i64 x.keeper,.string x.name,.int .i64 x.tq,.string x.cls.name,.string x.cls.super,.slice A_fields x.cls.fields.length c_fields,.slice A_methods x.cls.methods.length c_methods]:=Bx.keepTo w1 (by exact bxc) hf1
 have hr1:Bx w1 (w.heap.size+1) 44 #[.int .i64 0,.int .i64 0,.string ⟨#[]⟩,.int .i64 0,.string ⟨#[]⟩,.string ⟨#[]⟩,.slice none 0 0,.slice none 0 0]:=Bx.keepTo w1 (by exact bxc) hf1
 have ho1:Bx w1 (w.heap.size+1+1) 44 #[.int .i64 x.kind,.int .i64 x.keeper,.string x.name,.int .i64 x.tq,.string ⟨#[]⟩,.string ⟨#[]⟩,.slice none 0 0,.slice none 0 0]:=Bx.keepTo w1 (by exact bxc) hf1
 obtain⟨b1_0,b1_1,b1_2,b1_3,b1_4,b1_5,b1_6,b1_7⟩:=hr1.c8
 obtain⟨c1_0,c1_1,c1_2,c1_3,c1_4,c1_5,c1_6,c1_7⟩:=ho1.c8
 have fr1:=fun j=>hr1.frozen j
 have fo1:=fun j=>ho1.frozen j
 go_wp2
 refine bodyPost_ret (v:=.agg #[.int .i64 x.kind,.int .i64 x.keeper,.string x.name,.int .i64 x.tq,.string x.cls.name,.string x.cls.super,.slice B_fields x.cls.fields.length d_fields,.slice B_methods x.cls.methods.length d_methods]) (by simp[results,Tryz.results8,go_sem, *]) rfl ?_
 refine⟨_,rfl,⟨_,_,rfl,z0,z1,z2,?_,?_⟩,by exact frc,by exact nfc⟩
 ·exact(t_fields.keep (Y:=fun b=>b<w.heap.size+3) (by exact frx) (fun _ h=>h) (fun _ _ _ h=>h)).weaken (fun b hb=>Nat.lt_add_right 3 hb) (fun _ _ _ h=>h)
 ·exact(t_methods.keep (Y:=fun b=>b<w.heap.size+3) (by exact frx) (fun _ h=>h) (fun _ _ _ h9=>h9.keep (Y:=fun b=>b<w.heap.size+3) (by exact frx) (fun _ h=>h))).weaken (fun b hb=>Nat.lt_add_right 3 hb) (fun _ _ _ h9=>h9.weaken (fun b hb=>Nat.lt_add_right 3 hb))
end Go.Proofs.YtpghfhjhjlmljaaGreat
