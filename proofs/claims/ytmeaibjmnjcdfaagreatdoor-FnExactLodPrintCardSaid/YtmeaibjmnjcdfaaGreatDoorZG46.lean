/- The law's walk: the program's LodPrint is the reference's, in its own memory, and the keepers stay as they were. -/
import Derived.Test.YtmeaibjmnjcdfaaGreatDoorZG33
import Derived.Test.YtmeaibjmnjcdfaaGreatDoorZG38
import Derived.Test.YtmeaibjmnjcdfaaGreatDoorZG42
import Derived.Test.YtmeaibjmnjcdfaaGreatDoorZG44
import Derived.Test.YtmeaibjmnjcdfaaGreatDoorZG45
set_option maxHeartbeats 8000000
set_option maxRecDepth 100000
namespace Go.Proofs.YtmeaibjmnjcdfaaGreatDoor
open Go.RowKit
theorem zzw {k:Kpr} (h:zyZ k):∀x∈kprT k,x.size≤200:=by
 intro x hx
 obtain⟨_,_,h3,h4⟩:=h
 unfold kprT at hx
 simp only[List.cons_append,List.mem_cons,List.mem_append,List.mem_map,List.mem_flatMap] at hx
 rcases hx with rfl | ⟨y,hy,rfl⟩ | ⟨y,hy,hx⟩
 ·decide
 ·obtain⟨a1,a2,a3⟩:=h4 y hy
  exact Nat.le_trans (zzg y.name y.keeper a1 (by omega) (by omega)) (by decide)
 ·exact zy2 (h3 y hy) x hx
theorem zzx (p:Plan):∀x∈zx6 p,x.size≤maxLen:=by
 intro x hx
 unfold zx6 at hx
 cases hb:lodB p
 ·rw[hb] at hx;cases hx
 ·rw[hb,if_pos rfl] at hx
  obtain⟨k,hk,hx⟩:=List.mem_flatMap.1 hx
  have:=zzw ((zy0 hb).2 k hk) x hx
  unfold maxLen
  omega
theorem zzy (p:Plan):(zx6 p).length≤2000:=by
 unfold zx6
 cases hb:lodB p
 ·simp
 ·rw[if_pos rfl]
  obtain⟨h1,h2⟩:=zy0 hb
  have h9:=zyL (f:=kprT) (k:=505) p.keepers (fun m hm=>zzh (h2 m hm))
  omega
theorem zzA (X:Nat->Prop) (p:Plan) (cs:List Value) (w:World) (h:zf9 X w cs p) (ht:TabW w):
  Calls Tryz.prog 3 #[.agg cs.toArray] w (zgm true w):=by
 have HZ:=fun W (hW:Fr No w W)=>zcc X p cs 1048576 W (by obtain⟨vk,rfl,h⟩:=h;exact⟨vk,rfl,h.keep hW zN (fun _ _ _ h=>h.keep hW zN)⟩) (by omega) (by omega)
 have HN:=fun W (hW:Fr No w W) (hs:zcb p≤1048576)=>zjk X p cs W (by obtain⟨vk,rfl,h⟩:=h;exact⟨vk,rfl,h.keep hW zN (fun _ _ _ h=>h.keep hW zN)⟩) hs
 obtain⟨vk,rfl,hk⟩:=h
 obtain⟨A,cap,rfl,_,_⟩:=hk.form
 clear hk
 obtain⟨wA,hwA⟩:∃wA,wA=w.alloc (.cells #[.slice A p.keepers.length cap] 24):=⟨_,rfl⟩
 have hfA:Fr No w wA:=hwA▸frc
 have K0:=(hwA▸bxc:Bx wA w.heap.size 24 #[.slice A p.keepers.length cap]).r1
 go_enter Tryz.func3,Tryz.ntmps3
 go_wp2_with fail
 rw[<-hwA]
 replace hwA:=Lib.hid hwA
 refine(HZ _ hfA).mono ?_
 rintro e w2 ⟨n2,rfl,hn2,hf2⟩
 have q2:Fr No wA w2:=frc
 by_cases hneg:n2<0
 ·go_wp2
  go_ret
  exact .mk rfl frc
 have hn2':=hn2.out
 have hsz:zcb p≤1048576:=by omega
 have HN:=fun W hW=>HN W hW hsz
 have HT:=fun W hW=>(HN W hW).mono (R':=zgn zf9 p W) fun _ _ ⟨x,h1,h2,h3,_⟩=>⟨x,h1,h2,h3⟩
 have HS:=fun(X:Nat->Prop) v W h=>zzn X p v W h
 have HI:=fun v W h (hW:Fr No w W)=>zzk p v W h (ht.keep hW)
 have htl:=ht.lt
 have hL18:=zzy p
 have hnm:=zzx p
 have HI2:=fun v W h (hW:TabW W)=>zzk p v W h hW
 generalize zx6 p=L at *
 unfold zyv at HS HI HI2
 clear hn2 hn2' HZ hf2
 have K0':=fun W (h:Fr No w2 W)=>K0 W (q2.trans0 h)
 go_wp2_with fail
 refine(HT _ (hfA.trans0 q2)).mono ?_
 rintro e w21 h
 obtain⟨v21,rfl,hf21,vkp,rfl,hk⟩:=zhy h (Nat.le_refl _)
 clear h
 go_wp2_with fail
 refine(HS _ _ _ hk).mono ?_
 rintro e W3 ⟨v,rfl,h2,h3⟩
 have hW3:Fr No w2 W3:=hf21.trans0 h3
 obtain⟨AsR2,csR2,rfl,hsR2⟩:=zzu ((h2.sl hnm).weaken (Y:=No) zN (fun _ _ _ h=>h))
 clear h2 h3 hf21 hk K0'
 have q3:Fr No wA W3:=q2.trans0 hW3
 go_wp2_with fail
 refine(HN _ (hfA.trans0 q3)).mono ?_
 rintro e w5 ⟨cs5,rfl,⟨vx,rfl,hx⟩,hf5,hnf⟩
 obtain⟨Ax,cx,rfl,_,_⟩:=hx.form
 have q5:Fr No wA w5:=q3.trans0 hf5
 obtain⟨w6,hw6⟩:∃w6,w6=w5.alloc (.cells #[.slice Ax p.keepers.length cx] 30):=⟨_,rfl⟩
 have hf6:Fr No w5 w6:=hw6▸(Fr.refl No w5).alloc _
 have hBx:Bx w6 w5.heap.size 30 #[.slice Ax p.keepers.length cx]:=hw6▸Bx.new_ rfl
 have hxN:=(hx.weaken (Y:=No) zN (fun _ _ _ h=>h.weaken zN)).keep (R':=KprC No w6) hf6 zN (fun _ _ _ h=>h.keep hf6 zN)
 have hxP:=(hx.oldX (by decide) (fun _ _ _ h=>h.oldX)).keep (R':=KprC (fun b=>b<W3.heap.size∨w5.heap.size≤b) w6) hf6 zN (fun _ _ _ h=>h.keep hf6 zN)
 have hun:Unf W3.heap.size w5.heap.size w6:=⟨hf6.size,fun b o h1 h2=>by rw[hf6.frozen o h2];exact hnf.free b o h1⟩
 have q6:Fr No wA w6:=q5.trans0 hf6
 have t6:Fr No W3 w6:=hf5.trans0 hf6
 have KX:=hBx.r1
 have lx:=hBx.lt
 have s3:=q3.size
 have s5:=hf5.size
 clear hx hnf
 go_wp2_with fail
 rw[<-hw6]
 clear hw6
 refine(HI _ _ hxN (hfA.trans0 q6)).mono ?_
 rintro e W7 ⟨v,rfl,h2,hW7⟩
 obtain⟨AgR1,cgR1,ggR1,rfl,hcgR1,hggR1,hrwR1⟩:=zzt h2
 clear h2
 have q7:Fr No wA W7:=q6.trans0 hW7
 have s6:=hf6.size
 have hgl:w5.heap.size≤ggR1∧W3.heap.size≤ggR1:=by omega
 go_wp2_with fail
 refine(zzq No No _ _ L W7 (hrwR1.sl (fun h=>h) hcgR1 (by unfold maxLen;omega) hnm) (hsR2.keep (R':=StrC) (t6.trans0 hW7) zN (fun _ _ _ h=>h))).mono ?_
 rintro e w8 ⟨rfl,hf8⟩
 have q8:Fr No wA w8:=q7.trans0 hf8
 have p8:Fr No w6 w8:=hW7.trans0 hf8
 have hrw8:=hrwR1.keep hf8 (fun h=>h)
 clear hrwR1
 have K0':=fun W (h:Fr No w8 W)=>K0 W (q8.trans0 h)
 have KX':=fun W (h:Fr No w8 W)=>KX W (p8.trans0 h)
 go_wp2_with fail
 refine zn0 4 31 [mV (.agg #[.slice Ax p.keepers.length cx]),mV (.agg #[.slice A p.keepers.length cap]),mC (zhw p w8.heap.size) (zhx _ _),mV (.bool true)] (by kernel_rfl) (by kernel_rfl) (by simp) ?_ ?_
 ·refine hc4 ?_ ?_ ?_ ?_ <| hopZ
  all_goals (intro a' W hW hoff hdep;have hbs:=hW.size;have H5:=hoff 5 rfl;have H1:=hoff 1 rfl;refine nE rfl ?_)
  ·exact gx0
  ·exact gx0
  ·have D28:_=_:=hdep 1 28 rfl;simp[Act.eval,D28,go_sem,zaa];exact(HT _ (hfA.trans0 (q8.trans0 hW))).mono fun e w' h=>let ⟨v,h1,h2,h3⟩:=zhy h hbs;⟨v,h1,h2,h3⟩
  ·have D27:_=_:=hdep 0 27 rfl;obtain⟨vkp,D29,hk⟩:(zhw p w8.heap.size) _ W:=hdep 2 29 rfl;simp[Act.eval,D27,D29,go_sem,zaa];exact(zhv _ _ p _ _ W ⟨_,rfl,hxN.keep (R':=KprC No W) (p8.trans0 hW) zN (fun _ _ _ h=>h.keep (p8.trans0 hW) zN)⟩ ⟨_,rfl,hk⟩).mono fun e w' h=>⟨_,h.1,h.2,rfl⟩
 intro vs W9 hW9 hv hne
 obtain⟨vkpR2,e2,hkR2⟩:=hv 2 (by omega)
 simp only[lz6,List.drop_zero,znM,znK,znR,Nat.zero_add,Nat.reduceAdd,e2]
 simp only[Act.put,lz0,lz1,lz2]
 clear e2 hv
 clear hkR2 K0' KX'
 have q9:Fr No wA W9:=q8.trans0 hW9
 have p9:Fr No w6 W9:=p8.trans0 hW9
 have hrw9:=hrw8.keep hW9 (fun h=>h)
 obtain⟨n1,hn1,HM⟩:=zpx W3.heap.size w5.heap.size p _ W9 (hxP.keep p9 zN (fun _ _ _ h=>h.keep p9 zN)) (hun.tw (X:=No) (Tw.of0 p9)) hsz
 obtain⟨x0,_,xl⟩:=KX W9 p9
 clear hxP hun hrw8
 go_wp2_with fail
 refine HM.mono ?_
 rintro e w10 ⟨rfl,hT⟩
 have q10:Fr No wA w10:=q9.trans hT.fr (fun b hb h=>by omega)
 have t10:Fr No W3 w10:=(t6.trans0 p9).trans hT.fr (fun b hb h=>by omega)
 have hrw10:=hrw9.keep hT.fr (by omega)
 clear HM hT hrw9 KX hxN x0 xl
 go_wp2_with fail
 refine(zzq No No _ _ L w10 (hrw10.sl (fun h=>h) hcgR1 (by unfold maxLen;omega) hnm) (hsR2.keep (R':=StrC) t10 zN (fun _ _ _ h=>h))).mono ?_
 rintro e w11 ⟨rfl,hf11⟩
 have hrw11:=hrw10.keep hf11 (fun h=>h)
 have q11:Fr No wA w11:=q10.trans0 hf11
 have t11:Fr No W3 w11:=t10.trans0 hf11
 clear hrw10
 go_wp2_with fail
 refine(zzr _ ggR1 0 L.length cgR1 1 w11 hcgR1 (by omega) (fun h=>hrw11.at_ h) hrw11.sorts (by omega) (by omega)).mono ?_
 rintro e w12 ⟨rfl,hm⟩
 have q12:Fr No wA w12:=q11.trans hm.tw.fr (fun b hb h=>by omega)
 have t12:Fr No W3 w12:=t11.trans hm.tw.fr (fun b hb h=>by omega)
 have hrw12:=hrw11.marked hm
 clear hm hrw11
 go_wp2_with fail
 refine(zzs _ ggR1 0 L.length cgR1 1 w12 hcgR1 (by omega) (fun h=>(hrw12.at_ h).1) hrw12.cells (by omega) (by omega)).mono ?_
 rintro e w13 ⟨rfl,hf13⟩
 have q13:Fr No wA w13:=q12.trans0 hf13
 have hrw13:=hrw12.keep hf13 (fun h=>h)
 clear hrw12
 have hbb:((1+(L.length:Int)) != (1+(L.length:Int)))=false:=by simp
 have K0':=fun W (h:Fr No w13 W)=>K0 W (q13.trans0 h)
 go_wp2_with fail
 refine(HT _ (hfA.trans0 q13)).mono ?_
 rintro e w131 h
 obtain⟨v131,rfl,hf131,vkq,rfl,hk⟩:=zhy h (Nat.le_refl _)
 clear h
 go_wp2_with fail
 refine(HI _ _ (hk.weaken (Y:=No) zN (fun _ _ _ h=>h.weaken zN)) (hfA.trans0 (q13.trans0 hf131))).mono ?_
 rintro e W14 ⟨v,rfl,h2,h3⟩
 have hW14:Fr No w13 W14:=hf131.trans0 h3
 obtain⟨AzR2,czR2,rfl,hzR2⟩:=zzu ((h2.sl hnm).weaken (Y:=No) zN (fun _ _ _ h=>h))
 clear h2 h3 hf131 hk K0'
 go_wp2_with fail
 refine(zzq No No _ _ L W14 hzR2 (hsR2.keep (R':=StrC) ((t12.trans0 hf13).trans0 hW14) zN (fun _ _ _ h=>h))).mono ?_
 rintro e w15 ⟨rfl,hf15⟩
 have hrw15:=(hrw13.keep hW14 (fun h=>h)).keep hf15 (fun h=>h)
 go_wp2_with fail
 refine(zzs _ ggR1 0 L.length cgR1 1 w15 hcgR1 (by omega) (fun h=>(hrw15.at_ h).1) hrw15.cells (by omega) (by omega)).mono ?_
 rintro e w16 ⟨rfl,hf16⟩
 have q16:Fr No w w16:=hfA.trans0 (((q13.trans0 hW14).trans0 hf15).trans0 hf16)
 go_wp2
 go_ret
 exact .mk rfl q16
end Go.Proofs.YtmeaibjmnjcdfaaGreatDoor
