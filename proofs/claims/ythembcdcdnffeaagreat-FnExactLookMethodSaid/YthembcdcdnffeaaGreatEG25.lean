/- The reference's link of a method: l4Class, l4Method. -/
import Derived.Test.YthembcdcdnffeaaGreatEG24
set_option maxHeartbeats 8000000
set_option maxRecDepth 100000
namespace Go.Proofs.YthembcdcdnffeaaGreat
open Go.RowKit
theorem znf {p:Plan} {s:Str}:∀(n:Nat) (k:Int) {r:Ref},zbI p s n k=(r,1)->zbF p r.keeper s<0∧¬zbD p r.keeper s<0∧r.name=s
 | 0,_,_,h=>absurd (Prod.mk.inj h).2 (by decide)
 | n+1,k,r,h=>by
  rw[zbI] at h
  by_cases ha:zbF p k s<0
  ·rw[if_pos ha] at h
   by_cases ho:zbD p k s<0
   ·rw[if_pos ho] at h
    exact absurd (Prod.mk.inj h).2 (by decide)
   ·rw[if_neg ho] at h
    obtain rfl:=(Prod.mk.inj h).1
    exact⟨ha,ho,rfl⟩
  ·rw[if_neg ha] at h
   exact znf n _ h
theorem zng {p:Plan} {n:Nat} {r:Ref} {rs:List Ref} (h:upGo p n r=some rs):rs≠[]:=by
 cases n with
 | zero=>cases h
 | succ n=>
  rw[upGo] at h
  split at h
  ·cases h;simp
  ·split at h
   ·obtain⟨_,_,rfl⟩:=Option.map_eq_some_iff.1 h
    simp
   ·cases h
theorem znh {p:Plan} {k:Int} {kc i:Nat} {s:Str} {pre:List Ref} (h:zmD p k s=(⟨kc,s⟩,1)) (hh:Here p ⟨kc,s⟩ kc i) (hc:chainOf p ⟨kc,s⟩=some pre):zmD p kc s=(⟨kc,s⟩,1):=by
 have h1:zbf p k s=(⟨kc,s⟩,1):=by
  unfold zmD at h
  by_cases h2:(zbf p k s).2=1
  ·rw[if_pos h2] at h
   split at h
   ·rw[<-(Prod.mk.inj h).1,<-h2]
   ·exact absurd (Prod.mk.inj h).2 (by decide)
  ·rw[if_neg h2] at h
   exact absurd (Prod.mk.inj h).2 h2
 have h3:whose p k s=(⟨kc,s⟩,1):=by
  unfold zbf at h1
  split at h1
  ·exact h1
  ·exact absurd (Prod.mk.inj h1).2 (by decide)
 obtain⟨h4,h5,_⟩:=znf 4 k h3
 refine za3 (pre:=pre) ?_ hc
 rw[za2 hh.2.1]
 show zbI p s 4 kc=_
 rw[zbI,if_pos h4,if_neg h5]
theorem zni {p:Plan} {k:Int} {kc i:Nat} {s:Str} {pre:List Ref} (h:zmD p k s=(⟨kc,s⟩,1)) (hh:Here p ⟨kc,s⟩ kc i) (hc:chainOf p ⟨kc,s⟩=some pre):zmF p ⟨kc,s⟩=pre∧canB p ⟨kc,s⟩=zhn p pre:=by
 have h1:zmF p ⟨kc,s⟩=pre:=by
  unfold zmF
  dsimp only
  rw[znh h hh hc,if_pos ⟨rfl,rfl⟩,hc]
  rfl
 refine⟨h1,?_⟩
 unfold canB
 rw[h1]
 cases pre with
 | nil=>exact absurd rfl (zng hc)
 | cons a b=>rfl
theorem znj (X:Nat->Prop) (p:Plan) (v:Value) (k0:Nat) (s:Str) (w:World) (hp:lodB p=true) (h:Sl X w 2 (KprC X w) v p.keepers) (hk0:k0<p.keepers.length) (hs:s.size≤maxLen):
  Calls Tryz.prog 158 #[.agg #[v],.int .i64 k0,.string s] w (Gives (refV (zdR p k0 s)) w):=by
 obtain⟨A,cap,rfl,_,_⟩:=h.form
 have hkw:=fun W (hW:Fr No w W)=>h.keep (R':=KprC X W) hW zN (fun _ _ _ h=>h.keep hW zN)
 have HF:=fun W (hW:Fr No w W)=>za6 X p _ k0 s W hp (hkw W hW) hk0 hs
 have B0:Bx ((w.alloc (.cells #[.slice A p.keepers.length cap] 32)).alloc (.cells #[.int .i64 0,.string ⟨#[]⟩] 34)) w.heap.size 32 #[.slice A p.keepers.length cap]:=bxc
 have B1:Bx ((w.alloc (.cells #[.slice A p.keepers.length cap] 32)).alloc (.cells #[.int .i64 0,.string ⟨#[]⟩] 34)) (w.heap.size+1) 34 #[.int .i64 0,.string ⟨#[]⟩]:=bxc
 by_cases hc:(zmD p k0 s).2=1
 ·obtain⟨kc,i,pre,hq,hh,hch⟩:=zmH hp hc
  have HL:=fun W (hW:Fr No w W)=>zkt X p _ kc s i W hp (hkw W hW) hh hs
  rw[hch] at HL
  dsimp only[Option.getD_some] at HL
  rw[<-(zni hq hh hch).2] at HL
  have hV:zdR p k0 s=if canB p ⟨kc,s⟩ then (⟨kc,s⟩,1) else (zbH,4):=by
   unfold zdR
   rw[if_pos hc,hq]
  rw[hq] at HF
  unfold refV at HF ⊢
  replace hV:=Lib.hid hV
  generalize zdR p k0 s=V at *
  generalize canB p ⟨kc,s⟩=cb at *
  dsimp only at HF
  clear hc hq hh hch h hkw
  go_enter Tryz.func158,Tryz.ntmps158
  go_wp2_with (go_at_call 114;refine(HF _ frc).mono ?_;rintro e w1 ⟨rfl,hf1⟩;have q1:Fr No w w1:=frc;have C0:=B0.keep hf1;have C1:=B1.keep hf1;have b0:=C0.c1;have l0:=C0.lt;have l1:=C1.lt)
  refine zdP (fun W=>Bx W (w.heap.size+1) 34 #[.int .i64 0,.string ⟨#[]⟩]∧Bx W w1.heap.size 34 #[.int .i64 kc,.string s]∧Fr No w W) ⟨bxc,bxc,frc⟩ ?_
  rintro Wz ⟨hB,hR,hwz⟩
  refine(HL Wz hwz).mono ?_
  rintro e w2 ⟨rfl,hf2⟩
  obtain⟨z0,z1⟩:=(hB.keep hf2).c2
  have zf:=fun j=>(hB.keep hf2).frozen j
  have zl:=(hB.keep hf2).lt
  obtain⟨y0,y1⟩:=(hR.keep hf2).c2
  have yl:=(hR.keep hf2).lt
  have q2:Fr No w w2:=hwz.trans0 hf2
  clear hf1 q1 B0 B1 HF HL hB hR hwz C0 C1 b0 l0 l1 hf2
  cases cb
  ·go_wp2
   refine bodyPost_ret (v:=.tuple #[.agg #[.int .i64 0,.string ⟨#[]⟩],.int .i64 4]) (by simp[results,Tryz.results158,go_sem, *]) rfl ?_
   exact .mk1 (by rw[hV.out];rfl) frc
  ·go_wp2
   refine bodyPost_ret (v:=.tuple #[.agg #[.int .i64 kc,.string s],.int .i64 1]) (by simp[results,Tryz.results158,go_sem, *]) rfl ?_
   exact .mk1 (by rw[hV.out];rfl) frc
 ·have HS:zdR p k0 s=(zbH,2):=by
   unfold zdR
   rw[if_neg hc]
  rw[HS]
  unfold refV at HF ⊢
  have hc':((zmD p k0 s).2 != 1)=true:=by simpa using hc
  generalize zmD p k0 s=q at *
  obtain⟨⟨kc,nm⟩,c⟩:=q
  dsimp only at *
  clear hc HS h hkw
  go_enter Tryz.func158,Tryz.ntmps158
  go_wp2_with (go_at_call 114;refine(HF _ frc).mono ?_;rintro e w1 ⟨rfl,hf1⟩;have q1:Fr No w w1:=frc;have C1:=B1.keep hf1;have ⟨z0,z1⟩:=C1.c2;have zf:=(fun j=>C1.frozen j);have zl:=C1.lt)
  refine bodyPost_ret (v:=.tuple #[.agg #[.int .i64 0,.string ⟨#[]⟩],.int .i64 2]) (by simp[results,Tryz.results158,go_sem, *]) rfl ?_
  exact .mk1 rfl frc
theorem znk (X:Nat->Prop) (p:Plan) (v:Value) {k i a:Nat} {s:Str} (w:World) (h:Sl X w 2 (KprC X w) v p.keepers) (hh:Here p ⟨k,s⟩ k i) (hs:s.size≤maxLen) (ha:a<(zbG p ⟨k,s⟩).methods.length):
  ∃cs:List Value,MthC X w cs (zbG p ⟨k,s⟩).methods[a]∧∀W,Fr No w W->Calls Tryz.prog 123 #[.agg #[v],.agg #[.int .i64 k,.string s,.int .i64 a]] W (Gives (.agg cs.toArray) W):=by
 obtain⟨A,cap,rfl,_,_⟩:=h.form
 obtain⟨Af,cf,Am,cm,hR,HC⟩:=zaU X p _ k s i w h hh hs
 clear h
 generalize zbG p ⟨k,s⟩=c at *
 obtain⟨vf,vm,he,_,_,_,hm⟩:=hR
 simp only[List.cons.injEq,true_and,and_true] at he
 obtain⟨rfl,rfl⟩:=he
 have hml:=hm.at_.2.2.1
 unfold maxLen at hml
 obtain⟨bm,om,Aa,ca,Ac,cc,Ax,cx,rfl,_,d0,d1,d2,d3,d4,d5,d6,d7,hr1,hr2,hr3,hr4,hr5,_,_,_,_,_,_⟩:=hm.mth ha
 refine⟨[.string c.methods[a].name,.slice Aa c.methods[a].args.length ca,.int .i64 c.methods[a].ret.kind,.string c.methods[a].ret.name,.int .i64 c.methods[a].locals,.int .i64 c.methods[a].stack,.slice Ac c.methods[a].code.length cc,.slice Ax c.methods[a].maps.length cx],⟨_,_,_,rfl,hr1,hr2,hr3,hr4,hr5⟩,fun w0 hW=>?_⟩
 clear hm hr1 hr2 hr3 hr4 hr5
 generalize c.methods[a]=m at *
 replace d0:=hW.keep0 d0
 replace d1:=hW.keep0 d1
 replace d2:=hW.keep0 d2
 replace d3:=hW.keep0 d3
 replace d4:=hW.keep0 d4
 replace d5:=hW.keep0 d5
 replace d6:=hW.keep0 d6
 replace d7:=hW.keep0 d7
 replace HC:=fun W' (h:Fr No w0 W')=>HC W' (hW.trans0 h)
 have hk0:(0:Int)≤(a:Int):=by omega
 have hka:(a:Int)<(c.methods.length:Int):=by omega
 clear hW hh
 obtain⟨wA,hwA⟩:∃wA,wA=(((w0.alloc (.cells #[.slice A p.keepers.length cap] 32)).alloc (.cells #[.int .i64 k,.string s,.int .i64 a] 71)).alloc (.cells #[.string ⟨#[]⟩,.slice none 0 0,.int .i64 0,.string ⟨#[]⟩,.int .i64 0,.int .i64 0,.slice none 0 0,.slice none 0 0] 60)):=⟨_,rfl⟩
 have hfA:Fr No w0 wA:=hwA▸frc
 have BP:Bx wA w0.heap.size 32 #[.slice A p.keepers.length cap]:=hwA▸bxc
 have B0:Bx wA (w0.heap.size+1) 71 #[.int .i64 k,.string s,.int .i64 a]:=hwA▸bxc
 have B1:Bx wA (w0.heap.size+1+1) 60 #[.string ⟨#[]⟩,.slice none 0 0,.int .i64 0,.string ⟨#[]⟩,.int .i64 0,.int .i64 0,.slice none 0 0,.slice none 0 0]:=hwA▸bxc
 replace d0:=cr (hfA.keep0 d0)
 replace d1:=cr (hfA.keep0 d1)
 replace d2:=cr (hfA.keep0 d2)
 replace d3:=cr (hfA.keep0 d3)
 replace d4:=cr (hfA.keep0 d4)
 replace d5:=cr (hfA.keep0 d5)
 replace d6:=cr (hfA.keep0 d6)
 replace d7:=cr (hfA.keep0 d7)
 have K0:=B0.r3
 have KP:=BP.r1
 go_enter Tryz.func123,Tryz.ntmps123
 go_wp2_with fail
 rw[<-hwA]
 clear hwA
 refine zn0 9 14 [mV (.agg #[.slice A p.keepers.length cap]),mV (.pointer (some ⟨w0.heap.size+1,0,none⟩)),mV (.agg #[.int .i64 k,.string s]),mV (.agg #[.string c.name,.string c.super,.slice Af c.fields.length cf,.slice (some ⟨bm,om,none⟩) c.methods.length cm]),mV (.slice (some ⟨bm,om,none⟩) c.methods.length cm),mV (.pointer (some ⟨w0.heap.size+1,2,none⟩)),mV (.int .i64 a),mV (.pointer (some ⟨bm,om+a * 8,none⟩)),mV (.agg #[.string m.name,.slice Aa m.args.length ca,.int .i64 m.ret.kind,.string m.ret.name,.int .i64 m.locals,.int .i64 m.stack,.slice Ac m.code.length cc,.slice Ax m.maps.length cx])] (by kernel_rfl) (by kernel_rfl) (by simp) ?_ ?_
 ·refine hc4 ?_ ?_ ?_ ?_ <| hc4 ?_ ?_ ?_ ?_ <| hopC ?_ <| hopZ
  all_goals (intro a' W hW hoff hdep;have hbs:=hW.size;have H2:=hoff 2 rfl;have H3:=hoff 3 rfl;refine nE rfl ?_)
  ·exact gx0
  ·simp[execOp,Act.eval,H3,go_sem,zaa];exact fr1 rfl
  ·have D6:_=_:=hdep 1 6 rfl;clear hoff hdep;simp[execOp,Act.eval,go_sem,zaa, *];exact fr1 rfl
  ·have D5:_=_:=hdep 0 5 rfl;have D7:_=_:=hdep 2 7 rfl;simp[Act.eval,D5,D7,go_sem,zaa];exact(HC _ (hfA.trans0 hW)).mono fun e w'' h=>⟨_,h.1,h.2,rfl⟩
  ·have D8:_=_:=hdep 3 8 rfl;simp[execOp,Act.eval,D8,go_sem,zaa];exact fr1 rfl
  ·simp[execOp,Act.eval,H3,go_sem,zaa];exact fr1 rfl
  ·have D10:_=_:=hdep 5 10 rfl;clear hoff hdep;simp[execOp,Act.eval,go_sem,zaa, *];exact fr1 rfl
  ·have D9:_=_:=hdep 4 9 rfl;have D11:_=_:=hdep 6 11 rfl;clear hoff hdep;simp[execOp,Act.eval,go_sem,zaa, *];exact fr1 rfl
  ·have D12:_=_:=hdep 7 12 rfl;clear hoff hdep;simp[execOp,Act.eval,go_sem,zaa, *];exact fr1 rfl
 intro vs WR hWR hv hne
 simp only[lz6,List.drop_zero,znK,znR,Nat.zero_add,Nat.reduceAdd]
 simp only[Act.put,lz0,lz1,lz2]
 clear hv
 have q1:Fr No w0 WR:=hfA.trans0 hWR
 have B1':=B1.keep hWR
 obtain⟨z0,z1,z2,z3,z4,z5,z6,z7⟩:=B1'.c8
 have zf:=fun j=>B1'.frozen j
 have zl:=B1'.lt
 go_wp2
 refine bodyPost_ret (v:=.agg #[.string m.name,.slice Aa m.args.length ca,.int .i64 m.ret.kind,.string m.ret.name,.int .i64 m.locals,.int .i64 m.stack,.slice Ac m.code.length cc,.slice Ax m.maps.length cx]) (by simp[results,Tryz.results123,go_sem, *]) rfl ?_
 exact .mk1 rfl frc
theorem s_call (X:Nat->Prop) (p:Plan) (v:Value) (k0:Nat) (s m:Str) (w:World) (hp:lodB p=true) (h:Sl X w 2 (KprC X w) v p.keepers) (hk0:k0<p.keepers.length) (hs:s.size≤maxLen) (hm:m.size≤maxLen):
  Calls Tryz.prog 122 #[.agg #[v],.int .i64 k0,.string s,.string m] w (Gives (zd5 (zd3 p k0 m (zdR p k0 s))) w):=by
 obtain⟨A,cap,rfl,_,_⟩:=h.form
 have hkw:=fun W (hW:Fr No w W)=>h.keep (R':=KprC X W) hW zN (fun _ _ _ h=>h.keep hW zN)
 have HK:=fun W (hW:Fr No w W)=>znj X p _ k0 s W hp (hkw W hW) hk0 hs
 have B0:Bx ((w.alloc (.cells #[.slice A p.keepers.length cap] 32)).alloc (.cells #[.int .i64 0,.string ⟨#[]⟩,.int .i64 0] 71)) w.heap.size 32 #[.slice A p.keepers.length cap]:=bxc
 have B1:Bx ((w.alloc (.cells #[.slice A p.keepers.length cap] 32)).alloc (.cells #[.int .i64 0,.string ⟨#[]⟩,.int .i64 0] 71)) (w.heap.size+1) 71 #[.int .i64 0,.string ⟨#[]⟩,.int .i64 0]:=bxc
 obtain⟨q,hq⟩:∃q,q=zdR p k0 s:=⟨_,rfl⟩
 rw[<-hq] at HK ⊢
 have hV:∃V,V=zd3 p k0 m q:=⟨_,rfl⟩
 obtain⟨V,hV⟩:=hV
 rw[<-hV]
 obtain⟨⟨rk,rn⟩,c⟩:=q
 unfold refV at HK
 dsimp only at HK
 unfold zd3 at hV
 dsimp only at hV
 by_cases hc:c=1
 ·subst hc
  rw[if_pos rfl] at hV
  obtain⟨kc,i,hr,hh,hcb,hfk⟩:=zd0 hp hq.symm
  obtain⟨kc2,_,pre,hq2,_,hch⟩:=zmH hp (show(zmD p k0 s).2=1 by rw[hfk])
  have hkk:kc=kc2:=Int.ofNat.inj (Ref.mk.inj (Prod.mk.inj (hfk.symm.trans hq2)).1).1
  subst hkk
  obtain⟨rfl,rfl⟩:=Ref.mk.inj hr
  have HC:=fun W (hW:Fr No w W)=>za0 X p _ _ rn i W hp (hkw W hW) hh hs
  rw[hch] at HC
  have hpk:zhp p ⟨(kc:Int),rn⟩ m=zho p m pre:=by
   unfold zhp
   rw[hcb,if_pos rfl,(zni hfk hh hch).1]
  have HW:=fun W u (hW:Fr No w W) (hu:Sl No W 2 RefC u pre)=>zkv X No p _ u pre m W (hkw W hW) hu (zhf hp hh hch) hm
  rw[<-hpk] at HW
  clear hq hr hh hcb hfk hq2 hch hpk
  cases ho:zhp p ⟨(kc:Int),rn⟩ m with
  | none=>
   rw[ho] at HW hV
   dsimp only at hV
   subst hV
   unfold zku at HW
   clear ho h hkw
   unfold zd5
   go_enter Tryz.func122,Tryz.ntmps122
   go_wp2_with (go_at_call 158;refine(HK _ frc).mono ?_;rintro e w1 ⟨rfl,hf1⟩;have q1:Fr No w w1:=frc;have C0:=B0.keep hf1;have C1:=B1.keep hf1;have b0:=C0.c1;have l0:=C0.lt;have l1:=C1.lt)
   refine zdP (fun W=>Bx W w.heap.size 32 #[.slice A p.keepers.length cap]∧Bx W (w.heap.size+1) 71 #[.int .i64 0,.string ⟨#[]⟩,.int .i64 0]∧Bx W w1.heap.size 34 #[.int .i64 kc,.string rn]∧Fr No w W) ⟨bxc,bxc,bxc,frc⟩ ?_
   rintro Wz ⟨hA,hB,hR,hwz⟩
   clear hf1 q1 B0 B1 C0 C1 b0 l0 l1 HK
   refine(HC Wz hwz).mono ?_
   rintro e w2 ⟨v2,rfl,hsl,hf2⟩
   obtain⟨A2,c2,rfl,_,_⟩:=hsl.form
   have q2:Fr No w w2:=hwz.trans0 hf2
   replace hA:=hA.keep hf2
   replace hB:=hB.keep hf2
   obtain b0:=hA.c1
   have l0:=hA.lt
   clear hf2 hwz
   go_wp2_with fail
   refine(HW w2 _ q2 hsl).mono ?_
   rintro e w3 ⟨rfl,hf3⟩
   replace hB:=hB.keep hf3
   obtain⟨z0,z1,z2⟩:=hB.c3
   have zf:=fun j=>hB.frozen j
   have zl:=hB.lt
   clear b0 l0 hA hR
   go_wp2
   refine bodyPost_ret (v:=.tuple #[.agg #[.int .i64 0,.string ⟨#[]⟩,.int .i64 0],.int .i64 3]) (by simp[results,Tryz.results122,go_sem, *]) rfl ?_
   exact .mk1 rfl frc
  | some qa=>
   obtain⟨⟨qk,qn⟩,a'⟩:=qa
   obtain⟨hqs,kq,ix,a,hh,rfl,ha⟩:=zdZ hp ho
   obtain rfl:qk=(kq:Int):=hh.1
   have hkq:=hh.2.1
   dsimp only at hqs
   rw[ho] at HW hV
   unfold zku at HW
   dsimp only at HW hV
   have hmt:(zbG p ⟨(kq:Int),qn⟩).methods.getD ((a:Int)).toNat zd2=(zbG p ⟨(kq:Int),qn⟩).methods[a]:=by simp[List.getD,lz8 ha]
   rw[hmt] at hV
   clear ho hmt
   obtain⟨cs,hM,HMe⟩:=znk X p _ w h hh hqs ha
   have HA:=fun W (hW:Fr No w W)=>zkp X X p _ k0 kq _ cs W hp (hkw W hW) hk0 hkq (hM.keep hW zN)
   clear hh h hkw
   generalize(zbG p ⟨(kq:Int),qn⟩).methods[a]=mt at *
   generalize zgM p k0 kq mt=ag at *
   clear ha hM
   replace hV:=Lib.hid hV
   go_enter Tryz.func122,Tryz.ntmps122
   go_wp2_with (go_at_call 158;refine(HK _ frc).mono ?_;rintro e w1 ⟨rfl,hf1⟩;have q1:Fr No w w1:=frc;have C0:=B0.keep hf1;have C1:=B1.keep hf1;have b0:=C0.c1;have l0:=C0.lt;have l1:=C1.lt)
   refine zdP (fun W=>Bx W w.heap.size 32 #[.slice A p.keepers.length cap]∧Bx W (w.heap.size+1) 71 #[.int .i64 0,.string ⟨#[]⟩,.int .i64 0]∧Bx W w1.heap.size 34 #[.int .i64 kc,.string rn]∧Fr No w W) ⟨bxc,bxc,bxc,frc⟩ ?_
   rintro Wz ⟨hA,hB,hR,hwz⟩
   clear hf1 q1 B0 B1 C0 C1 b0 l0 l1 HK
   refine(HC Wz hwz).mono ?_
   rintro e w2 ⟨v2,rfl,hsl,hf2⟩
   obtain⟨A2,c2,rfl,_,_⟩:=hsl.form
   have q2:Fr No w w2:=hwz.trans0 hf2
   replace hA:=hA.keep hf2
   replace hB:=hB.keep hf2
   obtain b0:=hA.c1
   have l0:=hA.lt
   clear hf2 hwz hR
   go_wp2_with fail
   refine(HW w2 _ q2 hsl).mono ?_
   rintro e w3 ⟨rfl,hf3⟩
   have q3:Fr No w w3:=q2.trans0 hf3
   replace hA:=hA.keep hf3
   replace hB:=hB.keep hf3
   have hlB:=hB.lt
   clear b0 l0 HC HW
   go_wp2_with fail
   refine zaE (fun W=>Bx W w.heap.size 32 #[.slice A p.keepers.length cap]∧Bx W (w.heap.size+1) 71 #[.int .i64 0,.string ⟨#[]⟩,.int .i64 0]∧Bx W w3.heap.size 71 #[.int .i64 kq,.string qn,.int .i64 a]∧Fr No w W) ⟨bxc,bxc,bxc,frc⟩ ?_
   clear hA hB hlB q3 hf3 q2 hsl
   rintro wA ⟨hA,hB,hR,hwz⟩
   have K0:=hR.r3
   have KP:=hA.r1
   refine zn0 9 52 [mV (.agg #[.slice A p.keepers.length cap]),mV (.int .i64 k0),mV (.pointer (some ⟨w3.heap.size,0,none⟩)),mV (.pointer (some ⟨w3.heap.size,0,none⟩)),mV (.int .i64 kq),mV (.agg #[.slice A p.keepers.length cap]),mV (.agg #[.int .i64 kq,.string qn,.int .i64 a]),mV (.agg cs.toArray),mV (.bool ag)] (by kernel_rfl) (by kernel_rfl) (by simp) ?_ ?_
   ·refine hc4 ?_ ?_ ?_ ?_ <| hc4 ?_ ?_ ?_ ?_ <| hopC ?_ <| hopZ
    all_goals (intro a' W hW hoff hdep;have hbs:=hW.size;have H4:=hoff 4 rfl;have H1:=hoff 1 rfl;have H14:=hoff 14 rfl;refine nE rfl ?_)
    ·exact gx0
    ·simp[execOp,Act.eval,H1,go_sem,zaa];exact fr1 rfl
    ·simp[execOp,Act.eval,H14,go_sem,zaa];exact fr1 rfl
    ·have D45:_=_:=hdep 2 45 rfl;simp[execOp,Act.eval,D45,go_sem,zaa];exact fr1 rfl
    ·have D46:_=_:=hdep 3 46 rfl;clear hoff hdep;simp[execOp,Act.eval,go_sem,zaa, *];exact fr1 rfl
    ·exact gx0
    ·exact gx0
    ·have D48:_=_:=hdep 5 48 rfl;have D49:_=_:=hdep 6 49 rfl;simp[Act.eval,D48,D49,go_sem,zaa];exact(HMe _ (hwz.trans0 hW)).mono fun e w'' h=>⟨_,h.1,h.2,rfl⟩
    ·have D43:_=_:=hdep 0 43 rfl;have D44:_=_:=hdep 1 44 rfl;have D47:_=_:=hdep 4 47 rfl;have D50:_=_:=hdep 7 50 rfl;simp[Act.eval,D43,D44,D47,D50,go_sem,zaa];exact(HA _ (hwz.trans0 hW)).mono fun e w'' h=>⟨_,h.1,h.2,rfl⟩
   intro vs WR hWR hv hne
   simp only[lz6,List.drop_zero,znK,znR,Nat.zero_add,Nat.reduceAdd]
   simp only[Act.put,lz0,lz1,lz2]
   clear hv
   have BZ:=hB.keep hWR
   have BR:=hR.keep hWR
   obtain⟨z0,z1,z2⟩:=BZ.c3
   have zf:=fun j=>BZ.frozen j
   have zl:=BZ.lt
   obtain⟨y0,y1,y2⟩:=BR.c3
   have yl:=BR.lt
   have q4:Fr No w WR:=hwz.trans0 hWR
   clear hA hB hR hwz K0 KP HA HMe
   cases ag
   ·go_wp2
    refine bodyPost_ret (v:=.tuple #[.agg #[.int .i64 0,.string ⟨#[]⟩,.int .i64 0],.int .i64 4]) (by simp[results,Tryz.results122,go_sem, *]) rfl ?_
    exact .mk1 (by rw[hV.out];rfl) frc
   ·go_wp2
    refine bodyPost_ret (v:=.tuple #[.agg #[.int .i64 kq,.string qn,.int .i64 a],.int .i64 1]) (by simp[results,Tryz.results122,go_sem, *]) rfl ?_
    exact .mk1 (by rw[hV.out];rfl) frc
 ·rw[if_neg hc] at hV
  subst hV
  have hc':(c != 1)=true:=by simpa using hc
  unfold zd5
  clear hq hc h hkw
  go_enter Tryz.func122,Tryz.ntmps122
  go_wp2_with (go_at_call 158;refine(HK _ frc).mono ?_;rintro e w1 ⟨rfl,hf1⟩;have q1:Fr No w w1:=frc;have C1:=B1.keep hf1;have ⟨z0,z1,z2⟩:=C1.c3;have zf:=(fun j=>C1.frozen j);have zl:=C1.lt)
  refine bodyPost_ret (v:=.tuple #[.agg #[.int .i64 0,.string ⟨#[]⟩,.int .i64 0],.int .i64 c]) (by simp[results,Tryz.results122,go_sem, *]) rfl ?_
  exact .mk1 rfl frc
theorem znl (X:Nat->Prop) (p:Plan) (v:Value) (k:Nat) (a b:Tag) (w:World) (hp:lodB p=true) (h:Sl X w 2 (KprC X w) v p.keepers) (hk0:k<p.keepers.length) (ha:a.name.size≤maxLen) (hb:b.name.size≤maxLen):
  Calls Tryz.prog 121 #[.agg #[v],.int .i64 k,.agg #[.int .i64 a.kind,.string a.name],.agg #[.int .i64 b.kind,.string b.name]] w (zgm (mayK p k a b) w):=by
 obtain⟨A,cap,rfl,hcap,hlen⟩:=h.form
 have hkw:=fun W (hW:Fr No w W)=>h.keep (R':=KprC X W) hW zN (fun _ _ _ h=>h.keep hW zN)
 have HA:=fun W (hW:Fr No w W)=>za6 X p _ k a.name W hp (hkw W hW) hk0 ha
 have HB:=fun W (hW:Fr No w W)=>za6 X p _ k b.name W hp (hkw W hW) hk0 hb
 have HU:(zmD p k a.name).2=1->∀W,Fr No w W->Calls Tryz.prog 157 #[.agg #[.slice A p.keepers.length cap],.agg #[.int .i64 (zmD p k a.name).1.keeper,.string (zmD p k a.name).1.name],.agg #[.int .i64 (zmD p k b.name).1.keeper,.string (zmD p k b.name).1.name]] W (zgm (zem p (zmD p k a.name).1 (zmD p k b.name).1) W):=fun h1 W hW=>by
  obtain⟨kc,i,pre,e1,hh,hch⟩:=zmH hp h1
  have e2:=(zni e1 hh hch).1
  unfold zem
  rw[e1]
  dsimp only
  rw[e2]
  exact zne X p _ kc a.name i pre _ W hp (hkw W hW) hh ha hch
 obtain⟨V,hV⟩:∃V,V=mayK p k a b:=⟨_,rfl⟩
 rw[<-hV]
 unfold mayK at hV
 unfold refV at HA HB
 generalize zem p (zmD p k a.name).1 (zmD p k b.name).1=U at *
 generalize zmD p k a.name=qa at *
 generalize zmD p k b.name=qb at *
 obtain⟨⟨ka,na⟩,ca⟩:=qa
 obtain⟨⟨kb,nb⟩,cb⟩:=qb
 obtain⟨ak,an⟩:=a
 obtain⟨bk,bn⟩:=b
 dsimp only at *
 clear h hkw
 by_cases h0:bk=0
 ·subst h0
  rw[if_pos rfl] at hV
  clear HA HB HU
  go_enter Tryz.func121,Tryz.ntmps121
  go_wp2
  go_ret
  exact .mk hV.symm frc
 rw[if_neg h0] at hV
 by_cases ht:zei ⟨ak,an⟩ ⟨bk,bn⟩=true
 ·rw[if_pos ht] at hV
  rw[zej] at ht
  cases ht
  clear HA HB HU
  go_enter Tryz.func121,Tryz.ntmps121
  go_wp2
  go_ret
  exact .mk hV.symm frc
 rw[if_neg ht] at hV
 have hx:¬(ak=bk∧an.toList=bn.toList):=fun hx=>ht (by unfold zei;simp[hx.1,hx.2])
 clear ht
 by_cases h2:bk=2
 ·subst h2
  rw[if_neg (by simp)] at hV
  by_cases h3:ak=3
  ·subst h3
   rw[if_pos rfl] at hV
   clear HA HB HU hx
   go_enter Tryz.func121,Tryz.ntmps121
   go_wp2
   go_ret
   exact .mk hV.symm frc
  rw[if_neg h3] at hV
  by_cases h4:ak=2
  ·subst h4
   rw[if_neg (by simp)] at hV
   obtain⟨wA,hwA⟩:∃wA,wA=(((w.alloc (.cells #[.slice A p.keepers.length cap] 32)).alloc (.cells #[.int .i64 2,.string an] 116)).alloc (.cells #[.int .i64 2,.string bn] 116)):=⟨_,rfl⟩
   have hfA:Fr No w wA:=hwA▸frc
   have K0:=(hwA▸bxc:Bx wA w.heap.size 32 #[.slice A p.keepers.length cap]).r1
   have K1:=(hwA▸bxc:Bx wA (w.heap.size+2) 116 #[.int .i64 2,.string bn]).r2
   have hn:¬an.toList=bn.toList:=fun h=>hx ⟨rfl,h⟩
   clear hx h0
   have hcase:(ca=1∧cb=1)∨(ca=1∧¬cb=1)∨¬ca=1:=by
    by_cases h1:ca=1<;>by_cases h2:cb=1<;>simp[h1,h2]
   replace hV:=Lib.hid hV
   rcases hcase with ⟨rfl,rfl⟩ | ⟨rfl,hc2⟩|hc1
   ·have hE:V=U:=by rw[hV.out];simp
    have HU':=HU rfl
    clear HU hV
    go_enter Tryz.func121,Tryz.ntmps121
    go_wp2_with fail
    rw[<-hwA]
    replace hwA:=Lib.hid hwA
    refine(HA _ hfA).mono ?_
    rintro e w1 ⟨rfl,hf1⟩
    have z1:=K1 w1 hf1
    have z0:=K0 w1 hf1
    have R1:=(Bx.new w1 34 #[.int .i64 ka,.string na])
    go_wp2_with fail
    refine(HB _ (by exact frc)).mono ?_
    rintro e w2 ⟨rfl,hf2⟩
    have R2:=R1.keep hf2
    obtain⟨y0,y1⟩:=R2.c2
    have yl:=R2.lt
    have z0:=K0 w2 (hf1.trans0 ((Fr.refl No w1).alloc _ |>.trans0 hf2))
    clear z1 R1
    go_wp2_with fail
    refine(HU' _ (by exact frc)).mono ?_
    rintro e w3 ⟨rfl,hf3⟩
    clear y0 y1 yl R2
    go_wp2
    go_ret
    exact .mk hE.symm (by exact frc)
   ·have hE:V=false:=by rw[hV.out];simp[hc2]
    clear HU hV
    go_enter Tryz.func121,Tryz.ntmps121
    go_wp2_with fail
    rw[<-hwA]
    replace hwA:=Lib.hid hwA
    refine(HA _ hfA).mono ?_
    rintro e w1 ⟨rfl,hf1⟩
    have z1:=K1 w1 hf1
    have z0:=K0 w1 hf1
    go_wp2_with fail
    refine(HB _ (by exact frc)).mono ?_
    rintro e w2 ⟨rfl,hf2⟩
    clear z1
    go_wp2
    go_ret
    exact .mk hE.symm (by exact frc)
   ·have hE:V=false:=by rw[hV.out];simp[hc1]
    clear HU hV
    go_enter Tryz.func121,Tryz.ntmps121
    go_wp2_with fail
    rw[<-hwA]
    replace hwA:=Lib.hid hwA
    refine(HA _ hfA).mono ?_
    rintro e w1 ⟨rfl,hf1⟩
    have z1:=K1 w1 hf1
    have z0:=K0 w1 hf1
    go_wp2_with fail
    refine(HB _ (by exact frc)).mono ?_
    rintro e w2 ⟨rfl,hf2⟩
    clear z1
    go_wp2
    go_ret
    exact .mk hE.symm (by exact frc)
  ·rw[if_pos h4] at hV
   clear HA HB HU hx
   go_enter Tryz.func121,Tryz.ntmps121
   go_wp2
   go_ret
   exact .mk hV.symm frc
 ·rw[if_pos h2] at hV
  clear HA HB HU
  go_enter Tryz.func121,Tryz.ntmps121
  go_wp2
  all_goals first
   | (go_ret;exact .mk hV.symm frc)
   | (exact absurd ⟨by assumption,by assumption⟩ hx)
theorem zkF {p:Plan} {k:Int} {st:List Tag} {t:Tag} (h:zcD st=none):popF p k st t=none:=by unfold popF;rw[h]
theorem zkG {p:Plan} {k:Int} {st r:List Tag} {x t:Tag} (h:zcD st=some (x,r)):popF p k st t=if mayK p k x t then some r else none:=by unfold popF;rw[h]
theorem zkH {st:List Tag} (h:zcD st=none):popR st=none:=by unfold popR;rw[h]
theorem zkI {st r:List Tag} {x:Tag} (h:zcD st=some (x,r)):popR st=if x.kind=2∨x.kind=3 then some r else none:=by unfold popR;rw[h]
theorem popped {w w':World} {vl vs:Value} {f:Frm} {ys:List Tag} {A:Option Addr} {c':Nat} {X:Nat->Prop} (hI:FrmI w vl vs f)
  (hf:Fr X w w') (hX:∀q,q<w.heap.size->¬X q) (hr:zcX w' tTag (.slice A ys.length c') ys) (hq:∀q,zcP (.slice A ys.length c')=some q->w.heap.size≤q):
  FrmI w' vl (.slice A ys.length c') ⟨f.locals,ys⟩:=
 ⟨hI.loc.keep hf (fun q h=>hX q (hI.loc.1.lt h)),hr,fun q h1 h2=>by have:=hI.loc.1.lt h1;have:=hq q h2;omega⟩
theorem zkJ (X:Nat->Prop) (p:Plan) (v vl vs:Value) (k0:Nat) (f:Frm) (t:Tag) (w:World) (hp:lodB p=true) (h:Sl X w 2 (KprC X w) v p.keepers) (hk0:k0<p.keepers.length) (hI:FrmI w vl vs f) (hl:f.stack.length≤1000) (ht:t.name.size≤maxLen):
  Calls Tryz.prog 75 #[.agg #[v],.int .i64 k0,.agg #[vl,vs],.agg #[.int .i64 t.kind,.string t.name]] w (PopP vl vs ((popF p k0 f.stack t).map (⟨f.locals,·⟩)) w):=by
 obtain⟨A,cap,rfl,_,_⟩:=h.form
 have HM:=fun(x:Tag) W (hW:Fr No w W) (z:x.name.size≤maxLen)=>znl X p _ k0 x t W hp (h.keep (R':=KprC X W) hW zN (fun _ _ _ h=>h.keep hW zN)) hk0 z ht
 obtain⟨Al,cl,hv,_,_⟩:=hI.loc.1.form
 subst hv
 clear h
 rcases ze2 f.stack with ⟨h0,ht0⟩ | ⟨ys,x,h0,ht0⟩
 ·rw[zkF ht0]
  obtain⟨As,cs,hv,_,_⟩:=(h0▸hI.stk).1.form
  rw[List.length_nil] at hv
  subst hv
  obtain⟨wA,hwA⟩:∃wA,wA=((((w.alloc (.cells #[.slice A p.keepers.length cap] 32)).alloc (.cells #[.slice Al f.locals.length cl,.slice As 0 cs] 77)).alloc (.cells #[.int .i64 t.kind,.string t.name] tTag)).alloc (.cells #[.slice none 0 0,.slice none 0 0] 77)):=⟨_,rfl⟩
  have hfA:Fr No w wA:=hwA▸frc
  have B1:=(hwA▸bxc:Bx wA (w.heap.size+1) 77 #[.slice Al f.locals.length cl,.slice As 0 cs])
  have B3:=(hwA▸bxc:Bx wA (w.heap.size+3) 77 #[.slice none 0 0,.slice none 0 0])
  clear hI HM h0 ht0
  go_enter Tryz.func75,Tryz.ntmps75
  go_wp2_with fail
  rw[<-hwA]
  replace hwA:=Lib.hid hwA
  (refine zgc (X:=No) (by kernel_rfl) (by kernel_rfl) ?_)
  (repeat((first|go_big_quiet_skip|(go_big_quiet_want;(apply Exists.intro;refine⟨fun W hW=>?_,?_⟩);(focus (exact fqc));go_big_quiet_on));(try simp only[Act.put,lz0,lz1,lz2])));refine wpQuiet_nil ?_
  intro w1 hf1
  obtain⟨d0,d1⟩:=(B1.keep hf1).c2
  have dl:=(B1.keep hf1).lt
  obtain⟨e0,e1⟩:=(B3.keep hf1).c2
  have ef:=fun i=>(B3.keep hf1).frozen i
  have el:=(B3.keep hf1).lt
  go_wp2
  refine bodyPost_ret (v:=.tuple #[.agg #[.slice Al f.locals.length cl,.slice As 0 cs],.bool false]) (by simp[results,Tryz.results75,go_sem, *]) rfl ?_
  exact⟨frc,rfl⟩
 ·rw[zkG ht0]
  obtain⟨g,c,rfl,hq,hc1,hc2,t0,t1,hxn⟩:=(h0▸hI.stk).top
  have hyl:ys.length+1≤1000:=by rw[h0] at hl;simpa using hl
  have hcut:zcX w tTag (.slice (some ⟨g,0,none⟩) ys.length c) ys:=by
   have:=(h0▸hI.stk).cut
   simpa using this
  obtain⟨wA,hwA⟩:∃wA,wA=((((w.alloc (.cells #[.slice A p.keepers.length cap] 32)).alloc (.cells #[.slice Al f.locals.length cl,.slice (some ⟨g,0,none⟩) (ys.length+1) c] 77)).alloc (.cells #[.int .i64 t.kind,.string t.name] tTag)).alloc (.cells #[.slice none 0 0,.slice none 0 0] 77)):=⟨_,rfl⟩
  have hfA:Fr No w wA:=hwA▸frc
  have B0:=(hwA▸bxc:Bx wA w.heap.size 32 #[.slice A p.keepers.length cap])
  have B1:=(hwA▸bxc:Bx wA (w.heap.size+1) 77 #[.slice Al f.locals.length cl,.slice (some ⟨g,0,none⟩) (ys.length+1) c])
  have B2:=(hwA▸bxc:Bx wA (w.heap.size+2) tTag #[.int .i64 t.kind,.string t.name])
  have B3:=(hwA▸bxc:Bx wA (w.heap.size+3) 77 #[.slice none 0 0,.slice none 0 0])
  have KA:=B0.r1
  have KF:=B1.r2
  have KT:=B2.r2
  have KX0:=cr (hfA.keep0 t0)
  have KX1:=cr (hfA.keep0 t1)
  have H1:=fun W (hW:Fr No wA W)=>HM x W (hfA.trans0 hW) hxn
  have hsub:IntKind.i64.wrap (ys.length:Int)=(ys.length:Int):=IntWalk.i64_in _ (by omega)
  have hb0:((ys.length:Int)+1 == 0)=false:=by simp only[beq_eq_false_iff_ne,ne_eq];omega
  clear HM h0 ht0 hl t0 t1
  generalize mayK p k0 x t=M at *
  unfold maxLen at hc2
  replace hI:=Lib.hid hI
  replace hcut:=Lib.hid hcut
  go_enter Tryz.func75,Tryz.ntmps75
  go_wp2_with fail
  rw[<-hwA]
  replace hwA:=Lib.hid hwA
  (refine zgc (X:=No) (by kernel_rfl) (by kernel_rfl) ?_)
  (repeat((first|go_big_quiet_skip|(go_big_quiet_want;(apply Exists.intro;refine⟨fun W hW=>?_,?_⟩);(focus (first|exact fqc|(go_simp;first|(go_at_call 121;exact(H1 W hW).mono (fun _ _ h=>⟨h.1,hW.trans0 h.2⟩)))));go_big_quiet_on));(try simp only[Act.put,lz0,lz1,lz2])));refine wpQuiet_nil ?_
  intro w1 hf1
  have C1:=B1.keep hf1
  have C3:=B3.keep hf1
  clear KA KF KT KX0 KX1 H1 B0 B1 B2 B3
  obtain⟨d0,d1⟩:=C1.c2
  have dl:=C1.lt
  cases M
  ·obtain⟨e0,e1⟩:=C3.c2
   have ef:=fun i=>C3.frozen i
   have el:=C3.lt
   go_wp2
   refine bodyPost_ret (v:=.tuple #[.agg #[.slice Al f.locals.length cl,.slice (some ⟨g,0,none⟩) (ys.length+1) c],.bool false]) (by simp[results,Tryz.results75,go_sem, *]) rfl ?_
   exact⟨frc,rfl⟩
  ·have hsl:=fun W (hW:Fr No w1 W)=>(hcut.out.keep (X:=No) ((hfA.trans0 hf1).trans0 hW) (fun _ _ h=>h)).sl (X:=No) (fun _ _ h=>h)
   go_wp2_with (at_builtin;refine ze9 rfl _ _ rfl ⟨w1.heap.size,0,none⟩ rfl No (.slice (some ⟨g,0,none⟩) ys.length c) ys rfl (hsl _ frc) (by omega) ?_;intro A' c' w5 hrow hbk hf5;have q5:Fr No w1 w5:=(show Fr No w1 (w1.alloc (.cells #[] tTag)) from frc).trans0 hf5;have D1:=C1.keep q5;have D3:=C3.keep q5;clear d0 d1 dl;obtain⟨d0,d1⟩:=D1.c2;obtain⟨e0,e1⟩:=D3.c2;have df:=(fun i=>D1.frozen i);have ef:=(fun i=>D3.frozen i);have dl:=D1.lt;have el:=D3.lt)
   refine bodyPost_ret (v:=.tuple #[.agg #[.slice Al f.locals.length cl,.slice A' ys.length c'],.bool true]) (by simp[results,Tryz.results75,go_sem, *]) rfl ?_
   have hsz:=(hfA.trans0 hf1).size
   have hz:Fr No w w5:=(hfA.trans0 hf1).trans0 q5
   have hz2:Fr (fun b=>b=w.heap.size+1∨b=w.heap.size+3) w5 (((w5.setCell ⟨w.heap.size+1,1,none⟩ (.slice A' ys.length c')).setCell ⟨w.heap.size+3,0,none⟩ (.slice Al f.locals.length cl)).setCell ⟨w.heap.size+3,1,none⟩ (.slice A' ys.length c')):=
    (((Fr.refl _ w5).setCellX (p:=⟨w.heap.size+1,1,none⟩) (.inl rfl) _).setCellX (p:=⟨w.heap.size+3,0,none⟩) (.inr rfl) _).setCellX (p:=⟨w.heap.size+3,1,none⟩) (.inr rfl) _
   have hfin:Fr (fun b=>w.heap.size≤b) w _:=(hz.of0).same (hz2.mono (fun b _ h=>by rcases h with rfl|rfl<;>omega))
   have hrow2:=hrow.keep hz2 (fun q hq h=>by have:=hbk q hq;simp at this;have:=C3.lt;rcases h with rfl|rfl<;>omega)
   have i0:∀q,zcP (.slice A' ys.length c')=some q->w.heap.size≤q:=fun q hq=>by have:=hbk q hq;simp at this;omega
   have i1:=popped hI.out hfin (fun q h1 h2=>by omega) hrow2 i0
   exact⟨hfin.mono (fun b hb h=>absurd hb (by omega)),_,_,rfl,i1,i0⟩
theorem zkK (vl vs:Value) (f:Frm) (w:World) (hI:FrmI w vl vs f) (hl:f.stack.length≤1000):
  Calls Tryz.prog 128 #[.agg #[vl,vs]] w (PopP vl vs ((popR f.stack).map (⟨f.locals,·⟩)) w):=by
 obtain⟨Al,cl,hv,_,_⟩:=hI.loc.1.form
 subst hv
 rcases ze2 f.stack with ⟨h0,ht0⟩ | ⟨ys,x,h0,ht0⟩
 ·rw[zkH ht0]
  obtain⟨As,cs,hv,_,_⟩:=(h0▸hI.stk).1.form
  rw[List.length_nil] at hv
  subst hv
  clear hI h0 ht0
  go_enter Tryz.func128,Tryz.ntmps128
  go_wp2
  refine bodyPost_ret (v:=.tuple #[.agg #[.slice Al f.locals.length cl,.slice As 0 cs],.bool false]) (by simp[results,Tryz.results128,go_sem]) rfl ?_
  exact⟨frc,rfl⟩
 ·rw[zkI ht0]
  obtain⟨g,c,rfl,hq,hc1,hc2,t0,t1,hxn⟩:=(h0▸hI.stk).top
  have hyl:ys.length+1≤1000:=by rw[h0] at hl;simpa using hl
  have hcut:zcX w tTag (.slice (some ⟨g,0,none⟩) ys.length c) ys:=by
   have:=(h0▸hI.stk).cut
   simpa using this
  obtain⟨w1,hw1⟩:∃w1,w1=((w.alloc (.cells #[.slice Al f.locals.length cl,.slice (some ⟨g,0,none⟩) (ys.length+1) c] 77)).alloc (.cells #[.slice none 0 0,.slice none 0 0] 77)):=⟨_,rfl⟩
  have hfA:Fr No w w1:=hw1▸frc
  have C1:=(hw1▸bxc:Bx w1 w.heap.size 77 #[.slice Al f.locals.length cl,.slice (some ⟨g,0,none⟩) (ys.length+1) c])
  have C3:=(hw1▸bxc:Bx w1 (w.heap.size+1) 77 #[.slice none 0 0,.slice none 0 0])
  have hgl:=lt_of_cell t0
  have hsub:IntKind.i64.wrap (ys.length:Int)=(ys.length:Int):=IntWalk.i64_in _ (by omega)
  have hb0:((ys.length:Int)+1 == 0)=false:=by simp only[beq_eq_false_iff_ne,ne_eq];omega
  obtain⟨y0,y1⟩:=C3.c2
  have yl:=C3.lt
  clear h0 ht0 hl t1
  obtain⟨xk,xn⟩:=x
  dsimp only at *
  unfold maxLen at hc2
  replace hI:=Lib.hid hI
  replace hcut:=Lib.hid hcut
  by_cases hx:xk=2∨xk=3
  ·rw[if_pos hx]
   have hsl:=fun W (hW:Fr No w1 W)=>(hcut.out.keep (X:=No) (hfA.trans0 hW) (fun _ _ h=>h)).sl (X:=No) (fun _ _ h=>h)
   replace hsl:=Lib.hid hsl
   go_enter Tryz.func128,Tryz.ntmps128
   rcases hx with rfl|rfl
   all_goals
    go_wp2_with (at_builtin;rw[<-hw1];refine ze9 rfl _ _ rfl ⟨w1.heap.size,0,none⟩ (by rw[hw1];simp[Act.eval]) No (.slice (some ⟨g,0,none⟩) ys.length c) ys rfl (hsl.out _ frc) (by omega) ?_;intro A' c' w5 hrow hbk hf5;have q5:Fr No w1 w5:=(show Fr No w1 (w1.alloc (.cells #[] tTag)) from frc).trans0 hf5;have D1:=C1.keep q5;have D3:=C3.keep q5;obtain⟨d0,d1⟩:=D1.c2;obtain⟨e0,e1⟩:=D3.c2;have df:=(fun i=>D1.frozen i);have ef:=(fun i=>D3.frozen i);have dl:=D1.lt;have el:=D3.lt;replace hw1:=Lib.hid hw1)
    refine bodyPost_ret (v:=.tuple #[.agg #[.slice Al f.locals.length cl,.slice A' ys.length c'],.bool true]) (by simp[results,Tryz.results128,go_sem, *]) rfl ?_
    have hsz:=hfA.size
    have hz:Fr No w w5:=hfA.trans0 q5
    have hz2:Fr (fun b=>b=w.heap.size∨b=w.heap.size+1) w5 (((w5.setCell ⟨w.heap.size,1,none⟩ (.slice A' ys.length c')).setCell ⟨w.heap.size+1,0,none⟩ (.slice Al f.locals.length cl)).setCell ⟨w.heap.size+1,1,none⟩ (.slice A' ys.length c')):=
     (((Fr.refl _ w5).setCellX (p:=⟨w.heap.size,1,none⟩) (.inl rfl) _).setCellX (p:=⟨w.heap.size+1,0,none⟩) (.inr rfl) _).setCellX (p:=⟨w.heap.size+1,1,none⟩) (.inr rfl) _
    have hfin:Fr (fun b=>w.heap.size≤b) w _:=(hz.of0).same (hz2.mono (fun b _ h=>by rcases h with rfl|rfl<;>omega))
    have hrow2:=hrow.keep hz2 (fun q hq h=>by have:=hbk q hq;simp at this;have:=C3.lt;rcases h with rfl|rfl<;>omega)
    have i0:∀q,zcP (.slice A' ys.length c')=some q->w.heap.size≤q:=fun q hq=>by have:=hbk q hq;simp at this;omega
    have i1:=popped hI.out hfin (fun q h1 h2=>by omega) hrow2 i0
    exact⟨hfin.mono (fun b hb h=>absurd hb (by omega)),_,_,rfl,i1,i0⟩
  ·rw[if_neg hx]
   have hx2:(xk != 2)=true:=by simp only[bne_iff_ne,ne_eq];exact fun h=>hx (.inl h)
   have hx3:(xk != 3)=true:=by simp only[bne_iff_ne,ne_eq];exact fun h=>hx (.inr h)
   clear hx
   go_enter Tryz.func128,Tryz.ntmps128
   go_wp2
   refine bodyPost_ret (v:=.tuple #[.agg #[.slice Al f.locals.length cl,.slice (some ⟨g,0,none⟩) (ys.length+1) c],.bool false]) (by simp[results,Tryz.results128,go_sem]) rfl ?_
   exact⟨frc,rfl⟩
end Go.Proofs.YthembcdcdnffeaaGreat
