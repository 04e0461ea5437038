/- The code of a link's error (errors.As); the program's LnkCall. -/
import Derived.Test.YtbfmeklfpackjaaGreatDoorQHPqa3
set_option maxHeartbeats 8000000
set_option maxRecDepth 100000
namespace Go.Proofs.YtbfmeklfpackjaaGreatDoor
open Go.RowKit
def ErrT (w:World):Prop:=w.cell? ⟨0,0,none⟩=some (.iface 187 (.agg #[.pointer (some ⟨1,75,none⟩)]))
theorem zu4 (c:Int) (v:Value) (w:World) (h:ErrV c v w) (hg:ErrT w):
  Calls Tryz.prog 27 #[v] w (Gives (.int .i64 c) w):=by
 rcases h with ⟨rfl,rfl⟩ | ⟨hc,b,rfl,hb⟩
 ·go_enter Tryz.func27,Tryz.ntmps27
  go_wp2_with (go_at_call 51;refine(zu0 _ _).mono ?_;rintro e w' ⟨rfl,rfl⟩)
  go_ret
  exact .mk1 rfl frc
 ·obtain⟨wA,hwA⟩:∃wA,wA=w.alloc (.cells #[.pointer none] 108):=⟨_,rfl⟩
  have hfA:Fr No w wA:=hwA▸frc
  have B0:Bx wA w.heap.size 108 #[.pointer none]:=hwA▸bxc
  have hgA:wA.cell? ⟨0,0,none⟩=some (.iface 187 (.agg #[.pointer (some ⟨1,75,none⟩)])):=hfA.keep0 hg
  have HA:=zu1 ⟨b,0,none⟩ ⟨w.heap.size,0,none⟩ (.pointer none) wA hgA B0.c1 (B0.frozen 0)
  go_enter Tryz.func27,Tryz.ntmps27
  go_wp2_with fail
  rw[<-hwA]
  refine HA.mono ?_
  rintro e w1 ⟨rfl,hw1⟩
  have q1:Fr No w w1:=by
   rw[hw1]
   exact frc
  have B1:Bx w1 w.heap.size 108 #[.pointer (some ⟨b,0,none⟩)]:=by
   rw[hw1]
   exact Bx.set_ ((((B0.alloc _).alloc _).alloc _).alloc _) 0 _
  have c0:=B1.c1
  have l1:=B1.lt
  have e0:=(hb.keep q1).c1
  have l0:=(hb.keep q1).lt
  clear hw1 HA hwA
  go_wp2
  go_ret
  exact .mk1 rfl frc
theorem zu5 (p:Plan) (v:Value) (k:Int) (s m:Str) (w:World) (h:Sl No w 2 (KprC No w) v p.keepers) (hs:s.size≤maxLen) (hm:m.size≤maxLen) (hg:ErrT w):
  Calls Tryz.prog 7 #[.agg #[v],.int .i64 k,.string s,.string m] w (Gives (zd5 (zu3 p k s m)) w):=by
 obtain⟨A,cap,rfl,_,_⟩:=h.form
 obtain⟨wA,hwA⟩:∃wA,wA=((w.alloc (.cells #[.slice A p.keepers.length cap] 25)).alloc (.cells #[.int .i64 0,.string ⟨#[]⟩,.int .i64 0] 31)):=⟨_,rfl⟩
 have hfA:Fr No w wA:=hwA▸frc
 have B0:Bx wA w.heap.size 25 #[.slice A p.keepers.length cap]:=hwA▸bxc
 have B2:Bx wA (w.heap.size+1) 31 #[.int .i64 0,.string ⟨#[]⟩,.int .i64 0]:=hwA▸bxc
 have HN:=zgH p _ wA (h.keep hfA zN (fun _ _ _ h=>h.keep hfA zN))
 have hV:zu3 p k s m=if lodB p then zd4 p k s m else ((zbH,0),2):=rfl
 have hsA:=hfA.size
 unfold zgG at HN
 generalize zu3 p k s m=V at *
 clear h
 cases hp:lodB p
 ·rw[hp] at HN hV
  simp only[Bool.false_eq_true,if_false] at hV
  subst hV
  have q0:=B0.c1
  have l0:=B0.lt
  go_enter Tryz.func7,Tryz.ntmps7
  go_wp2_with fail
  rw[<-hwA]
  replace hwA:=Lib.hid hwA
  refine HN.mono ?_
  rintro e w1 ⟨hf1,⟨_,rfl⟩ | ⟨hno,_⟩⟩
  ·obtain⟨y0,y1,y2⟩:=(B2.keep hf1).c3
   have yf:=fun j=>(B2.keep hf1).frozen j
   have yl:=(B2.keep hf1).lt
   clear q0 l0 HN
   go_wp2
   refine bodyPost_ret (v:=.tuple #[.agg #[.int .i64 0,.string ⟨#[]⟩,.int .i64 0],.int .i64 2]) (by simp[results,Tryz.results7,go_sem, *]) rfl ?_
   exact .mk1 rfl frc
  ·cases hno
 ·rw[hp] at HN hV
  simp only[if_true] at hV
  have HP:=fun l bl W (hL:Lg W l bl 0 p)=>zd7 l bl 0 p k s m W hL hs hm (by omega)
  rw[<-hV] at HP
  clear hV
  unfold zd6 at HP
  obtain⟨⟨⟨uk,un⟩,ui⟩,uc⟩:=V
  unfold zd5
  dsimp only at HP ⊢
  have q0:=B0.c1
  have l0:=B0.lt
  go_enter Tryz.func7,Tryz.ntmps7
  go_wp2_with fail
  rw[<-hwA]
  replace hwA:=Lib.hid hwA
  refine HN.mono ?_
  rintro e w1 ⟨hf1,⟨hno,_⟩ | ⟨_,l,bl,rfl,hll,hbl,hLo⟩⟩
  ·cases hno
  ·have hLg:Lg w1 l bl 0 p:=⟨_,hLo,fun _ _ _ h=>by cases h⟩
   have hb2:=B2.keep hf1
   have hsz:=hfA.size
   have hl2:=B2.lt
   have hbl1:=hLg.lt
   clear q0 l0 HN hLo
   go_wp2_with fail
   refine(HP l bl w1 hLg).mono ?_
   rintro e w2 ⟨ev,rfl,he,hf2,hL2⟩
   have hB2:=hb2.keepX hf2 (by omega)
   have hw2:Fr No w w2:=(hfA.trans0 hf1).trans hf2 (fun b hb h=>absurd h (by omega))
   have hg2:ErrT w2:=hw2.keep0 hg
   have hlz:=hB2.lt
   clear hb2 hf1 hf2 HP hLg hL2
   go_wp2_with fail
   refine zaE (fun W=>Bx W (w.heap.size+1) 31 #[.int .i64 0,.string ⟨#[]⟩,.int .i64 0]∧Bx W w2.heap.size 31 #[.int .i64 uk,.string un,.int .i64 ui]∧Fr No w2 W) ⟨bxc,bxc,frc⟩ ?_
   rintro wB ⟨hB,hR,hwz⟩
   have HL:=fun W (hW:Fr No wB W)=>zu4 uc ev W ((he.keep hwz).keep hW) ((hwz.trans0 hW).keep0 hg2)
   have K0:=hR.r3
   clear he hB2 B0 B2
   refine zaC 3 [isV (.agg #[.int .i64 uk,.string un,.int .i64 ui]),isV (ev),isV (.int .i64 uc)] [false,false,false] [false,false,false] ?_ (by kernel_rfl) (by kernel_rfl) ?_ ?_ ?_ ?_
   ·intro x hx hb v W h
    simp only[List.zip_cons_cons,List.zip_nil_left,List.mem_cons,List.not_mem_nil,or_false] at hx
    rcases hx with rfl|rfl|rfl<;>first|(cases hb;done)|exact zaB h
   ·intro o ho d hd;simp only[lz7,List.take_zero,List.mem_cons,List.not_mem_nil,or_false] at ho;rcases ho with rfl|rfl|rfl<;>(cases hd;simp)
   ·intro x hx
    simp only[List.mem_cons,List.not_mem_nil,or_false] at hx
    rcases hx with rfl|rfl|rfl
    ·exact zaz _
    ·exact zaz _
    ·exact zaz _
   ·intro k o ho a' W hW hoff hdep
    have hbs:=hW.size
    have H11:=hoff 11 (by simp)
    have H12:=hoff 12 (by simp)
    simp only[Act.eval] at H11 H12
    simp only[lz7,List.take_zero] at ho hdep
    rcases k with _|_|_|k
    all_goals (first|(simp at ho;done)|skip)
    all_goals simp only[lz3,lz4,Option.some.injEq] at ho
    all_goals subst ho
    ·refine⟨fun h=>absurd h (by decide),fun _=>?_⟩
     unfold zab
     simp[execOp,Act.eval,go_sem,zaa, *]
     exact⟨Fr.refl _ _,rfl⟩
    ·refine⟨fun h=>absurd h (by decide),fun _=>?_⟩
     unfold zab
     simp[execOp,Act.eval,H12,go_sem,zaa]
     exact⟨Fr.refl _ _,rfl⟩
    ·have D27:a'.eval (.tmp 27)=ev:=hdep ⟨1,.data⟩ (by simp) rfl _ 27 rfl rfl
     simp only[Act.eval] at D27
     refine⟨fun h=>absurd h (by decide),fun _=>?_⟩
     unfold zab
     simp[Act.eval,D27,go_sem,zaa]
     exact(HL _ hW).mono fun e w'' h=>⟨_,h.1,h.2,rfl⟩
   intro vs WR hWR hv hne
   have e0:vs 0=_:=hv 0 (by omega)
   have e1:vs 1=_:=hv 1 (by omega)
   have e2:vs 2=_:=hv 2 (by omega)
   simp only[lz7,List.take_zero,lz6,List.drop_zero,zad,if_true,Nat.zero_add,Nat.reduceAdd,e0,e1,e2]
   simp only[Act.put,lz0,lz1,lz2]
   clear e0 e1 e2 hv
   have BZ:=hB.keep hWR
   obtain⟨z0,z1,z2⟩:=BZ.c3
   have zf:=fun j=>BZ.frozen j
   have zl:=BZ.lt
   have hw3:Fr No w WR:=(hw2.trans0 hwz).trans0 hWR
   go_wp2
   refine bodyPost_ret (v:=.tuple #[.agg #[.int .i64 uk,.string un,.int .i64 ui],.int .i64 uc]) (by simp[results,Tryz.results7,go_sem, *]) rfl ?_
   exact .mk1 rfl frc
theorem znf {p:Plan} {s:Str}:∀(n:Nat) (k:Int) {r:Ref},zbI p s n k=(r,1)->zbF p r.keeper s<0∧¬zbD p r.keeper s<0∧r.name=s
 | 0,_,_,h=>absurd (Prod.mk.inj h).2 (by decide)
 | n+1,k,r,h=>by
  rw[zbI] at h
  by_cases ha:zbF p k s<0
  ·rw[if_pos ha] at h
   by_cases ho:zbD p k s<0
   ·rw[if_pos ho] at h
    exact absurd (Prod.mk.inj h).2 (by decide)
   ·rw[if_neg ho] at h
    obtain rfl:=(Prod.mk.inj h).1
    exact⟨ha,ho,rfl⟩
  ·rw[if_neg ha] at h
   exact znf n _ h
theorem zng {p:Plan} {n:Nat} {r:Ref} {rs:List Ref} (h:upGo p n r=some rs):rs≠[]:=by
 cases n with
 | zero=>cases h
 | succ n=>
  rw[upGo] at h
  split at h
  ·cases h;simp
  ·split at h
   ·obtain⟨_,_,rfl⟩:=Option.map_eq_some_iff.1 h
    simp
   ·cases h
theorem znh {p:Plan} {k:Int} {kc i:Nat} {s:Str} {pre:List Ref} (h:zmD p k s=(⟨kc,s⟩,1)) (hh:Here p ⟨kc,s⟩ kc i) (hc:chainOf p ⟨kc,s⟩=some pre):zmD p kc s=(⟨kc,s⟩,1):=by
 have h1:zbf p k s=(⟨kc,s⟩,1):=by
  unfold zmD at h
  by_cases h2:(zbf p k s).2=1
  ·rw[if_pos h2] at h
   split at h
   ·rw[<-(Prod.mk.inj h).1,<-h2]
   ·exact absurd (Prod.mk.inj h).2 (by decide)
  ·rw[if_neg h2] at h
   exact absurd (Prod.mk.inj h).2 h2
 have h3:whose p k s=(⟨kc,s⟩,1):=by
  unfold zbf at h1
  split at h1
  ·exact h1
  ·exact absurd (Prod.mk.inj h1).2 (by decide)
 obtain⟨h4,h5,_⟩:=znf 4 k h3
 refine za3 (pre:=pre) ?_ hc
 rw[za2 hh.2.1]
 show zbI p s 4 kc=_
 rw[zbI,if_pos h4,if_neg h5]
theorem zni {p:Plan} {k:Int} {kc i:Nat} {s:Str} {pre:List Ref} (h:zmD p k s=(⟨kc,s⟩,1)) (hh:Here p ⟨kc,s⟩ kc i) (hc:chainOf p ⟨kc,s⟩=some pre):zmF p ⟨kc,s⟩=pre∧canB p ⟨kc,s⟩=zhn p pre:=by
 have h1:zmF p ⟨kc,s⟩=pre:=by
  unfold zmF
  dsimp only
  rw[znh h hh hc,if_pos ⟨rfl,rfl⟩,hc]
  rfl
 refine⟨h1,?_⟩
 unfold canB
 rw[h1]
 cases pre with
 | nil=>exact absurd rfl (zng hc)
 | cons a b=>rfl
theorem znj (X:Nat->Prop) (p:Plan) (v:Value) (k0:Nat) (s:Str) (w:World) (hp:lodB p=true) (h:Sl X w 2 (KprC X w) v p.keepers) (hk0:k0<p.keepers.length) (hs:s.size≤maxLen):
  Calls Tryz.prog 53 #[.agg #[v],.int .i64 k0,.string s] w (Gives (refV (zdR p k0 s)) w):=by
 obtain⟨A,cap,rfl,_,_⟩:=h.form
 have hkw:=fun W (hW:Fr No w W)=>h.keep (R':=KprC X W) hW zN (fun _ _ _ h=>h.keep hW zN)
 have HF:=fun W (hW:Fr No w W)=>za6 X p _ k0 s W hp (hkw W hW) hk0 hs
 have B0:Bx ((w.alloc (.cells #[.slice A p.keepers.length cap] 25)).alloc (.cells #[.int .i64 0,.string ⟨#[]⟩] 29)) w.heap.size 25 #[.slice A p.keepers.length cap]:=bxc
 have B1:Bx ((w.alloc (.cells #[.slice A p.keepers.length cap] 25)).alloc (.cells #[.int .i64 0,.string ⟨#[]⟩] 29)) (w.heap.size+1) 29 #[.int .i64 0,.string ⟨#[]⟩]:=bxc
 by_cases hc:(zmD p k0 s).2=1
 ·obtain⟨kc,i,pre,hq,hh,hch⟩:=zmH hp hc
  have HL:=fun W (hW:Fr No w W)=>zkt X p _ kc s i W hp (hkw W hW) hh hs
  rw[hch] at HL
  dsimp only[Option.getD_some] at HL
  rw[<-(zni hq hh hch).2] at HL
  have hV:zdR p k0 s=if canB p ⟨kc,s⟩ then (⟨kc,s⟩,1) else (zbH,4):=by
   unfold zdR
   rw[if_pos hc,hq]
  rw[hq] at HF
  unfold refV at HF ⊢
  replace hV:=Lib.hid hV
  generalize zdR p k0 s=V at *
  generalize canB p ⟨kc,s⟩=cb at *
  dsimp only at HF
  clear hc hq hh hch h hkw
  go_enter Tryz.func53,Tryz.ntmps53
  go_wp2_with (go_at_call 85;refine(HF _ frc).mono ?_;rintro e w1 ⟨rfl,hf1⟩;have q1:Fr No w w1:=frc;have C0:=B0.keep hf1;have C1:=B1.keep hf1;have b0:=C0.c1;have l0:=C0.lt;have l1:=C1.lt)
  refine zdP (fun W=>Bx W (w.heap.size+1) 29 #[.int .i64 0,.string ⟨#[]⟩]∧Bx W w1.heap.size 29 #[.int .i64 kc,.string s]∧Fr No w W) ⟨bxc,bxc,frc⟩ ?_
  rintro Wz ⟨hB,hR,hwz⟩
  refine(HL Wz hwz).mono ?_
  rintro e w2 ⟨rfl,hf2⟩
  obtain⟨z0,z1⟩:=(hB.keep hf2).c2
  have zf:=fun j=>(hB.keep hf2).frozen j
  have zl:=(hB.keep hf2).lt
  obtain⟨y0,y1⟩:=(hR.keep hf2).c2
  have yl:=(hR.keep hf2).lt
  have q2:Fr No w w2:=hwz.trans0 hf2
  clear hf1 q1 B0 B1 HF HL hB hR hwz C0 C1 b0 l0 l1 hf2
  cases cb
  ·go_wp2
   refine bodyPost_ret (v:=.tuple #[.agg #[.int .i64 0,.string ⟨#[]⟩],.int .i64 4]) (by simp[results,Tryz.results53,go_sem, *]) rfl ?_
   exact .mk1 (by rw[hV.out];rfl) frc
  ·go_wp2
   refine bodyPost_ret (v:=.tuple #[.agg #[.int .i64 kc,.string s],.int .i64 1]) (by simp[results,Tryz.results53,go_sem, *]) rfl ?_
   exact .mk1 (by rw[hV.out];rfl) frc
 ·have HS:zdR p k0 s=(zbH,2):=by
   unfold zdR
   rw[if_neg hc]
  rw[HS]
  unfold refV at HF ⊢
  have hc':((zmD p k0 s).2 != 1)=true:=by simpa using hc
  generalize zmD p k0 s=q at *
  obtain⟨⟨kc,nm⟩,c⟩:=q
  dsimp only at *
  clear hc HS h hkw
  go_enter Tryz.func53,Tryz.ntmps53
  go_wp2_with (go_at_call 85;refine(HF _ frc).mono ?_;rintro e w1 ⟨rfl,hf1⟩;have q1:Fr No w w1:=frc;have C1:=B1.keep hf1;have ⟨z0,z1⟩:=C1.c2;have zf:=(fun j=>C1.frozen j);have zl:=C1.lt)
  refine bodyPost_ret (v:=.tuple #[.agg #[.int .i64 0,.string ⟨#[]⟩],.int .i64 2]) (by simp[results,Tryz.results53,go_sem, *]) rfl ?_
  exact .mk1 rfl frc
theorem znk (X:Nat->Prop) (p:Plan) (v:Value) {k i a:Nat} {s:Str} (w:World) (h:Sl X w 2 (KprC X w) v p.keepers) (hh:Here p ⟨k,s⟩ k i) (hs:s.size≤maxLen) (ha:a<(zbG p ⟨k,s⟩).methods.length):
  ∃cs:List Value,MthC X w cs (zbG p ⟨k,s⟩).methods[a]∧∀W,Fr No w W->Calls Tryz.prog 57 #[.agg #[v],.agg #[.int .i64 k,.string s,.int .i64 a]] W (Gives (.agg cs.toArray) W):=by
 obtain⟨A,cap,rfl,_,_⟩:=h.form
 obtain⟨Af,cf,Am,cm,hR,HC⟩:=zaU X p _ k s i w h hh hs
 clear h
 generalize zbG p ⟨k,s⟩=c at *
 obtain⟨vf,vm,he,_,_,_,hm⟩:=hR
 simp only[List.cons.injEq,true_and,and_true] at he
 obtain⟨rfl,rfl⟩:=he
 have hml:=hm.at_.2.2.1
 unfold maxLen at hml
 obtain⟨bm,om,Aa,ca,Ac,cc,Ax,cx,rfl,_,d0,d1,d2,d3,d4,d5,d6,d7,hr1,hr2,hr3,hr4,hr5,_,_,_,_,_,_⟩:=hm.mth ha
 refine⟨[.string c.methods[a].name,.slice Aa c.methods[a].args.length ca,.int .i64 c.methods[a].ret.kind,.string c.methods[a].ret.name,.int .i64 c.methods[a].locals,.int .i64 c.methods[a].stack,.slice Ac c.methods[a].code.length cc,.slice Ax c.methods[a].maps.length cx],⟨_,_,_,rfl,hr1,hr2,hr3,hr4,hr5⟩,fun w0 hW=>?_⟩
 clear hm hr1 hr2 hr3 hr4 hr5
 generalize c.methods[a]=m at *
 replace d0:=hW.keep0 d0
 replace d1:=hW.keep0 d1
 replace d2:=hW.keep0 d2
 replace d3:=hW.keep0 d3
 replace d4:=hW.keep0 d4
 replace d5:=hW.keep0 d5
 replace d6:=hW.keep0 d6
 replace d7:=hW.keep0 d7
 replace HC:=fun W' (h:Fr No w0 W')=>HC W' (hW.trans0 h)
 have hk0:(0:Int)≤(a:Int):=by omega
 have hka:(a:Int)<(c.methods.length:Int):=by omega
 clear hW hh
 obtain⟨wA,hwA⟩:∃wA,wA=(((w0.alloc (.cells #[.slice A p.keepers.length cap] 25)).alloc (.cells #[.int .i64 k,.string s,.int .i64 a] 31)).alloc (.cells #[.string ⟨#[]⟩,.slice none 0 0,.int .i64 0,.string ⟨#[]⟩,.int .i64 0,.int .i64 0,.slice none 0 0,.slice none 0 0] 49)):=⟨_,rfl⟩
 have hfA:Fr No w0 wA:=hwA▸frc
 have BP:Bx wA w0.heap.size 25 #[.slice A p.keepers.length cap]:=hwA▸bxc
 have B0:Bx wA (w0.heap.size+1) 31 #[.int .i64 k,.string s,.int .i64 a]:=hwA▸bxc
 have B1:Bx wA (w0.heap.size+1+1) 49 #[.string ⟨#[]⟩,.slice none 0 0,.int .i64 0,.string ⟨#[]⟩,.int .i64 0,.int .i64 0,.slice none 0 0,.slice none 0 0]:=hwA▸bxc
 replace d0:=cr (hfA.keep0 d0)
 replace d1:=cr (hfA.keep0 d1)
 replace d2:=cr (hfA.keep0 d2)
 replace d3:=cr (hfA.keep0 d3)
 replace d4:=cr (hfA.keep0 d4)
 replace d5:=cr (hfA.keep0 d5)
 replace d6:=cr (hfA.keep0 d6)
 replace d7:=cr (hfA.keep0 d7)
 have K0:=B0.r3
 have KP:=BP.r1
 go_enter Tryz.func57,Tryz.ntmps57
 go_wp2_with fail
 rw[<-hwA]
 clear hwA
 refine zn0 9 14 [mV (.agg #[.slice A p.keepers.length cap]),mV (.pointer (some ⟨w0.heap.size+1,0,none⟩)),mV (.agg #[.int .i64 k,.string s]),mV (.agg #[.string c.name,.string c.super,.slice Af c.fields.length cf,.slice (some ⟨bm,om,none⟩) c.methods.length cm]),mV (.slice (some ⟨bm,om,none⟩) c.methods.length cm),mV (.pointer (some ⟨w0.heap.size+1,2,none⟩)),mV (.int .i64 a),mV (.pointer (some ⟨bm,om+a * 8,none⟩)),mV (.agg #[.string m.name,.slice Aa m.args.length ca,.int .i64 m.ret.kind,.string m.ret.name,.int .i64 m.locals,.int .i64 m.stack,.slice Ac m.code.length cc,.slice Ax m.maps.length cx])] (by kernel_rfl) (by kernel_rfl) (by simp) ?_ ?_
 ·refine hc4 ?_ ?_ ?_ ?_ <| hc4 ?_ ?_ ?_ ?_ <| hopC ?_ <| hopZ
  all_goals (intro a' W hW hoff hdep;have hbs:=hW.size;have H2:=hoff 2 rfl;have H3:=hoff 3 rfl;refine nE rfl ?_)
  ·exact gx0
  ·simp[execOp,Act.eval,H3,go_sem,zaa];exact fr1 rfl
  ·have D6:_=_:=hdep 1 6 rfl;clear hoff hdep;simp[execOp,Act.eval,go_sem,zaa, *];exact fr1 rfl
  ·have D5:_=_:=hdep 0 5 rfl;have D7:_=_:=hdep 2 7 rfl;simp[Act.eval,D5,D7,go_sem,zaa];exact(HC _ (hfA.trans0 hW)).mono fun e w'' h=>⟨_,h.1,h.2,rfl⟩
  ·have D8:_=_:=hdep 3 8 rfl;simp[execOp,Act.eval,D8,go_sem,zaa];exact fr1 rfl
  ·simp[execOp,Act.eval,H3,go_sem,zaa];exact fr1 rfl
  ·have D10:_=_:=hdep 5 10 rfl;clear hoff hdep;simp[execOp,Act.eval,go_sem,zaa, *];exact fr1 rfl
  ·have D9:_=_:=hdep 4 9 rfl;have D11:_=_:=hdep 6 11 rfl;clear hoff hdep;simp[execOp,Act.eval,go_sem,zaa, *];exact fr1 rfl
  ·have D12:_=_:=hdep 7 12 rfl;clear hoff hdep;simp[execOp,Act.eval,go_sem,zaa, *];exact fr1 rfl
 intro vs WR hWR hv hne
 simp only[lz6,List.drop_zero,znK,znR,Nat.zero_add,Nat.reduceAdd]
 simp only[Act.put,lz0,lz1,lz2]
 clear hv
 have q1:Fr No w0 WR:=hfA.trans0 hWR
 have B1':=B1.keep hWR
 obtain⟨z0,z1,z2,z3,z4,z5,z6,z7⟩:=B1'.c8
 have zf:=fun j=>B1'.frozen j
 have zl:=B1'.lt
 go_wp2
 refine bodyPost_ret (v:=.agg #[.string m.name,.slice Aa m.args.length ca,.int .i64 m.ret.kind,.string m.ret.name,.int .i64 m.locals,.int .i64 m.stack,.slice Ac m.code.length cc,.slice Ax m.maps.length cx]) (by simp[results,Tryz.results57,go_sem, *]) rfl ?_
 exact .mk1 rfl frc
theorem s_call (X:Nat->Prop) (p:Plan) (v:Value) (k0:Nat) (s m:Str) (w:World) (hp:lodB p=true) (h:Sl X w 2 (KprC X w) v p.keepers) (hk0:k0<p.keepers.length) (hs:s.size≤maxLen) (hm:m.size≤maxLen):
  Calls Tryz.prog 31 #[.agg #[v],.int .i64 k0,.string s,.string m] w (Gives (zd5 (zd3 p k0 m (zdR p k0 s))) w):=by
 obtain⟨A,cap,rfl,_,_⟩:=h.form
 have hkw:=fun W (hW:Fr No w W)=>h.keep (R':=KprC X W) hW zN (fun _ _ _ h=>h.keep hW zN)
 have HK:=fun W (hW:Fr No w W)=>znj X p _ k0 s W hp (hkw W hW) hk0 hs
 have B0:Bx ((w.alloc (.cells #[.slice A p.keepers.length cap] 25)).alloc (.cells #[.int .i64 0,.string ⟨#[]⟩,.int .i64 0] 31)) w.heap.size 25 #[.slice A p.keepers.length cap]:=bxc
 have B1:Bx ((w.alloc (.cells #[.slice A p.keepers.length cap] 25)).alloc (.cells #[.int .i64 0,.string ⟨#[]⟩,.int .i64 0] 31)) (w.heap.size+1) 31 #[.int .i64 0,.string ⟨#[]⟩,.int .i64 0]:=bxc
 obtain⟨q,hq⟩:∃q,q=zdR p k0 s:=⟨_,rfl⟩
 rw[<-hq] at HK ⊢
 have hV:∃V,V=zd3 p k0 m q:=⟨_,rfl⟩
 obtain⟨V,hV⟩:=hV
 rw[<-hV]
 obtain⟨⟨rk,rn⟩,c⟩:=q
 unfold refV at HK
 dsimp only at HK
 unfold zd3 at hV
 dsimp only at hV
 by_cases hc:c=1
 ·subst hc
  rw[if_pos rfl] at hV
  obtain⟨kc,i,hr,hh,hcb,hfk⟩:=zd0 hp hq.symm
  obtain⟨kc2,_,pre,hq2,_,hch⟩:=zmH hp (show(zmD p k0 s).2=1 by rw[hfk])
  have hkk:kc=kc2:=Int.ofNat.inj (Ref.mk.inj (Prod.mk.inj (hfk.symm.trans hq2)).1).1
  subst hkk
  obtain⟨rfl,rfl⟩:=Ref.mk.inj hr
  have HC:=fun W (hW:Fr No w W)=>za0 X p _ _ rn i W hp (hkw W hW) hh hs
  rw[hch] at HC
  have hpk:zhp p ⟨(kc:Int),rn⟩ m=zho p m pre:=by
   unfold zhp
   rw[hcb,if_pos rfl,(zni hfk hh hch).1]
  have HW:=fun W u (hW:Fr No w W) (hu:Sl No W 2 RefC u pre)=>zkv X No p _ u pre m W (hkw W hW) hu (zhf hp hh hch) hm
  rw[<-hpk] at HW
  clear hq hr hh hcb hfk hq2 hch hpk
  cases ho:zhp p ⟨(kc:Int),rn⟩ m with
  | none=>
   rw[ho] at HW hV
   dsimp only at hV
   subst hV
   unfold zku at HW
   clear ho h hkw
   unfold zd5
   go_enter Tryz.func31,Tryz.ntmps31
   go_wp2_with (go_at_call 53;refine(HK _ frc).mono ?_;rintro e w1 ⟨rfl,hf1⟩;have q1:Fr No w w1:=frc;have C0:=B0.keep hf1;have C1:=B1.keep hf1;have b0:=C0.c1;have l0:=C0.lt;have l1:=C1.lt)
   refine zdP (fun W=>Bx W w.heap.size 25 #[.slice A p.keepers.length cap]∧Bx W (w.heap.size+1) 31 #[.int .i64 0,.string ⟨#[]⟩,.int .i64 0]∧Bx W w1.heap.size 29 #[.int .i64 kc,.string rn]∧Fr No w W) ⟨bxc,bxc,bxc,frc⟩ ?_
   rintro Wz ⟨hA,hB,hR,hwz⟩
   clear hf1 q1 B0 B1 C0 C1 b0 l0 l1 HK
   refine(HC Wz hwz).mono ?_
   rintro e w2 ⟨v2,rfl,hsl,hf2⟩
   obtain⟨A2,c2,rfl,_,_⟩:=hsl.form
   have q2:Fr No w w2:=hwz.trans0 hf2
   replace hA:=hA.keep hf2
   replace hB:=hB.keep hf2
   obtain b0:=hA.c1
   have l0:=hA.lt
   clear hf2 hwz
   go_wp2_with fail
   refine(HW w2 _ q2 hsl).mono ?_
   rintro e w3 ⟨rfl,hf3⟩
   replace hB:=hB.keep hf3
   obtain⟨z0,z1,z2⟩:=hB.c3
   have zf:=fun j=>hB.frozen j
   have zl:=hB.lt
   clear b0 l0 hA hR
   go_wp2
   refine bodyPost_ret (v:=.tuple #[.agg #[.int .i64 0,.string ⟨#[]⟩,.int .i64 0],.int .i64 3]) (by simp[results,Tryz.results31,go_sem, *]) rfl ?_
   exact .mk1 rfl frc
  | some qa=>
   obtain⟨⟨qk,qn⟩,a'⟩:=qa
   obtain⟨hqs,kq,ix,a,hh,rfl,ha⟩:=zdZ hp ho
   obtain rfl:qk=(kq:Int):=hh.1
   have hkq:=hh.2.1
   dsimp only at hqs
   rw[ho] at HW hV
   unfold zku at HW
   dsimp only at HW hV
   have hmt:(zbG p ⟨(kq:Int),qn⟩).methods.getD ((a:Int)).toNat zd2=(zbG p ⟨(kq:Int),qn⟩).methods[a]:=by simp[List.getD,lz8 ha]
   rw[hmt] at hV
   clear ho hmt
   obtain⟨cs,hM,HMe⟩:=znk X p _ w h hh hqs ha
   have HA:=fun W (hW:Fr No w W)=>zkp X X p _ k0 kq _ cs W hp (hkw W hW) hk0 hkq (hM.keep hW zN)
   clear hh h hkw
   generalize(zbG p ⟨(kq:Int),qn⟩).methods[a]=mt at *
   generalize zgM p k0 kq mt=ag at *
   clear ha hM
   replace hV:=Lib.hid hV
   go_enter Tryz.func31,Tryz.ntmps31
   go_wp2_with (go_at_call 53;refine(HK _ frc).mono ?_;rintro e w1 ⟨rfl,hf1⟩;have q1:Fr No w w1:=frc;have C0:=B0.keep hf1;have C1:=B1.keep hf1;have b0:=C0.c1;have l0:=C0.lt;have l1:=C1.lt)
   refine zdP (fun W=>Bx W w.heap.size 25 #[.slice A p.keepers.length cap]∧Bx W (w.heap.size+1) 31 #[.int .i64 0,.string ⟨#[]⟩,.int .i64 0]∧Bx W w1.heap.size 29 #[.int .i64 kc,.string rn]∧Fr No w W) ⟨bxc,bxc,bxc,frc⟩ ?_
   rintro Wz ⟨hA,hB,hR,hwz⟩
   clear hf1 q1 B0 B1 C0 C1 b0 l0 l1 HK
   refine(HC Wz hwz).mono ?_
   rintro e w2 ⟨v2,rfl,hsl,hf2⟩
   obtain⟨A2,c2,rfl,_,_⟩:=hsl.form
   have q2:Fr No w w2:=hwz.trans0 hf2
   replace hA:=hA.keep hf2
   replace hB:=hB.keep hf2
   obtain b0:=hA.c1
   have l0:=hA.lt
   clear hf2 hwz hR
   go_wp2_with fail
   refine(HW w2 _ q2 hsl).mono ?_
   rintro e w3 ⟨rfl,hf3⟩
   have q3:Fr No w w3:=q2.trans0 hf3
   replace hA:=hA.keep hf3
   replace hB:=hB.keep hf3
   have hlB:=hB.lt
   clear b0 l0 HC HW
   go_wp2_with fail
   refine zaE (fun W=>Bx W w.heap.size 25 #[.slice A p.keepers.length cap]∧Bx W (w.heap.size+1) 31 #[.int .i64 0,.string ⟨#[]⟩,.int .i64 0]∧Bx W w3.heap.size 31 #[.int .i64 kq,.string qn,.int .i64 a]∧Fr No w W) ⟨bxc,bxc,bxc,frc⟩ ?_
   clear hA hB hlB q3 hf3 q2 hsl
   rintro wA ⟨hA,hB,hR,hwz⟩
   have K0:=hR.r3
   have KP:=hA.r1
   refine zn0 9 52 [mV (.agg #[.slice A p.keepers.length cap]),mV (.int .i64 k0),mV (.pointer (some ⟨w3.heap.size,0,none⟩)),mV (.pointer (some ⟨w3.heap.size,0,none⟩)),mV (.int .i64 kq),mV (.agg #[.slice A p.keepers.length cap]),mV (.agg #[.int .i64 kq,.string qn,.int .i64 a]),mV (.agg cs.toArray),mV (.bool ag)] (by kernel_rfl) (by kernel_rfl) (by simp) ?_ ?_
   ·refine hc4 ?_ ?_ ?_ ?_ <| hc4 ?_ ?_ ?_ ?_ <| hopC ?_ <| hopZ
    all_goals (intro a' W hW hoff hdep;have hbs:=hW.size;have H4:=hoff 4 rfl;have H1:=hoff 1 rfl;have H14:=hoff 14 rfl;refine nE rfl ?_)
    ·exact gx0
    ·simp[execOp,Act.eval,H1,go_sem,zaa];exact fr1 rfl
    ·simp[execOp,Act.eval,H14,go_sem,zaa];exact fr1 rfl
    ·have D45:_=_:=hdep 2 45 rfl;simp[execOp,Act.eval,D45,go_sem,zaa];exact fr1 rfl
    ·have D46:_=_:=hdep 3 46 rfl;clear hoff hdep;simp[execOp,Act.eval,go_sem,zaa, *];exact fr1 rfl
    ·exact gx0
    ·exact gx0
    ·have D48:_=_:=hdep 5 48 rfl;have D49:_=_:=hdep 6 49 rfl;simp[Act.eval,D48,D49,go_sem,zaa];exact(HMe _ (hwz.trans0 hW)).mono fun e w'' h=>⟨_,h.1,h.2,rfl⟩
    ·have D43:_=_:=hdep 0 43 rfl;have D44:_=_:=hdep 1 44 rfl;have D47:_=_:=hdep 4 47 rfl;have D50:_=_:=hdep 7 50 rfl;simp[Act.eval,D43,D44,D47,D50,go_sem,zaa];exact(HA _ (hwz.trans0 hW)).mono fun e w'' h=>⟨_,h.1,h.2,rfl⟩
   intro vs WR hWR hv hne
   simp only[lz6,List.drop_zero,znK,znR,Nat.zero_add,Nat.reduceAdd]
   simp only[Act.put,lz0,lz1,lz2]
   clear hv
   have BZ:=hB.keep hWR
   have BR:=hR.keep hWR
   obtain⟨z0,z1,z2⟩:=BZ.c3
   have zf:=fun j=>BZ.frozen j
   have zl:=BZ.lt
   obtain⟨y0,y1,y2⟩:=BR.c3
   have yl:=BR.lt
   have q4:Fr No w WR:=hwz.trans0 hWR
   clear hA hB hR hwz K0 KP HA HMe
   cases ag
   ·go_wp2
    refine bodyPost_ret (v:=.tuple #[.agg #[.int .i64 0,.string ⟨#[]⟩,.int .i64 0],.int .i64 4]) (by simp[results,Tryz.results31,go_sem, *]) rfl ?_
    exact .mk1 (by rw[hV.out];rfl) frc
   ·go_wp2
    refine bodyPost_ret (v:=.tuple #[.agg #[.int .i64 kq,.string qn,.int .i64 a],.int .i64 1]) (by simp[results,Tryz.results31,go_sem, *]) rfl ?_
    exact .mk1 (by rw[hV.out];rfl) frc
 ·rw[if_neg hc] at hV
  subst hV
  have hc':(c != 1)=true:=by simpa using hc
  unfold zd5
  clear hq hc h hkw
  go_enter Tryz.func31,Tryz.ntmps31
  go_wp2_with (go_at_call 53;refine(HK _ frc).mono ?_;rintro e w1 ⟨rfl,hf1⟩;have q1:Fr No w w1:=frc;have C1:=B1.keep hf1;have ⟨z0,z1,z2⟩:=C1.c3;have zf:=(fun j=>C1.frozen j);have zl:=C1.lt)
  refine bodyPost_ret (v:=.tuple #[.agg #[.int .i64 0,.string ⟨#[]⟩,.int .i64 0],.int .i64 c]) (by simp[results,Tryz.results31,go_sem, *]) rfl ?_
  exact .mk1 rfl frc
end Go.Proofs.YtbfmeklfpackjaaGreatDoor
