/- The reference's LnkCall. -/
import Derived.Test.YtbfmeklfpackjaaGreatDoorQHPqa4
import Derived.Test.YtbfmeklfpackjaaGreatDoorQG44
set_option maxHeartbeats 4000000
set_option maxRecDepth 100000
namespace Go.Proofs.YtbfmeklfpackjaaGreatDoor
open Go.RowKit
theorem zu6 (X:Nat->Prop) (p:Plan) (v:Value) (k:Int) (s m:Str) (w:World) (h:Sl X w 2 (KprC X w) v p.keepers) (hs:s.size≤maxLen) (hm:m.size≤maxLen):
  Calls Tryz.prog 8 #[.agg #[v],.int .i64 k,.string s,.string m] w (Gives (zd5 (zu3 p k s m)) w):=by
 obtain⟨A,cap,rfl,_,hlen⟩:=h.form
 unfold maxLen at hlen
 have hkw:=fun W (hW:Fr No w W)=>h.keep (R':=KprC X W) hW zN (fun _ _ _ h=>h.keep hW zN)
 have HK:=fun W (hW:Fr No w W)=>zaP X p _ W (hkw W hW)
 have HN:=fun W=>zlv s W hs
 have HM:=fun W=>zlv m W hm
 have HL:=fun W=>zlz k 0 ((p.keepers.length:Int)-1) W
 have wl:IntKind.i64.wrap ((p.keepers.length:Int)-1)=(p.keepers.length:Int)-1:=IntWalk.i64_in _ (by omega)
 have hhk:(decide (0≤k)&&decide (k≤(p.keepers.length:Int)-1))=hasK p k:=by unfold hasK;rw[Bool.eq_iff_iff];simp;omega
 rw[hhk] at HL
 have B0:Bx ((w.alloc (.cells #[.slice A p.keepers.length cap] 25)).alloc (.cells #[.int .i64 0,.string ⟨#[]⟩,.int .i64 0] 31)) w.heap.size 25 #[.slice A p.keepers.length cap]:=bxc
 have B1:Bx ((w.alloc (.cells #[.slice A p.keepers.length cap] 25)).alloc (.cells #[.int .i64 0,.string ⟨#[]⟩,.int .i64 0] 31)) (w.heap.size+1) 31 #[.int .i64 0,.string ⟨#[]⟩,.int .i64 0]:=bxc
 have hno:zdS p k s m=(zbH,2)->zu3 p k s m=((zbH,0),2):=fun hl=>by
  unfold zu3
  split
  ·unfold zd4
   rw[hl]
   rfl
  ·rfl
 cases hp:lodB p
 ·have HV:Hid (zu3 p k s m=((zbH,0),2)):=by
   show zu3 p k s m=_
   unfold zu3
   rw[hp]
   rfl
  rw[hp] at HK
  clear hp hno
  generalize zu3 p k s m=V at *
  unfold zd5
  clear h hkw hhk
  go_enter Tryz.func8,Tryz.ntmps8
  go_wp2_with (first
   | (go_at_call 28;refine(HK _ frc).mono ?_;rintro e w1 ⟨rfl,hf1⟩;have C0:=B0.keep hf1;have C1:=B1.keep hf1;have b0:=C0.c1;have l0:=C0.lt;have ⟨z0,z1,z2⟩:=C1.c3;have zf:=(fun j=>C1.frozen j);have zl:=C1.lt)
   | (go_at_call 29;refine(HL _).mono ?_;rintro e w2 ⟨rfl,rfl⟩)
   | (go_at_call_of 30 (Value.string s);refine(HN _).mono ?_;rintro e w2 ⟨rfl,rfl⟩)
   | (go_at_call_of 30 (Value.string m);refine(HM _).mono ?_;rintro e w2 ⟨rfl,rfl⟩))
  refine bodyPost_ret (v:=.tuple #[.agg #[.int .i64 0,.string ⟨#[]⟩,.int .i64 0],.int .i64 2]) (by simp[results,Tryz.results8,go_sem, *]) rfl ?_
  exact .mk1 (by rw[HV.out];rfl) frc
 rw[hp] at HK
 cases hk:hasK p k
 ·have HV:Hid (zu3 p k s m=((zbH,0),2)):=by
   refine hno ?_
   unfold zdS
   rw[zdT (zg9 hk)]
   cases namB m<;>rfl
  rw[hk] at HL
  clear hp hk hno
  generalize zu3 p k s m=V at *
  unfold zd5
  clear h hkw hhk
  go_enter Tryz.func8,Tryz.ntmps8
  go_wp2_with (first
   | (go_at_call 28;refine(HK _ frc).mono ?_;rintro e w1 ⟨rfl,hf1⟩;have C0:=B0.keep hf1;have C1:=B1.keep hf1;have b0:=C0.c1;have l0:=C0.lt;have ⟨z0,z1,z2⟩:=C1.c3;have zf:=(fun j=>C1.frozen j);have zl:=C1.lt)
   | (go_at_call 29;refine(HL _).mono ?_;rintro e w2 ⟨rfl,rfl⟩)
   | (go_at_call_of 30 (Value.string s);refine(HN _).mono ?_;rintro e w2 ⟨rfl,rfl⟩)
   | (go_at_call_of 30 (Value.string m);refine(HM _).mono ?_;rintro e w2 ⟨rfl,rfl⟩))
  refine bodyPost_ret (v:=.tuple #[.agg #[.int .i64 0,.string ⟨#[]⟩,.int .i64 0],.int .i64 2]) (by simp[results,Tryz.results8,go_sem, *]) rfl ?_
  exact .mk1 (by rw[HV.out];rfl) frc
 rw[hk] at HL
 cases hns:namB s
 ·have HV:Hid (zu3 p k s m=((zbH,0),2)):=by
   refine hno ?_
   unfold zdS
   rw[zdT (zg8 hp hns)]
   cases namB m<;>rfl
  rw[hns] at HN
  clear hp hk hns hno
  generalize zu3 p k s m=V at *
  unfold zd5
  clear h hkw hhk
  go_enter Tryz.func8,Tryz.ntmps8
  go_wp2_with (first
   | (go_at_call 28;refine(HK _ frc).mono ?_;rintro e w1 ⟨rfl,hf1⟩;have C0:=B0.keep hf1;have C1:=B1.keep hf1;have b0:=C0.c1;have l0:=C0.lt;have ⟨z0,z1,z2⟩:=C1.c3;have zf:=(fun j=>C1.frozen j);have zl:=C1.lt)
   | (go_at_call 29;refine(HL _).mono ?_;rintro e w2 ⟨rfl,rfl⟩)
   | (go_at_call_of 30 (Value.string s);refine(HN _).mono ?_;rintro e w2 ⟨rfl,rfl⟩)
   | (go_at_call_of 30 (Value.string m);refine(HM _).mono ?_;rintro e w2 ⟨rfl,rfl⟩))
  refine bodyPost_ret (v:=.tuple #[.agg #[.int .i64 0,.string ⟨#[]⟩,.int .i64 0],.int .i64 2]) (by simp[results,Tryz.results8,go_sem, *]) rfl ?_
  exact .mk1 (by rw[HV.out];rfl) frc
 rw[hns] at HN
 cases hnm:namB m
 ·have HV:Hid (zu3 p k s m=((zbH,0),2)):=by
   refine hno ?_
   unfold zdS
   rw[hnm]
   rfl
  rw[hnm] at HM
  clear hp hk hns hnm hno
  generalize zu3 p k s m=V at *
  unfold zd5
  clear h hkw hhk
  go_enter Tryz.func8,Tryz.ntmps8
  go_wp2_with (first
   | (go_at_call 28;refine(HK _ frc).mono ?_;rintro e w1 ⟨rfl,hf1⟩;have C0:=B0.keep hf1;have C1:=B1.keep hf1;have b0:=C0.c1;have l0:=C0.lt;have ⟨z0,z1,z2⟩:=C1.c3;have zf:=(fun j=>C1.frozen j);have zl:=C1.lt)
   | (go_at_call 29;refine(HL _).mono ?_;rintro e w2 ⟨rfl,rfl⟩)
   | (go_at_call_of 30 (Value.string s);refine(HN _).mono ?_;rintro e w2 ⟨rfl,rfl⟩)
   | (go_at_call_of 30 (Value.string m);refine(HM _).mono ?_;rintro e w2 ⟨rfl,rfl⟩))
  refine bodyPost_ret (v:=.tuple #[.agg #[.int .i64 0,.string ⟨#[]⟩,.int .i64 0],.int .i64 2]) (by simp[results,Tryz.results8,go_sem, *]) rfl ?_
  exact .mk1 (by rw[HV.out];rfl) frc
 rw[hnm] at HM
 ·have hV:zu3 p k s m=zd3 p k m (zdR p k s):=by
   unfold zu3 zd4 zdS
   rw[hp,if_pos rfl,hnm,if_pos rfl]
  unfold hasK at hk
  rw[lz5,decide_eq_true_eq,decide_eq_true_eq] at hk
  obtain⟨k,rfl⟩:=Int.eq_ofNat_of_zero_le hk.1
  have HF:=fun W (hW:Fr No w W)=>s_call X p _ k s m W hp (hkw W hW) (by omega) hs hm
  rw[<-hV] at HF
  clear hV h hkw hhk hp hk hns hnm hno
  generalize zu3 p k s m=V at *
  obtain⟨⟨⟨uk,un⟩,ui⟩,uc⟩:=V
  unfold zd5 at HF ⊢
  dsimp only at HF ⊢
  go_enter Tryz.func8,Tryz.ntmps8
  go_wp2_with (first
   | (go_at_call 28;refine(HK _ frc).mono ?_;rintro e w1 ⟨rfl,hf1⟩;have C0:=B0.keep hf1;have C1:=B1.keep hf1;have b0:=C0.c1;have l0:=C0.lt;have l1:=C1.lt)
   | (go_at_call 29;refine(HL _).mono ?_;rintro e w2 ⟨rfl,rfl⟩)
   | (go_at_call_of 30 (Value.string s);refine(HN _).mono ?_;rintro e w2 ⟨rfl,rfl⟩)
   | (go_at_call_of 30 (Value.string m);refine(HM _).mono ?_;rintro e w2 ⟨rfl,rfl⟩)
   | (go_at_call 31;refine(HF _ frc).mono ?_;rintro e w2 ⟨rfl,hf2⟩;have D1:=C1.keep hf2;have ⟨z0,z1,z2⟩:=D1.c3;have zf:=(fun j=>D1.frozen j);have zl:=D1.lt))
  refine bodyPost_ret (v:=.tuple #[.agg #[.int .i64 uk,.string un,.int .i64 ui],.int .i64 uc]) (by simp[results,Tryz.results8,go_sem, *]) rfl ?_
  exact .mk1 rfl frc
theorem zu7 (p:Plan) (v:Value) (r:Ref) (s:Str) (w:World) (h:Sl No w 2 (KprC No w) v p.keepers) (hr:r.name.size≤maxLen) (hs:s.size≤maxLen) (wk:(Lit.int .i64 r.keeper).wf=true):
  Calls Tryz.prog 10 #[.agg #[v],.agg #[.int .i64 r.keeper,.string r.name],.string s] w (Gives (zku (ztH p r s)) w):=by
 obtain⟨rk,rn⟩:=r
 dsimp only at hr wk ⊢
 obtain⟨A,cap,rfl,_,_⟩:=h.form
 obtain⟨wA,hwA⟩:∃wA,wA=(((w.alloc (.cells #[.slice A p.keepers.length cap] 25)).alloc (.cells #[.int .i64 rk,.string rn] 29)).alloc (.cells #[.int .i64 0,.string ⟨#[]⟩,.int .i64 0] 31)):=⟨_,rfl⟩
 have hfA:Fr No w wA:=hwA▸frc
 have B0:Bx wA w.heap.size 25 #[.slice A p.keepers.length cap]:=hwA▸bxc
 have B1:Bx wA (w.heap.size+1) 29 #[.int .i64 rk,.string rn]:=hwA▸bxc
 have B2:Bx wA (w.heap.size+1+1) 31 #[.int .i64 0,.string ⟨#[]⟩,.int .i64 0]:=hwA▸bxc
 have HN:=zgH p _ wA (h.keep hfA zN (fun _ _ _ h=>h.keep hfA zN))
 have hpick:ztH p ⟨rk,rn⟩ s=if lodB p then zhp p ⟨rk,rn⟩ s else none:=rfl
 unfold zgG at HN
 generalize ztH p ⟨rk,rn⟩ s=o at *
 clear h
 cases hp:lodB p
 ·rw[hp] at HN hpick
  simp only[Bool.false_eq_true,if_false] at hpick
  subst hpick
  obtain⟨z0,z1⟩:=B1.c2
  have q0:=B0.c1
  have l0:=B0.lt
  go_enter Tryz.func10,Tryz.ntmps10
  go_wp2_with fail
  rw[<-hwA]
  replace hwA:=Lib.hid hwA
  refine HN.mono ?_
  rintro e w1 ⟨hf1,⟨_,rfl⟩ | ⟨hno,_⟩⟩
  ·obtain⟨y0,y1,y2⟩:=(B2.keep hf1).c3
   have yf:=fun j=>(B2.keep hf1).frozen j
   have yl:=(B2.keep hf1).lt
   clear z0 z1 q0 l0 HN
   go_wp2
   refine bodyPost_ret (v:=.tuple #[.agg #[.int .i64 0,.string ⟨#[]⟩,.int .i64 0],.bool false]) (by simp[results,Tryz.results10,go_sem, *]) rfl ?_
   exact .mk1 rfl frc
  ·cases hno
 ·rw[hp] at HN hpick
  simp only[if_true] at hpick
  have HP:=fun l bl W (hL:Lg W l bl 0 p)=>zjs l bl 0 p ⟨rk,rn⟩ s W hL hr hs wk (by omega)
  rw[<-hpick] at HP
  clear hpick
  unfold zjr at HP
  obtain⟨u,hu⟩:∃u:Value×Bool,zku o=.tuple #[u.1,.bool u.2]∧∃k nm i,u.1=.agg #[.int .i64 k,.string nm,.int .i64 i]:=by
   cases o with
   | none=>exact⟨⟨_,false⟩,rfl,_,_,_,rfl⟩
   | some q=>exact⟨⟨_,true⟩,rfl,_,_,_,rfl⟩
  obtain⟨hu,uk,un,ui,hu1⟩:=hu
  obtain⟨u1,u2⟩:=u
  dsimp only at hu hu1
  subst hu1
  rw[hu] at HP
  replace hu:=Lib.hid hu
  obtain⟨z0,z1⟩:=B1.c2
  have q0:=B0.c1
  have l0:=B0.lt
  have l1:=B1.lt
  go_enter Tryz.func10,Tryz.ntmps10
  go_wp2_with fail
  rw[<-hwA]
  replace hwA:=Lib.hid hwA
  refine HN.mono ?_
  rintro e w1 ⟨hf1,⟨hno,_⟩ | ⟨_,l,bl,rfl,hll,hbl,hLo⟩⟩
  ·cases hno
  ·have hLg:Lg w1 l bl 0 p:=⟨_,hLo,fun _ _ _ h=>by cases h⟩
   obtain⟨y0,y1⟩:=(B1.keep hf1).c2
   have yl:=(B1.keep hf1).lt
   have hb2:=B2.keep hf1
   have hsz:=hfA.size
   clear z0 z1 q0 l0 HN hLo
   go_wp2_with fail
   refine(HP l bl w1 hLg).mono ?_
   rintro e w2 ⟨rfl,hf2,hL2⟩
   have hne:bl≠w.heap.size+1+1:=by have:=B2.lt;omega
   obtain⟨x0,x1,x2⟩:=(hb2.keepX hf2 (by omega)).c3
   have xf:=fun j=>(hb2.keepX hf2 (by omega)).frozen j
   have xl:=(hb2.keepX hf2 (by omega)).lt
   have hw2:Fr No w w2:=(hfA.trans0 hf1).trans hf2 (fun b hb h=>absurd h (by omega))
   clear y0 y1 yl hb2 hf1 hf2 HP
   go_wp2
   refine bodyPost_ret (v:=.tuple #[.agg #[.int .i64 uk,.string un,.int .i64 ui],.bool u2]) (by simp[results,Tryz.results10,go_sem, *]) rfl ?_
   exact .mk1 hu.out.symm frc
def zu8 (p:Plan) (k:Int) (s:Str):Ref×Int:=if lodB p then zmD p k s else (zbH,2)
theorem zu9 (p:Plan) (v:Value) (k:Int) (s:Str) (w:World) (h:Sl No w 2 (KprC No w) v p.keepers) (hs:s.size≤maxLen):
  Calls Tryz.prog 9 #[.agg #[v],.int .i64 k,.string s] w (Gives (refV (zu8 p k s)) w):=by
 obtain⟨A,cap,rfl,_,_⟩:=h.form
 obtain⟨wA,hwA⟩:∃wA,wA=((w.alloc (.cells #[.slice A p.keepers.length cap] 25)).alloc (.cells #[.int .i64 0,.string ⟨#[]⟩] 29)):=⟨_,rfl⟩
 have hfA:Fr No w wA:=hwA▸frc
 have B0:Bx wA w.heap.size 25 #[.slice A p.keepers.length cap]:=hwA▸bxc
 have B2:Bx wA (w.heap.size+1) 29 #[.int .i64 0,.string ⟨#[]⟩]:=hwA▸bxc
 have HN:=zgH p _ wA (h.keep hfA zN (fun _ _ _ h=>h.keep hfA zN))
 have hV:zu8 p k s=if lodB p then zmD p k s else (zbH,2):=rfl
 have hsA:=hfA.size
 unfold zgG at HN
 generalize zu8 p k s=V at *
 clear h
 cases hp:lodB p
 ·rw[hp] at HN hV
  simp only[Bool.false_eq_true,if_false] at hV
  subst hV
  have q0:=B0.c1
  have l0:=B0.lt
  go_enter Tryz.func9,Tryz.ntmps9
  go_wp2_with fail
  rw[<-hwA]
  replace hwA:=Lib.hid hwA
  refine HN.mono ?_
  rintro e w1 ⟨hf1,⟨_,rfl⟩ | ⟨hno,_⟩⟩
  ·obtain⟨y0,y1⟩:=(B2.keep hf1).c2
   have yf:=fun j=>(B2.keep hf1).frozen j
   have yl:=(B2.keep hf1).lt
   clear q0 l0 HN
   go_wp2
   refine bodyPost_ret (v:=.tuple #[.agg #[.int .i64 0,.string ⟨#[]⟩],.int .i64 2]) (by simp[results,Tryz.results9,go_sem, *]) rfl ?_
   exact .mk1 rfl frc
  ·cases hno
 ·rw[hp] at HN hV
  simp only[if_true] at hV
  have HP:=fun l bl n g W (hL:zgF W l bl n p g)=>find_ok l bl n p g k s W hL hs
  rw[<-hV] at HP
  clear hV
  obtain⟨⟨uk,un⟩,uc⟩:=V
  unfold refV at HP ⊢
  dsimp only at HP ⊢
  have q0:=B0.c1
  have l0:=B0.lt
  go_enter Tryz.func9,Tryz.ntmps9
  go_wp2_with fail
  rw[<-hwA]
  replace hwA:=Lib.hid hwA
  refine HN.mono ?_
  rintro e w1 ⟨hf1,⟨hno,_⟩ | ⟨_,l,bl,rfl,hll,hbl,hLo⟩⟩
  ·cases hno
  ·have hb2:=B2.keep hf1
   have hw1:=hfA.trans0 hf1
   clear q0 l0 HN
   go_wp2_with fail
   refine(HP l bl 0 _ w1 hLo).mono ?_
   rintro e w2 ⟨rfl,hf2⟩
   obtain⟨x0,x1⟩:=(hb2.keep hf2).c2
   have xf:=fun j=>(hb2.keep hf2).frozen j
   have xl:=(hb2.keep hf2).lt
   have hw2:Fr No w w2:=hw1.trans0 hf2
   clear hb2 hf1 hf2 HP hLo hw1
   go_wp2
   refine bodyPost_ret (v:=.tuple #[.agg #[.int .i64 uk,.string un],.int .i64 uc]) (by simp[results,Tryz.results9,go_sem, *]) rfl ?_
   exact .mk1 rfl frc
theorem zva (p:Plan) (v:Value) (a b:Int) (k:Knd) (w:World) (h:Sl No w 2 (KprC No w) v p.keepers) (hs:k.name.size≤maxLen) (hp:lodB p=true) (ha:hasK p a=true) (hb:hasK p b=true) (hk:kndB k=true) (hag:zmJ p a b k=true):
  Calls Tryz.prog 12 #[.agg #[v],.int .i64 a,.int .i64 b,.agg #[.int .i64 k.kind,.string k.name]] w (zgm true w):=by
 obtain⟨A,cap,rfl,_,_⟩:=h.form
 obtain⟨wA,hwA⟩:∃wA,wA=((w.alloc (.cells #[.slice A p.keepers.length cap] 25)).alloc (.cells #[.int .i64 k.kind,.string k.name] 45)):=⟨_,rfl⟩
 have hfA:Fr No w wA:=hwA▸frc
 have B0:Bx wA w.heap.size 25 #[.slice A p.keepers.length cap]:=hwA▸bxc
 have B2:Bx wA (w.heap.size+1) 45 #[.int .i64 k.kind,.string k.name]:=hwA▸bxc
 have HN:=zgH p _ wA (h.keep hfA zN (fun _ _ _ h=>h.keep hfA zN))
 unfold zgG at HN
 rw[hp] at HN
 have HK:=fun W=>zfn k W hs
 rw[hk] at HK
 have HA:=fun l bl n g W (hL:zgF W l bl n p g)=>zmK l bl n p g a b k W hL hs
 rw[hag] at HA
 have HH:∀l bl g W (hL:zgF W l bl 0 p g) x,hasK p x=true->Calls Tryz.prog 34 #[.pointer (some ⟨l,0,none⟩),.int .i64 x] W (zgl true W):=fun l bl g W hL x hx=>by
  obtain⟨_,A,cap,bo,ba,h1,_,_,_,h5,_⟩:=hL
  obtain⟨_,_,_,_,hm⟩:=h5.form
  have:=zgq l p.keepers.length cap A _ _ _ x W h1 hm
  unfold hasK at hx
  rw[hx] at this
  exact this
 have q0:=B0.c1
 have l0:=B0.lt
 clear h
 go_enter Tryz.func12,Tryz.ntmps12
 go_wp2_with fail
 rw[<-hwA]
 replace hwA:=Lib.hid hwA
 refine HN.mono ?_
 rintro e w1 ⟨hf1,⟨hno,_⟩ | ⟨_,l,bl,rfl,hll,hbl,hLo⟩⟩
 ·cases hno
 ·obtain⟨x0,x1⟩:=(B2.keep hf1).c2
  have xl:=(B2.keep hf1).lt
  have hw1:=hfA.trans0 hf1
  have Ha:=HH l bl _ w1 hLo a ha
  have Hb:=HH l bl _ w1 hLo b hb
  have HA:=fun W (hW:Fr No w1 W)=>HA l bl 0 _ W (hLo.keep hW)
  have B21:=B2.keep hf1
  clear q0 l0 HN HH B0 B2 ha hb hp hk hag hLo hll hbl
  go_wp2_with fail
  refine Ha.mono ?_
  rintro e w2 ⟨rfl,rfl⟩
  go_wp2_with fail
  refine Hb.mono ?_
  rintro e w2 ⟨rfl,rfl⟩
  go_wp2_with fail
  refine(HK _).mono ?_
  rintro e w2 ⟨rfl,hf2⟩
  obtain⟨y0,y1⟩:=(B21.keep hf2).c2
  have yl:=(B21.keep hf2).lt
  have hw2:=hw1.trans0 hf2
  have HA:=HA w2 hf2
  clear x0 x1 xl B21 hf2 hw1 HK Ha Hb
  go_wp2_with fail
  refine HA.mono ?_
  rintro e w3 ⟨rfl,hf3⟩
  go_wp2
  go_ret
  exact .mk rfl (hw2.trans0 hf3)
def zvb (c:Cls) (w:World) (e:Ending) (w':World):Prop:=∃(Af Am:Option Addr) (cf cm:Nat),e=.returned (.agg #[.string c.name,.string c.super,.slice Af c.fields.length cf,.slice Am c.methods.length cm])∧ClsC No w' [.string c.name,.string c.super,.slice Af c.fields.length cf,.slice Am c.methods.length cm] c∧Fr No w w'
theorem zvc (p:Plan) (v:Value) (s:Str) (k i:Nat) (w:World) (h:Sl No w 2 (KprC No w) v p.keepers) (hh:Here p ⟨k,s⟩ k i):
  Calls Tryz.prog 11 #[.agg #[v],.agg #[.int .i64 k,.string s]] w (zvb (zbG p ⟨k,s⟩) w):=by
 obtain⟨A,cap,rfl,hc1,hc2⟩:=h.form
 unfold maxLen at hc2
 have hcls:=hh.cls
 obtain⟨_,hk,hi,hix⟩:=hh
 dsimp only at hix
 have hkk:(zbC p (k:Int)).owns=(p.keepers[k]'hk).owns:=by unfold zbC;simp[List.getD,lz8 hk]
 have hci:(p.keepers[k]'hk).owns[i]? =some (zbG p ⟨k,s⟩):=by rw[<-hkk,hcls];exact lz8 hi
 rw[hkk] at hi hix
 obtain⟨wA,hwA⟩:∃wA,wA=(((w.alloc (.cells #[.slice A p.keepers.length cap] 25)).alloc (.cells #[.int .i64 k,.string s] 29)).alloc (.cells #[.string ⟨#[]⟩,.string ⟨#[]⟩,.slice none 0 0,.slice none 0 0] 41)):=⟨_,rfl⟩
 have hfA:Fr No w wA:=hwA▸frc
 have B0:Bx wA w.heap.size 25 #[.slice A p.keepers.length cap]:=hwA▸bxc
 have B1:Bx wA (w.heap.size+1) 29 #[.int .i64 k,.string s]:=hwA▸bxc
 have B2:Bx wA (w.heap.size+1+1) 41 #[.string ⟨#[]⟩,.string ⟨#[]⟩,.slice none 0 0,.slice none 0 0]:=hwA▸bxc
 obtain⟨XX,hXX⟩:∃XX:Nat->Prop,XX=fun b=>No b∨w.heap.size≤b:=⟨_,rfl⟩
 have hX9:∀b,w.heap.size≤b->XX b:=by rw[hXX];exact fun _ h=>.inr h
 have h':Sl XX w 2 (KprC XX w) (.slice A p.keepers.length cap) p.keepers:=by rw[hXX];exact h.oldX (by omega) (fun _ _ _ h=>h.oldX)
 clear hXX
 have hA:=h'.keep (R':=KprC XX wA) hfA zN (fun _ _ _ h=>h.keep hfA zN)
 obtain⟨g,og,Ao,co,Aa,ca,rfl,_,c0,c1,hmo,_,hco,hmx,_⟩:=hA.kpr hk
 clear hcls hkk h h' hA
 generalize zbG p ⟨k,s⟩=cl at *
 generalize(p.keepers[k]'hk).owns=os at *
 obtain⟨n,hn,hnl,hno⟩:=zbU hix
 obtain⟨hbef,hat⟩:(∀j (hj:j<os.length),j<i->zbp s os[j]=false)∧zbp s os[i]=true:=by
  have h9:ixOf (zbp s) os=(i:Int):=by rw[hno]
  unfold ixOf at h9
  by_cases ha:os.all (fun x=>!zbp s x)=true
  ·rw[if_pos ha] at h9;omega
  ·rw[if_neg ha] at h9
   have h8:os.findIdx (zbp s)=i:=by omega
   have h7:=(List.findIdx_eq hi).1 h8
   exact⟨fun j hj hji=>by simpa using h7.2 j hji,h7.1⟩
 have q0:=B0.c1
 have l0:=B0.lt
 have hkl:(k:Int)<(p.keepers.length:Int):=by omega
 have hkn:¬(p.keepers.length:Int)≤(k:Int):=by omega
 obtain⟨y0,y1⟩:=B1.c2
 have yl:=B1.lt
 replace hix:=Lib.hid hix
 replace hno:=Lib.hid hno
 replace hn:=Lib.hid hn
 go_enter Tryz.func11,Tryz.ntmps11
 go_wp2_with fail
 rw[<-hwA]
 replace hwA:=Lib.hid hwA
 clear q0 l0 y0 y1 yl
 go_loopw [5] (fun j wr=>∃m:Nat,m≤i∧j=.int .i64 m∧Hid (Fr No wA wr)) (fun j _=>i-(intOf j).toNat)
 case atStart=>exact⟨0,by omega,rfl,Lib.hid (Fr.refl _ _)⟩
 case round=>
  obtain⟨m,hm,rfl,hfr⟩:=hrel
  have f:=hfr.out
  replace hfr:=Lib.hid hfr
  have K0:=(B0.keep f).r1
  have K1:=(B1.keep f).r2
  have hm9:m<os.length:=by omega
  have hml:(m:Int)<(os.length:Int):=by omega
  have KC:=fun W (hW:Fr No wr W)=>hW.keep0 (f.keep0 c0)
  obtain⟨b,off,Af,cf,Am,cm,rfl,_,n0,n1,n2,n3,z0,z1,hvf,hvm,_⟩:=(hmo.keep (R':=ClsC XX wr) f zN (fun _ _ _ h=>h.keep f zN)).cls hm9
  have KN:=fun W (hW:Fr No wr W)=>(⟨hW.keep0 n0,hW.keep0 n1,hW.keep0 n2,hW.keep0 n3⟩:_∧_∧_∧_)
  have q0:=(B0.keep f).c1
  have l0:=(B0.keep f).lt
  obtain⟨y0,y1⟩:=(B1.keep f).c2
  have yl:=(B1.keep f).lt
  have d0:=f.keep0 c0
  have dl:=lt_of_cell d0
  have nl:=lt_of_cell n0
  by_cases hmi:m=i
  ·subst hmi
   have he:zbp s os[m]=true:=hat
   unfold zbp at he
   have hcc:os[m]=cl:=by rw[lz8 hi] at hci;exact Option.some.inj hci
   clear hmo hat hbef hci c0 c1
   subst hcc
   generalize os[m]=x at *
   go_wp2_with fail
   (refine zgc (X:=No) (by kernel_rfl) (by kernel_rfl) ?_);(repeat(first|(apply zgb;(focus (exact rfl));simp only[Act.put,lz0,lz1,lz2])|(apply zga;(focus (exact rfl));(focus (intro W hW;go_simp;first|done|exact rfl|fail));simp only[Act.put,lz0,lz1,lz2])));refine wpQuiet_nil ?_
   intro w2 hf2
   have f2:=f.trans0 hf2
   obtain⟨z4,z5,z6,z7⟩:=(B2.keep f2).c4
   have zf:=fun j=>(B2.keep f2).frozen j
   have zl:=(B2.keep f2).lt
   have B22:=B2.keep f2
   have q0:=(B0.keep f2).c1
   have l0:=(B0.keep f2).lt
   obtain⟨y0,y1⟩:=(B1.keep f2).c2
   have yl:=(B1.keep f2).lt
   have d0:=hf2.keep0 d0
   have dl:=lt_of_cell d0
   obtain⟨n0,n1,n2,n3⟩:=KN w2 hf2
   have nl:=lt_of_cell n0
   have hw9:=hfA.trans0 f2
   have hP:∀W,Fr (fun b=>b=w.heap.size+1+1) w2 W->zvb x w (.returned (.agg #[.string x.name,.string x.super,.slice Af x.fields.length cf,.slice Am x.methods.length cm])) W:=fun W hW=>by
    have hX:∀b,b=w.heap.size+1+1->XX b:=fun b e=>hX9 b (by omega)
    have hv1:=(hvf.k0 hf2).keep hW hX (fun _ _ _ h=>h)
    have hv2:=(hvm.keep (R':=MthC XX w2) hf2 zN (fun _ _ _ h=>h.keep hf2 zN)).keep (R':=MthC XX W) hW hX (fun _ _ _ h=>h.keep hW hX)
    exact⟨Af,Am,cf,cm,rfl,⟨_,_,rfl,z0,z1,hv1.weaken zN (fun _ _ _ h=>h),hv2.weaken zN (fun _ _ _ h=>h.weaken zN)⟩,hw9.trans hW (fun b hb e=>by omega)⟩
   clear hvf hvm f2 K0 K1 KC KN f hfr
   go_wp2_with fail
   refine bodyPost_ret (v:=.agg #[.string x.name,.string x.super,.slice Af x.fields.length cf,.slice Am x.methods.length cm]) (by simp[results,Tryz.results11,go_sem, *]) rfl ?_
   exact hP _ ((((Fr.put1 _ _ _ _).same (Fr.put1 _ _ _ _)).same (Fr.put1 _ _ _ _)).same (Fr.put1 _ _ _ _))
  ·have he:zbp s os[m]=false:=hbef m hm9 (by omega)
   unfold zbp at he
   clear hmo hat hbef hci c0 c1
   go_wp2_with fail
   (refine zgc (X:=No) (by kernel_rfl) (by kernel_rfl) ?_);(repeat(first|(apply zgb;(focus (exact rfl));simp only[Act.put,lz0,lz1,lz2])|(apply zga;(focus (exact rfl));(focus (intro W hW;go_simp;first|done|exact rfl|fail));simp only[Act.put,lz0,lz1,lz2])));refine wpQuiet_nil ?_
   intro w2 hf2
   have f2:=f.trans0 hf2
   clear K0 K1 KC KN q0 l0 y0 y1 yl d0 dl n0 n1 n2 n3 nl
   have hadd:IntKind.i64.wrap ((m:Int)+1)=((m+1:Nat):Int):=by rw[IntWalk.i64_in _ (by unfold maxLen at hmx;omega)];simp
   go_wp2_with fail
   exact⟨⟨m+1,by omega,by simp,Lib.hid f2⟩,by simp[intOf];omega⟩
theorem zvd {p:Plan} {k:Int} {s m:Str} (h:(zu3 p k s m).2≠1):∃c:Int,zu3 p k s m=((zbH,0),c)∧2≤c∧c≤4:=by
 unfold zu3 at h ⊢
 cases hp:lodB p
 ·exact⟨2,rfl,by omega,by omega⟩
 ·rw[hp] at h
  simp only[if_true] at h ⊢
  unfold zd4 zd3 at h ⊢
  by_cases h1:(zdS p k s m).2=1
  ·rw[if_pos h1] at h ⊢
   cases hq:zhp p (zdS p k s m).1 m with
   | none=>exact⟨3,rfl,by omega,by omega⟩
   | some q=>
    rw[hq] at h
    dsimp only at h ⊢
    by_cases h2:zgM p k q.1.keeper ((zbG p q.1).methods.getD q.2.toNat zd2)=true
    ·rw[if_pos h2] at h;exact absurd rfl h
    ·rw[if_neg h2];exact⟨4,rfl,by omega,by omega⟩
  ·rw[if_neg h1]
   refine⟨_,rfl,?_⟩
   unfold zdS zdR at h1 ⊢
   split at h1<;>split
   all_goals first|contradiction|skip
   all_goals (try split at h1)<;>(try split at h1)<;>(try simp at h1)
   all_goals (repeat' split)<;>simp_all
theorem zve {p:Plan} {s:Str}:∀(rs:List Ref) {q:Ref} {i:Int},zho p s rs=some (q,i)->∀a:Nat,i=a->∀(h:a<(zbG p q).methods.length),((zbG p q).methods[a]'h).name=s
 | [],_,_,h=>by simp[zho] at h
 | r :: rs,q,i,h=>by
  rw[zho] at h
  split at h
  ·exact zve rs h
  ·rename_i h0
   obtain⟨rfl,rfl⟩:r=q∧ixOf (zeU s) (zbG p r).methods=i:=by simpa using h
   intro a ha hl
   unfold ixOf at ha h0
   by_cases hall:(zbG p r).methods.all (fun x=>!zeU s x)=true
   ·rw[if_pos hall] at h0;omega
   ·rw[if_neg hall] at ha
    have h8:(zbG p r).methods.findIdx (zeU s)=a:=by omega
    have h7:=((List.findIdx_eq hl).1 h8).1
    unfold zeU at h7
    exact str_eq (eq_of_beq h7)
theorem zvf {p:Plan} {k:Int} {s m:Str} {q:Ref} {i:Int} (h:zu3 p k s m=((q,i),1)):lodB p=true∧hasK p k=true∧∃(kc ic kq iq a:Nat),zu8 p k s=(⟨kc,s⟩,1)∧Here p ⟨kc,s⟩ kc ic∧q=⟨kq,q.name⟩∧Here p q kq iq∧q.name.size≤maxLen∧i=a∧ztH p ⟨kc,s⟩ m=some (q,i) ∧
  ∃hl:a<(zbG p q).methods.length,((zbG p q).methods[a]'hl).name=m∧zgM p k kq ((zbG p q).methods[a]'hl)=true∧mthB ((zbG p q).methods[a]'hl)=true:=by
 unfold zu3 at h
 cases hp:lodB p
 ·rw[hp] at h
  simp only[Bool.false_eq_true,if_false,Prod.mk.injEq] at h
  omega
 ·rw[hp] at h
  simp only[if_true] at h
  unfold zd4 zd3 at h
  by_cases h1:(zdS p k s m).2=1
  ·rw[if_pos h1] at h
   obtain⟨r,hr⟩:∃r,zdS p k s m=(r,1):=⟨(zdS p k s m).1,by rw[<-h1]⟩
   rw[hr] at h
   dsimp only at h
   cases hq:zhp p r m with
   | none=>rw[hq] at h;simp only[Prod.mk.injEq] at h;omega
   | some q0=>
    obtain⟨q0,i0⟩:=q0
    rw[hq] at h
    dsimp only at h
    split at h
    ·rename_i hag
     obtain⟨⟨rfl,rfl⟩,_⟩:(q0=q∧i0=i)∧True:=by simpa using h
     have hlk:=hr
     unfold zdS at hlk
     split at hlk
     ·obtain⟨kc,ic,rfl,hh,hcan,hf⟩:=zd0 hp hlk
      obtain⟨hz,kq,iq,a,hhq,rfl,ha⟩:=zdZ hp hq
      have hk:hasK p k=true:=by
       cases h9:hasK p k
       ·rw[zg9 h9] at hf
        cases hf
       ·rfl
      have hqk:q0=⟨(kq:Int),q0.name⟩:=by
       obtain⟨qk,qn⟩:=q0
       have:=hhq.1
       dsimp only at this
       rw[this]
      refine⟨rfl,hk,kc,ic,kq,iq,a,?_,hh,hqk,hhq,hz,rfl,?_,ha,?_,?_,?_⟩
      ·unfold zu8;rw[hp];exact hf
      ·unfold ztH;rw[hp];exact hq
      ·unfold zhp at hq
       rw[hcan] at hq
       exact zve _ hq a rfl ha
      ·have h9:=hhq.1
       rw[h9] at hag
       simpa[List.getD,lz8 ha] using hag
      ·exact zg1 (hhq.clsB hp) _ (List.getElem_mem ha)
     ·simp only[Prod.mk.injEq] at hlk;omega
    ·simp only[Prod.mk.injEq] at h;omega
  ·rw[if_neg h1] at h
   simp only[Prod.mk.injEq] at h
   exact absurd h.2 h1
end Go.Proofs.YtbfmeklfpackjaaGreatDoor
