/- The reference's class that is there. -/
import Derived.Test.YtbfmeklfpackjaaGreatDoorQG27
import Derived.Test.YtbfmeklfpackjaaGreatDoorQG31
import Derived.Deep.RegionHeld3
import Derived.OwnWalk
set_option maxHeartbeats 8000000
set_option maxRecDepth 100000
namespace Go.Proofs.YtbfmeklfpackjaaGreatDoor
open Go.RowKit
theorem zaU (X:Nat->Prop) (p:Plan) (v:Value) (k:Nat) (s:Str) (i:Nat) (w:World) (h:Sl X w 2 (KprC X w) v p.keepers) (hh:Here p ⟨k,s⟩ k i) (hs:s.size≤maxLen):
  ∃Af cf Am cm,ClsC X w [.string (zbG p ⟨k,s⟩).name,.string (zbG p ⟨k,s⟩).super,.slice Af (zbG p ⟨k,s⟩).fields.length cf,.slice Am (zbG p ⟨k,s⟩).methods.length cm] (zbG p ⟨k,s⟩) ∧
   ∀W,Fr No w W->Calls Tryz.prog 87 #[.agg #[v],.agg #[.int .i64 k,.string s]] W (Gives (.agg #[.string (zbG p ⟨k,s⟩).name,.string (zbG p ⟨k,s⟩).super,.slice Af (zbG p ⟨k,s⟩).fields.length cf,.slice Am (zbG p ⟨k,s⟩).methods.length cm]) W):=by
 obtain⟨A,cap,rfl,hcap,hlen⟩:=h.form
 have hlen':=hlen
 unfold maxLen at hlen'
 obtain⟨_,hk,hi,hix⟩:=hh
 have hcl:zbG p ⟨k,s⟩=(zbC p k).owns[i]:=Here.cls ⟨rfl,hk,hi,hix⟩
 rw[hcl]
 clear hcl
 obtain⟨b,off,Ao,co,Aa,ca,rfl,hX,c0,c1,hown,hask,hoc,hom,_,_⟩:=h.kpr hk
 have hix':ixOf (zbp s) (zbC p k).owns=(i:Int):=(zbU hix).choose_spec.2.2
 have hy:zbC p (k:Int)=p.keepers[k]:=zbN hk
 rw[<-hy] at c0 c1 hown hask hoc hom
 clear hix hy
 obtain⟨b2,off2,Af,cf,Am,cm,rfl,hX2,d0,d1,d2,d3,hz0,hz1,hcf,hcm,_,_,_,_⟩:=hown.cls hi
 have hR:ClsC X w [.string (zbC p k).owns[i].name,.string (zbC p k).owns[i].super,.slice Af (zbC p k).owns[i].fields.length cf,.slice Am (zbC p k).owns[i].methods.length cm] (zbC p k).owns[i]:=⟨_,_,rfl,hz0,hz1,hcf,hcm⟩
 have HO:=fun W (h:Fr No w W)=>zaL X _ (.slice Aa (zbC p k).asks.length ca) (zbC p k).owns s W (hown.keep h zN (fun _ _ _ h9=>h9.keep h zN)) hs
 rw[hix'] at HO
 clear h hown hask hcf hcm hix'
 unfold maxLen at hom
 generalize(zbC p k)=y at *
 generalize y.owns[i]=c at *
 refine⟨Af,cf,Am,cm,hR,fun W hW=>?_⟩
 clear hR
 replace c0:=hW.keep0 c0
 replace c1:=hW.keep0 c1
 replace d0:=hW.keep0 d0
 replace d1:=hW.keep0 d1
 replace d2:=hW.keep0 d2
 replace d3:=hW.keep0 d3
 replace HO:=fun W' (h:Fr No W W')=>HO W' (hW.trans0 h)
 clear hX hX2 hz0 hz1 hW
 clear w
 generalize hW0:W=W0 at *
 clear hW0
 have hlb:=lt_of_cell c0
 have hlb2:=lt_of_cell d0
 have n1:¬(b=W0.heap.size+1+1):=by omega
 have n2:¬(W0.heap.size+1+1=b):=by omega
 have n3:¬(b2=W0.heap.size+1+1):=by omega
 have n4:¬(W0.heap.size+1+1=b2):=by omega
 have n5:¬(W0.heap.size=W0.heap.size+1+1):=by omega
 have n6:¬(W0.heap.size+1+1=W0.heap.size):=by omega
 clear hlb hlb2
 have hkk:(k:Int).toNat=k:=by omega
 have hii:(i:Int).toNat=i:=by omega
 have hB:=((Bx.new W0 25 #[.slice (some ⟨b,off,none⟩) p.keepers.length cap]).alloc (.cells #[.int .i64 k,.string s] 29)).alloc (.cells #[.string ⟨#[]⟩,.string ⟨#[]⟩,.slice none 0 0,.slice none 0 0] 41)
 have hK:Bx (((W0.alloc (.cells #[.slice (some ⟨b,off,none⟩) p.keepers.length cap] 25)).alloc (.cells #[.int .i64 k,.string s] 29)).alloc (.cells #[.string ⟨#[]⟩,.string ⟨#[]⟩,.slice none 0 0,.slice none 0 0] 41)) (W0.heap.size+1) 29 #[.int .i64 k,.string s]:=(Bx.new_ (by simp)).alloc _
 have hZ:Bx (((W0.alloc (.cells #[.slice (some ⟨b,off,none⟩) p.keepers.length cap] 25)).alloc (.cells #[.int .i64 k,.string s] 29)).alloc (.cells #[.string ⟨#[]⟩,.string ⟨#[]⟩,.slice none 0 0,.slice none 0 0] 41)) (W0.heap.size+1+1) 41 #[.string ⟨#[]⟩,.string ⟨#[]⟩,.slice none 0 0,.slice none 0 0]:=Bx.new_ (by simp)
 have hfA:Fr No W0 (((W0.alloc (.cells #[.slice (some ⟨b,off,none⟩) p.keepers.length cap] 25)).alloc (.cells #[.int .i64 k,.string s] 29)).alloc (.cells #[.string ⟨#[]⟩,.string ⟨#[]⟩,.slice none 0 0,.slice none 0 0] 41)):=(((Fr.refl No W0).alloc _).alloc _).alloc _
 replace c0:=hfA.keep0 c0
 replace c1:=hfA.keep0 c1
 replace d0:=hfA.keep0 d0
 replace d1:=hfA.keep0 d1
 replace d2:=hfA.keep0 d2
 replace d3:=hfA.keep0 d3
 go_enter Tryz.func87,Tryz.ntmps87
 go_wp2_with fail
 generalize(((W0.alloc (.cells #[.slice (some ⟨b,off,none⟩) p.keepers.length cap] 25)).alloc (.cells #[.int .i64 k,.string s] 29)).alloc (.cells #[.string ⟨#[]⟩,.string ⟨#[]⟩,.slice none 0 0,.slice none 0 0] 41))=wA at *
 have b0:=hB.c1
 obtain⟨k0,k1⟩:=hK.c2
 obtain⟨r0,r1,r2,r3⟩:=hZ.c4
 have fr:=fun j=>hZ.frozen j
 have hl1:=hB.lt
 have hl2:=hK.lt
 have hl3:=hZ.lt
 have hb1:=lt_of_cell c0
 have hb2:=lt_of_cell d0
 go_region_held3 (fun W=>W.cell? ⟨b,off+k * 2,none⟩=some (.slice (some ⟨b2,off2,none⟩) y.owns.length co)∧W.cell? ⟨b,off+k * 2+1,none⟩=some (.slice Aa y.asks.length ca)∧W.cell? ⟨W0.heap.size,0,none⟩=some (.slice (some ⟨b,off,none⟩) p.keepers.length cap)∧W.cell? ⟨W0.heap.size+1,0,none⟩=some (.int .i64 k)∧W.cell? ⟨W0.heap.size+1,1,none⟩=some (.string s) ∧
   W.cell? ⟨b2,off2+i * 4,none⟩=some (.string c.name)∧W.cell? ⟨b2,off2+i * 4+1,none⟩=some (.string c.super)∧W.cell? ⟨b2,off2+i * 4+2,none⟩=some (.slice Af c.fields.length cf)∧W.cell? ⟨b2,off2+i * 4+3,none⟩=some (.slice Am c.methods.length cm)) (go_keep)
  (first|(go_at_call 83;refine(HO _ (hfA.trans0 (by exact frc))).mono ?_;rintro e w2 ⟨rfl,hf2⟩;have hf2:Fr No wA w2:=(Fr.refl No wA).drew.trans0 hf2;have c0':=hf2.keep0 c0;have c1':=hf2.keep0 c1;have d0':=hf2.keep0 d0;have d1':=hf2.keep0 d1;have d2':=hf2.keep0 d2;have d3':=hf2.keep0 d3;have b0':=(hB.keep hf2).c1;have hK2:=hK.keep hf2;obtain⟨k0',k1'⟩:=hK2.c2;have hZ2:=hZ.keep hf2;obtain⟨r0',r1',r2',r3'⟩:=hZ2.c4;have fr':=(fun j=>hZ2.frozen j);have hl1':=(hB.keep hf2).lt;have hl2':=hK2.lt;have hl3':=hZ2.lt))
 all_goals go_wp2
 all_goals refine bodyPost_ret (v:=.agg #[.string c.name,.string c.super,.slice Af c.fields.length cf,.slice Am c.methods.length cm]) (by simp[results,Tryz.results87,go_sem, *]) rfl ?_
 all_goals exact .mk0 (by have hz:=hfA.trans0 hf2;exact frc)
def zaV (o:Option (List Ref)) (w:World) (e:Ending) (w':World):Prop:=
 ∃v,e=.returned (.tuple #[v,.bool o.isSome])∧Sl No w' 2 RefC v (o.getD [])∧Fr No w w'
theorem Sl.none_ {α:Type} {X:Nat->Prop} {w:World} {sz:Nat} {R:List Value->α->Prop} (A:Option Addr) (c:Nat):Sl X w sz R (.slice A 0 c) []:=
 ⟨A,c,rfl,Nat.zero_le _,Nat.zero_le _,fun h=>absurd h (by simp)⟩
theorem zaV.no {o:Option (List Ref)} {w w':World} {A:Option Addr} {c:Nat} (h:o=none) (hf:Fr No w w'):zaV o w (.returned (.tuple #[.slice A 0 c,.bool false])) w':=by
 subst h;exact⟨_,rfl,Sl.none_ A c,hf⟩
theorem zaV.yes {o:Option (List Ref)} {w w':World} {v:Value} {xs:List Ref} (h:o=some xs) (hs:Sl No w' 2 RefC v xs) (hf:Fr No w w'):zaV o w (.returned (.tuple #[v,.bool true])) w':=by
 subst h;exact⟨_,rfl,hs,hf⟩
theorem zaW {w w':World} {X:Nat->Prop} {base sz n g cap:Nat} {e:TypeId} {xs:List Value} (h:w.ownsRow base e sz (.slice (some ⟨g,0,none⟩) n cap) n xs) (hf:Fr X w w') (hX:¬X g):w'.ownsRow base e sz (.slice (some ⟨g,0,none⟩) n cap) n xs:=by
 obtain⟨hl,h | ⟨g',cap',cur,he,hg,hb,h1,h2,h3,h4⟩⟩:=h
 ·exact absurd h.1 (by simp)
 ·simp only[Value.slice.injEq,Option.some.injEq,Addr.mk.injEq,and_true,true_and] at he
  obtain⟨rfl,rfl⟩:=he
  have hb':Bx w g e cur:=hb
  exact⟨hl,.inr ⟨g,cap,cur,rfl,hg,hb'.keepX hf hX,h1,h2,h3,h4⟩⟩
theorem zaX {w:World} {base sz n g cap:Nat} {e:TypeId} {xs:List Value} (h:w.ownsRow base e sz (.slice (some ⟨g,0,none⟩) n cap) n xs):base≤g∧g<w.heap.size∧n≤cap:=by
 obtain⟨hl,h | ⟨g',cap',cur,he,hg,hb,h1,h2,h3,h4⟩⟩:=h
 ·exact absurd h.1 (by simp)
 ·simp only[Value.slice.injEq,Option.some.injEq,Addr.mk.injEq,and_true,true_and] at he
  obtain⟨rfl,rfl⟩:=he
  have hb':Bx w g e cur:=hb
  exact⟨hg,hb'.lt,h1⟩
theorem zaY {w:World} {base n g cap b:Nat} {e t:TypeId} {xs:List Value} {x y:Value} (h:w.ownsRow base e 2 (.slice (some ⟨g,0,none⟩) n cap) n xs) (hb:Bx w b t #[x,y]) (hn:2≤n):g≠b:=by
 obtain⟨hl,h | ⟨g',cap',cur,he,hg,hc,h1,h2,h3,h4⟩⟩:=h
 ·exact absurd h.1 (by simp)
 ·simp only[Value.slice.injEq,Option.some.injEq,Addr.mk.injEq,and_true,true_and] at he
  obtain⟨rfl,rfl⟩:=he
  rintro rfl
  have hc':Bx w g e cur:=hc
  unfold Bx at hc' hb
  rw[hb] at hc'
  simp only[Option.some.injEq,Obj.cells.injEq] at hc'
  have:cur.toList.length=2:=by rw[<-hc'.1];rfl
  have h5:=congrArg List.length h4
  rw[List.length_take,this] at h5
  omega
theorem zaZ {pre:List Ref} {k:Int} {s:Str} (h:∀x∈pre,x.name.size≤maxLen) (hs:s.size≤maxLen):Hid (∀x∈pre ++ [(⟨k,s⟩:Ref)],x.name.size≤maxLen):=fun x hx=>by
 rcases List.mem_append.1 hx with hx|hx
 ·exact h x hx
 ·rw[List.mem_singleton] at hx;subst hx;exact hs
theorem ownsRow_form {w:World} {base sz n:Nat} {e:TypeId} {v:Value} {xs:List Value} (h:w.ownsRow base e sz v (n+1) xs):∃g cap,v=.slice (some ⟨g,0,none⟩) (n+1) cap:=by
 obtain⟨hl,h | ⟨g',cap',cur,he,_⟩⟩:=h
 ·exact absurd h.2 (by omega)
 ·exact⟨g',cap',he⟩
theorem za0 (X:Nat->Prop) (p:Plan) (v:Value) (k0:Nat) (s0:Str) (i0:Nat) (w:World) (hp:lodB p=true) (h:Sl X w 2 (KprC X w) v p.keepers) (hh0:Here p ⟨k0,s0⟩ k0 i0) (hs0:s0.size≤maxLen):
  Calls Tryz.prog 54 #[.agg #[v],.agg #[.int .i64 k0,.string s0]] w (zaV (chainOf p ⟨k0,s0⟩) w):=by
 obtain⟨A,cap,rfl,hcap,hlen⟩:=h.form
 have hlen':=hlen
 unfold maxLen at hlen'
 obtain⟨j0,hi,hz0,hz1,hz2⟩:=info_parts zmw
 have hU0:Hid (Up p ⟨k0,s0⟩ [] ⟨k0,s0⟩):=Up.start p _
 replace hh0:=Lib.hid hh0
 replace hi:=Lib.hid hi
 replace hz0:=Lib.hid hz0
 replace hz1:=Lib.hid hz1
 replace hz2:=Lib.hid hz2
 go_enter Tryz.func54,Tryz.ntmps54
 go_wp2
 have hB4:Bx ((((w.alloc (.cells #[.slice A p.keepers.length cap] 25)).alloc (.cells #[.int .i64 k0,.string s0] 29)).alloc (.cells #[.int .i64 k0,.string s0] 29)).alloc (.cells #[.int .i64 k0,.string s0] 29)) w.heap.size 25 #[.slice A p.keepers.length cap]:=by exact bxc
 have hQ4:Bx ((((w.alloc (.cells #[.slice A p.keepers.length cap] 25)).alloc (.cells #[.int .i64 k0,.string s0] 29)).alloc (.cells #[.int .i64 k0,.string s0] 29)).alloc (.cells #[.int .i64 k0,.string s0] 29)) (w.heap.size+1+1+1) 29 #[.int .i64 k0,.string s0]:=by exact bxc
 have hw4:Fr No w ((((w.alloc (.cells #[.slice A p.keepers.length cap] 25)).alloc (.cells #[.int .i64 k0,.string s0] 29)).alloc (.cells #[.int .i64 k0,.string s0] 29)).alloc (.cells #[.int .i64 k0,.string s0] 29)):=((((Fr.refl No w).alloc _).alloc _).alloc _).alloc _
 have hC4:Bx ((((w.alloc (.cells #[.slice A p.keepers.length cap] 25)).alloc (.cells #[.int .i64 k0,.string s0] 29)).alloc (.cells #[.int .i64 k0,.string s0] 29)).alloc (.cells #[.int .i64 k0,.string s0] 29)) (w.heap.size+1+1) 29 #[.int .i64 k0,.string s0]:=by exact bxc
 have hrow4:((((w.alloc (.cells #[.slice A p.keepers.length cap] 25)).alloc (.cells #[.int .i64 k0,.string s0] 29)).alloc (.cells #[.int .i64 k0,.string s0] 29)).alloc (.cells #[.int .i64 k0,.string s0] 29)).ownsRow (w.heap.size+1+1) 29 2 (.slice (some ⟨w.heap.size+1+1,0,none⟩) 1 1) 1 (([] ++ [(⟨k0,s0⟩:Ref)]).flatMap zmo):=
  ⟨rfl,.inr ⟨_,1,_,rfl,Nat.le_refl _,by exact hC4,Nat.le_refl _,by unfold maxLen;omega,rfl,rfl⟩⟩
 replace hrow4:=Lib.hid hrow4
 clear hC4
 generalize((((w.alloc (.cells #[.slice A p.keepers.length cap] 25)).alloc (.cells #[.int .i64 k0,.string s0] 29)).alloc (.cells #[.int .i64 k0,.string s0] 29)).alloc (.cells #[.int .i64 k0,.string s0] 29))=W4 at *
 go_loopw [6,4,5] (fun o u4 u5 wr=>∃(pre:List Ref) (kc i:Nat) (sc:Str) (g cp:Nat),o=.slice (some ⟨g,0,none⟩) (pre.length+1) cp∧u4=.slice none 0 0∧u5=.bool false∧Hid (Up p ⟨k0,s0⟩ pre ⟨kc,sc⟩)∧Hid (Here p ⟨kc,sc⟩ kc i)∧sc.size≤maxLen∧Hid (∀x∈pre,x.name.size≤maxLen) ∧
  Hid (wr.ownsRow (w.heap.size+1+1) 29 2 (.slice (some ⟨g,0,none⟩) (pre.length+1) cp) (pre.length+1) ((pre ++ [(⟨kc,sc⟩:Ref)]).flatMap zmo))∧g≠w.heap.size+1+1+1 ∧
  Bx wr w.heap.size 25 #[.slice A p.keepers.length cap]∧Bx wr (w.heap.size+1+1+1) 29 #[.int .i64 kc,.string sc]∧Fr No w wr) (fun o _ _ _=>8-sliceLen o)
 case atStart=>exact⟨[],k0,i0,s0,w.heap.size+1+1,1,rfl,rfl,rfl,hU0,hh0,hs0,by simp[Hid],hrow4,by omega,hB4,hQ4,hw4⟩
 case round=>
  clear hB4 hQ4 hw4 hrow4 hU0 hh0 hs0
  obtain⟨pre,kc,i,sc,g,cp,rfl,rfl,rfl,hU,hh,hsc,hns,hrow,hg3,hB,hQ,hw⟩:=hrel
  have b0:=hB.c1
  obtain⟨q0,q1⟩:=hQ.c2
  have hBl:=hB.lt
  have hQl:=hQ.lt
  by_cases hlt:pre.length+1≤6
  ·have hkc:=hh.out.2.1
   have hkw:=h.keep hw zN (fun _ _ _ h=>h.keep hw zN)
   obtain⟨Af,cf,Am,cm,hR,HC⟩:=zaU X p _ kc sc i wr hkw hh.out hsc
   have HT:=Lib.hid (fun h1=>hU.out.top (by omega) h1)
   have HL:=Lib.hid (fun h1 h2=>hU.out.lost (by omega) h1 h2)
   have HU:=Lib.hid (fun h1 h2=>hU.out.step (by omega) h1 h2)
   have HW:=fun W (hW:Fr No wr W)=>zaT X p _ kc (zbG p ⟨kc,sc⟩).super W hp (hkw.keep hW zN (fun _ _ _ h=>h.keep hW zN)) hkc (by obtain⟨_,_,_,_,h,_⟩:=hR;exact h)
   have hwh:(whose p (kc:Int) (zbG p ⟨kc,sc⟩).super).2=1->∃kn i2:Nat,(whose p (kc:Int) (zbG p ⟨kc,sc⟩).super).1=⟨kn,(zbG p ⟨kc,sc⟩).super⟩∧Here p ⟨kn,(zbG p ⟨kc,sc⟩).super⟩ kn i2:=fun h=>zbV hp 4 (kc:Int) (by omega) (by omega) h
   have hsz:(zbG p ⟨kc,sc⟩).super.size≤maxLen:=by obtain⟨_,_,_,_,h,_⟩:=hR;exact h
   dsimp only at HT HL HU
   replace hwh:=Lib.hid hwh
   replace hsz:=Lib.hid hsz
   clear hkw hR hU h hkc
   generalize hqq:whose p (kc:Int) (zbG p ⟨kc,sc⟩).super=q2 at *
   clear hqq
   generalize hcc:zbG p ⟨kc,sc⟩=c at *
   clear hcc
   cases hs:c.super.toList.isEmpty
   ·obtain⟨⟨k2,s2⟩,c2⟩:=q2
    unfold refV at HW
    dsimp only at *
    by_cases hc:c2=1
    ·subst hc
     obtain⟨kn,i2,he,hh2⟩:=hwh.out rfl
     have he:(⟨k2,s2⟩:Ref)=⟨kn,c.super⟩:=he
     rw[Ref.mk.injEq] at he
     obtain⟨rfl,rfl⟩:=he
     have HS:=Lib.hid (HU.out hs rfl)
     have hh2:=Lib.hid hh2
     clear HT HL HU hwh hh
     go_wp2_with (first
      | (go_at_call 87;refine(HC _ (by exact frc)).mono ?_;rintro e w1 ⟨rfl,hf1⟩;have hB1:=hB.keep hf1;have hQ1:=hQ.keep hf1;have b0':=hB1.c1;obtain⟨q0',q1'⟩:=hQ1.c2;have hBl1:=hB1.lt;have hQl1:=hQ1.lt;clear b0 q0 q1)
      | (go_at_call 88;refine(HW _ (by exact frc)).mono ?_;rintro e w2 ⟨rfl,hf2⟩;have hfr2:Fr No wr w2:=(by exact frc);have hrow2:=zaW (X:=No) hrow.out hfr2 (fun h=>h);have hrl:=zaX hrow2;have hsz2:=Lib.hid hfr2.size;have hws:=Lib.hid hw.size;clear hrow HW)
      | (at_builtin;refine wpList_append_own _ rfl _ _ 59 rfl (w.heap.size+1+1) 29 j0 (.agg #[.int .i64 0,.string ⟨#[]⟩]) 2 24 Tryz.underlying59 hi.out hz0.out hz1.out hz2.out rfl (by decide) _ _ _ rfl ((hrow2.alloc _).alloc _) ⟨w2.heap.size+1,0,none⟩ 1 1 (zmo ⟨kn,c.super⟩) rfl rfl (fun j u h=>by have:=zmx (w2.alloc (.cells #[.int .i64 kn,.string c.super] 29)) #[.int .i64 kn,.string c.super] 29 j u h;simpa using this) (by simp[zmo,Value.oneCell']) (by unfold maxLen;omega) (by omega) (by have:=hsz2.out;have:=hws.out;simp;omega) ?_;intro v' w3 hown' hgrow hnil;obtain⟨g',cap',rfl⟩:=ownsRow_form hown';have hfg:Fr (fun b=>b=g) wr w3:=((hfr2.of0.alloc _).alloc _).grown hgrow (fun q e=>.inr (by cases e;rfl));have hQ3:=hQ.keepX hfg (fun h=>hg3 h.symm);have hQl3:=hQ3.lt;have hQf3:=(fun j=>hQ3.frozen j);obtain⟨q0'',q1''⟩:=hQ3.c2;have hN3:Bx w3 w2.heap.size 29 #[.int .i64 kn,.string c.super]:=((Bx.new w2 _ _).alloc _).keepX ((Fr.refl (fun b=>b=g) _).grown hgrow (fun q e=>.inr (by cases e;rfl))) (fun h=>by have:=hrl.2.1;omega);obtain⟨m0,m1⟩:=hN3.c2;have hNl3:=hN3.lt))
     have hb3:=hB.keepX hfg (fun h=>by have:=hrl.1;have:=hws.out;omega)
     have hfs:Fr (fun b=>b=w.heap.size+1+1+1) w3 ((w3.setCell ⟨w.heap.size+1+1+1,0,none⟩ (.int .i64 kn)).setCell ⟨w.heap.size+1+1+1,1,none⟩ (.string c.super)):=Fr.setCellX (X:=fun b=>b=w.heap.size+1+1+1) (p:=⟨_,1,none⟩) (Fr.setCellX (X:=fun b=>b=w.heap.size+1+1+1) (p:=⟨_,0,none⟩) (Fr.refl _ w3) (by rfl) _) (by rfl) _
     have hrow3:w3.ownsRow (w.heap.size+1+1) 29 2 (.slice (some ⟨g',0,none⟩) (pre.length+1+1) cap') (pre.length+1+1) (((pre ++ [(⟨kc,sc⟩:Ref)]) ++ [(⟨kn,c.super⟩:Ref)]).flatMap zmo):=by
      rw[List.flatMap_append];exact hown'
     have hg4:g'≠w.heap.size+1+1+1:=zaY hrow3 hQ3 (by omega)
     have hrow4:=Lib.hid (zaW (X:=fun b=>b=w.heap.size+1+1+1) hrow3 hfs hg4)
     have hQ4:=(hQ3.set_ 0 (.int .i64 kn)).set_ 1 (.string c.super)
     have hb4:=hb3.keepX hfs (by omega)
     have hw4:Fr No w ((w3.setCell ⟨w.heap.size+1+1+1,0,none⟩ (.int .i64 kn)).setCell ⟨w.heap.size+1+1+1,1,none⟩ (.string c.super)):=(hw.trans hfg (fun b hb e=>by have:=hrl.1;omega)).trans hfs (fun b hb e=>by omega)
     go_roundw
     case rel=>exact⟨pre ++ [(⟨kc,sc⟩:Ref)],kn,i2,c.super,g',cap',by simp,rfl,rfl,HS,hh2,hsz.out,zaZ (k:=kc) hns.out hsc,by rw[List.length_append];exact hrow4,hg4,hb4,hQ4,hw4⟩
     case measure=>simp[sliceLen];omega
    ·have hc':(c2 != 1)=true:=by simpa using hc
     have HS:Hid (chainOf p ⟨k0,s0⟩=none):=HL.out hs hc
     clear HT HL HU hwh hc
     go_wp2_with (first
      | (go_at_call 87;refine(HC _ (by exact frc)).mono ?_;rintro e w1 ⟨rfl,hf1⟩;have hB1:=hB.keep hf1;have hQ1:=hQ.keep hf1;have b0':=hB1.c1;obtain⟨q0',q1'⟩:=hQ1.c2;have hBl1:=hB1.lt;have hQl1:=hQ1.lt;clear b0 q0 q1)
      | (go_at_call 88;refine(HW _ (by exact frc)).mono ?_;rintro e w2 ⟨rfl,hf2⟩))
     go_ret2
     exact .no HS.out (by exact frc)
   ·have HS:=Lib.hid (HT.out hs)
    clear HT HL HU hwh HW
    go_wp2_with (go_at_call 87;refine(HC _ (by exact frc)).mono ?_;rintro e w1 ⟨rfl,hf1⟩)
    go_ret2
    refine .yes HS.out (zmy (pre:=pre ++ [(⟨kc,sc⟩:Ref)]) (base:=w.heap.size+1+1) ?_ (zaZ (k:=kc) hns.out hsc).out) (by exact frc)
    rw[List.length_append]
    exact zaW (X:=No) hrow.out (by exact frc) (fun h=>h)
  ·have HS:Hid (chainOf p ⟨k0,s0⟩=none):=hU.out.full (by have:=hU.out.1;omega)
   clear h
   go_wp2
   go_ret2
   exact .no HS.out (by exact frc)
theorem za1 {p:Plan} {k:Nat} (h:k<p.keepers.length):hasK p k=true:=by
 unfold hasK
 rw[decide_eq_true (show(0:Int)≤k by omega),decide_eq_true (show(k:Int)<p.keepers.length by omega)];rfl
theorem za2 {p:Plan} {k:Nat} {s:Str} (h:k<p.keepers.length):zbf p k s=whose p k s:=by unfold zbf;rw[za1 h];rfl
theorem za3 {p:Plan} {k:Int} {s:Str} {r:Ref} {pre:List Ref} (h:zbf p k s=(r,1)) (hc:chainOf p r=some pre):zmD p k s=(r,1):=by
 unfold zmD;rw[h,hc];rfl
theorem za4 {p:Plan} {k:Int} {s:Str} {r:Ref} (h:zbf p k s=(r,1)) (hc:chainOf p r=none):zmD p k s=(zbH,4):=by
 unfold zmD;rw[h,hc];rfl
theorem za5 {p:Plan} {k:Int} {s:Str} (h:(zbf p k s).2≠1):zmD p k s=(zbH,(zbf p k s).2):=by
 unfold zmD;rw[if_neg h]
theorem za6 (X:Nat->Prop) (p:Plan) (v:Value) (k0:Nat) (s:Str) (w:World) (hp:lodB p=true) (h:Sl X w 2 (KprC X w) v p.keepers) (hk0:k0<p.keepers.length) (hs:s.size≤maxLen):
  Calls Tryz.prog 85 #[.agg #[v],.int .i64 k0,.string s] w (Gives (refV (zmD p k0 s)) w):=by
 obtain⟨A,cap,rfl,hcap,hlen⟩:=h.form
 have HW:=fun W (hW:Fr No w W)=>zaT X p _ k0 s W hp (h.keep hW zN (fun _ _ _ h=>h.keep hW zN)) hk0 hs
 have hkk:=za2 (s:=s) hk0
 obtain⟨hB,hZ, -⟩:=Bx.two w 25 #[.slice A p.keepers.length cap] 29 #[.int .i64 0,.string ⟨#[]⟩]
 by_cases hc:(whose p k0 s).2=1
 ·obtain⟨kc,i,hq,hh⟩:∃kc i:Nat,(whose p k0 s).1=⟨kc,s⟩∧Here p ⟨kc,s⟩ kc i:=zbV hp 4 (k0:Int) (by omega) (by omega) hc
  have hqq:whose p k0 s=(⟨kc,s⟩,1):=by rw[<-hq,<-hc]
  have HC:=fun W (hW:Fr No w W)=>za0 X p _ kc s i W hp (h.keep hW zN (fun _ _ _ h=>h.keep hW zN)) hh hs
  rw[hqq] at HW hkk
  unfold refV at HW
  dsimp only at HW
  cases hch:chainOf p ⟨kc,s⟩ with
  | none=>
   rw[za4 hkk hch]
   rw[hch] at HC
   clear h hq hqq hc hh hch hkk
   unfold refV
   go_enter Tryz.func85,Tryz.ntmps85
   go_wp2_with (first
    | (go_at_call 88;refine(HW _ (by exact frc)).mono ?_;rintro e w1 ⟨rfl,hf1⟩;have hB1:=hB.keep hf1;have hZ1:=hZ.keep hf1;have b1:=hB1.c1;obtain⟨z0,z1⟩:=hZ1.c2;have hBl1:=hB1.lt;have hZl1:=hZ1.lt;have zf1:=(fun j=>hZ1.frozen j))
    | (go_at_call 54;refine(HC _ (by exact frc)).mono ?_;rintro e w2 ⟨v2,rfl,_,hf2⟩;have hZ2:=(hZ1.alloc _).keep hf2;clear z0 z1 zf1;obtain⟨z0,z1⟩:=hZ2.c2;have hZl2:=hZ2.lt;have zf2:=(fun j=>hZ2.frozen j)))
   refine bodyPost_ret (v:=.tuple #[.agg #[.int .i64 0,.string ⟨#[]⟩],.int .i64 4]) (by simp[results,Tryz.results85,go_sem, *]) rfl ?_
   exact .mk0 (by exact frc)
  | some pre=>
   rw[za3 hkk hch]
   rw[hch] at HC
   clear h hq hqq hc hh hch hkk
   unfold refV
   go_enter Tryz.func85,Tryz.ntmps85
   go_wp2_with (first
    | (go_at_call 88;refine(HW _ (by exact frc)).mono ?_;rintro e w1 ⟨rfl,hf1⟩;have hB1:=hB.keep hf1;have hZ1:=hZ.keep hf1;have b1:=hB1.c1;obtain⟨z0,z1⟩:=hZ1.c2;have hBl1:=hB1.lt;have hZl1:=hZ1.lt;have zf1:=(fun j=>hZ1.frozen j))
    | (go_at_call 54;refine(HC _ (by exact frc)).mono ?_;rintro e w2 ⟨v2,rfl,_,hf2⟩;have hZ2:=(hZ1.alloc _).keep hf2;have hN2:=(Bx.new w1 29 #[.int .i64 kc,.string s]).keep hf2;clear z0 z1 zf1;obtain⟨z0,z1⟩:=hZ2.c2;obtain⟨m0,m1⟩:=hN2.c2;have hZl2:=hZ2.lt;have hNl2:=hN2.lt;have zf2:=(fun j=>hZ2.frozen j)))
   refine bodyPost_ret (v:=.tuple #[.agg #[.int .i64 kc,.string s],.int .i64 1]) (by simp[results,Tryz.results85,go_sem, *]) rfl ?_
   exact .mk0 (by exact frc)
 ·have hno:=zbm (p:=p) (s:=s) (k:=k0) (by rw[hkk];exact hc)
  rw[za5 (by rw[hkk];exact hc),hkk]
  rw[hkk] at hno
  unfold refV at HW ⊢
  rw[hno] at HW
  dsimp only[zbH] at HW ⊢
  generalize(whose p k0 s).2=c at *
  have hc':(c != 1)=true:=by simpa using hc
  clear hc hno h hkk
  go_enter Tryz.func85,Tryz.ntmps85
  go_wp2_with (go_at_call 88;refine(HW _ (by exact frc)).mono ?_;rintro e w1 ⟨rfl,hf1⟩;have hZ1:=hZ.keep hf1;obtain⟨z0,z1⟩:=hZ1.c2;have hZl1:=hZ1.lt;have zf1:=(fun j=>hZ1.frozen j))
  refine bodyPost_ret (v:=.tuple #[.agg #[.int .i64 0,.string ⟨#[]⟩],.int .i64 c]) (by simp[results,Tryz.results85,go_sem, *]) rfl ?_
  exact .mk0 (by exact frc)
theorem zmG.none_ {w w':World} {xs:List Ref} {A:Option Addr} {c:Nat} (h:xs=[]) (hf:Fr No w w'):zmG xs w (.returned (.slice A 0 c)) w':=by subst h;exact⟨_,rfl,Sl.none_ A c,hf⟩
end Go.Proofs.YtbfmeklfpackjaaGreatDoor
