/- A change's text, as the program writes it. -/
import Derived.Test.YtpghfhjhjlmljaaGreatPG30
import Derived.Test.YtpghfhjhjlmljaaGreatPG31
import Derived.Test.YtpghfhjhjlmljaaGreatPG34
set_option maxHeartbeats 8000000
set_option maxRecDepth 100000
namespace Go.Proofs.YtpghfhjhjlmljaaGreat
open Go.RowKit
theorem Gives.toFr {X:Nat->Prop} {v:Value} {a W w':World} {e:Ending} (h:Gives v W e w') (hW:Fr X a W):e=.returned v∧Fr X a w':=⟨h.1,hW.trans0 h.2⟩
theorem Gives.str {s t:Str} {w w':World} (h:s=t) (hf:Fr No w w'):Gives (.string t) w (.returned (.string s)) w':=⟨by rw[h],hf⟩
theorem zBN (X:Nat->Prop) (c:Chg) (cs:List Value) (w:World) (h:ChgC X w cs c):
  Calls Tryz.prog 18 #[.agg cs.toArray] w (zgm (chgB c) w):=by
 obtain⟨vf,vm,rfl,hz0,hz1,hz2,hf,hm⟩:=h
 have hR:ClsC X w [.string c.cls.name,.string c.cls.super,vf,vm] c.cls:=⟨_,_,rfl,hz1,hz2,hf,hm⟩
 obtain⟨Af,cf,rfl,_,_⟩:=hf.form
 obtain⟨Am,cm,rfl,_,_⟩:=hm.form
 clear hf hm
 have HN:=fun W=>zlv c.name W hz0
 have HC:=fun W (h:Fr No w W)=>zf8 X c.cls _ W (hR.keep h zN)
 have HS:=fun W (h:Fr No w W)=>zAV X c.cls _ W (hR.keep h zN)
 have HK:=fun W=>zlz c.keeper 0 2 W
 have HT:=fun W=>zlz c.tq 0 2 W
 clear hR
 have hB:=Bx.new w 44 #[.int .i64 c.kind,.int .i64 c.keeper,.string c.name,.int .i64 c.tq,.string c.cls.name,.string c.cls.super,.slice Af c.cls.fields.length cf,.slice Am c.cls.methods.length cm]
 obtain⟨V,hV⟩:∃V,V=chgB c:=⟨_,rfl⟩
 rw[<-hV]
 unfold chgB at hV
 obtain⟨kd,kp,nm,tq,cl⟩:=c
 dsimp only at *
 have hcase:(decide (0≤kp)&&decide (kp≤2))=false∨((decide (0≤kp)&&decide (kp≤2))=true∧namB nm=false)∨((decide (0≤kp)&&decide (kp≤2))=true∧namB nm=true∧kd=1)∨((decide (0≤kp)&&decide (kp≤2))=true∧namB nm=true∧kd≠1):=by
  generalize(decide (0≤kp)&&decide (kp≤2))=q
  cases q<;>cases namB nm<;>by_cases h:kd=1<;>simp[h]
 generalize clsB cl=bc at *
 generalize zAU cl=bn at *
 generalize namB nm=bm at *
 generalize hq:(decide (0≤kp)&&decide (kp≤2))=q at *
 generalize hq2:(decide (0≤tq)&&decide (tq≤2))=q2 at *
 replace hV:=Lib.hid hV
 replace hq:=Lib.hid hq
 replace hq2:=Lib.hid hq2
 have ht:tq=0∨(tq == 0)=false:=by
  by_cases h:tq=0
  ·exact .inl h
  ·exact .inr (by simpa using h)
 rcases ht with rfl|ht
 all_goals rcases hcase with rfl | ⟨rfl,rfl⟩ | ⟨rfl,rfl,rfl⟩ | ⟨rfl,rfl,hk⟩
 all_goals
  try(have hk1:(kd == 1)=false:=by simpa using hk)
  try(have hk2:(kd != 1)=true:=by simpa using hk)
  try clear hk
  go_enter Tryz.func18,Tryz.ntmps18
  go_wp2_with (first
   | (go_at_call 36;refine(HN _).mono ?_;rintro e w' ⟨rfl,rfl⟩)
   | (go_at_call_of 34 (Value.int .i64 kp);refine(HK _).mono ?_;rintro e w' ⟨rfl,rfl⟩)
   | (go_at_call 34;refine(HT _).mono ?_;rintro e w' ⟨rfl,rfl⟩)
   | (go_at_call 38;refine(HC _ (by exact frc)).mono ?_;rintro e w1 ⟨rfl,hf1⟩;obtain⟨e0,e1,e2,e3,e4,e5,e6,e7⟩:=(hB.keep hf1).c8;have hl1:=(hB.keep hf1).lt)
   | (go_at_call 37;refine(HS _ (by exact frc)).mono ?_;rintro e w1 ⟨rfl,hf1⟩;obtain⟨e0,e1,e2,e3,e4,e5,e6,e7⟩:=(hB.keep hf1).c8;have hl1:=(hB.keep hf1).lt))
 all_goals refine bodyPost_ret (v:=.bool V) ?_ rfl (.mk rfl (by exact frc))
 all_goals simp[results,Tryz.results18,go_sem]
 all_goals rw[hV.out]
 all_goals replace hq:=hq.out
 all_goals replace hq2:=hq2.out
 all_goals clear HN HC HS HK HT hB hV
 all_goals go_light
 all_goals try clear e0 e1 e2 e3 e4 e5 e6 e7
 all_goals try subst hq2
 all_goals simp at *
 all_goals try simp_all
 all_goals try omega
def SPtP (p:Plan) (c:Chg) (w:World) (e:Ending) (w':World):Prop:=∃v,e=.returned (.tuple #[.agg #[v],.bool (zA4 p c)])∧Sl No w' 2 (KprC No w') v (zA5 p c)∧Fr No w w'
theorem zBO {p:Plan} {c:Chg} (h:zA4 p c=false) {w w':World} (hf:Fr No w w'):SPtP p c w (.returned (.tuple #[.agg #[.slice none 0 0],.bool false])) w':=by
 refine⟨_,by rw[h],?_,hf⟩
 unfold zA5
 rw[h]
 exact Sl.nil _ _ _ _
theorem zBP (p:Plan) (pv:Value) (c:Chg) (ccs:List Value) (w:World) (hp:Sl No w 2 (KprC No w) pv p.keepers) (hc:ChgC No w ccs c):
  Calls Tryz.prog 6 #[.agg #[pv],.agg ccs.toArray] w (SPtP p c w):=by
 have hcc:=id hc
 obtain⟨vf,vm,rfl,hz0,hz1,hz2,hf,hm⟩:=hcc
 obtain⟨A,cap,rfl,_,_⟩:=hp.form
 obtain⟨Af,cf,rfl,_,_⟩:=hf.form
 obtain⟨Am,cm,rfl,_,_⟩:=hm.form
 obtain⟨wA,hwA⟩:∃wA,wA=((w.alloc (.cells #[.slice A p.keepers.length cap] 35)).alloc (.cells #[.int .i64 c.kind,.int .i64 c.keeper,.string c.name,.int .i64 c.tq,.string c.cls.name,.string c.cls.super,.slice Af c.cls.fields.length cf,.slice Am c.cls.methods.length cm] 44)).alloc (.cells #[.slice none 0 0] 35):=⟨_,rfl⟩
 have hfA:Fr No w wA:=hwA▸frc
 have B1:=(hwA▸bxc:Bx wA w.heap.size 35 #[.slice A p.keepers.length cap])
 have B2:=(hwA▸bxc:Bx wA (w.heap.size+1) 44 #[.int .i64 c.kind,.int .i64 c.keeper,.string c.name,.int .i64 c.tq,.string c.cls.name,.string c.cls.super,.slice Af c.cls.fields.length cf,.slice Am c.cls.methods.length cm])
 have B3:=(hwA▸bxc:Bx wA (w.heap.size+1+1) 35 #[.slice none 0 0])
 have hsA:wA.heap.size=w.heap.size+1+1+1:=by rw[hwA];simp
 have HC:=fun W (hW:Fr No w W)=>hc.keep hW zN
 have HP:=fun W (hW:Fr No w W)=>hp.keep (R':=KprC No W) hW zN (fun _ _ _ h=>h.keep hW zN)
 have HO:=fun W (hW:Fr No w W)=>zaP No p _ W (HP W hW)
 have HV:=fun W (hW:Fr No w W)=>zBN No c _ W (HC W hW)
 clear hc hf hm hp
 replace hwA:=Lib.hid hwA
 have q:=B1.c1
 have ql:=B1.lt
 have p2:=B2.c8
 have p2l:=B2.lt
 cases hlp:lodB p
 ·have hn:zA4 p c=false:=by unfold zA4;rw[hlp];simp
  replace hn:=Lib.hid hn
  rw[hlp] at HO
  clear hlp HC HP HV
  go_enter Tryz.func6,Tryz.ntmps6
  go_wp2_with fail
  rw[<-hwA.out]
  refine(HO _ hfA).mono ?_
  rintro e w2 ⟨rfl,hf2⟩
  have B3:=B3.keep hf2
  have p3:=B3.c1
  have p3l:=B3.lt
  have p3f:=B3.frozen
  have hfin:=Lib.hid (fun u=>zBO hn.out (w:=w) (w':=w2.setCell ⟨w.heap.size+1+1,0,none⟩ u) ((hfA.trans0 hf2).trans (Fr.cell1 _ _ _ _) (fun b hb e=>by omega)))
  clear HO
  go_wp2_with fail
  refine bodyPost_ret (v:=.tuple #[.agg #[.slice none 0 0],.bool false]) (by simp[results,Tryz.results6,go_sem, *]) rfl ?_
  exact hfin.out _
 ·rw[hlp] at HO
  have hsml:=zA8 hlp
  cases hb:chgB c
  ·have hn:zA4 p c=false:=by unfold zA4;rw[hb];rfl
   replace hn:=Lib.hid hn
   rw[hb] at HV
   clear hlp hb HC HP
   go_enter Tryz.func6,Tryz.ntmps6
   go_wp2_with fail
   rw[<-hwA.out]
   refine(HO _ hfA).mono ?_
   rintro e w1 ⟨rfl,hf1⟩
   have B2:=B2.keep hf1
   have B3:=B3.keep hf1
   have p2:=B2.c8
   have p2l:=B2.lt
   clear HO q ql
   go_wp2_with fail
   refine(HV _ (hfA.trans0 hf1)).mono ?_
   rintro e w2 ⟨rfl,hf2⟩
   have B3:=B3.keep hf2
   have p3:=B3.c1
   have p3l:=B3.lt
   have p3f:=B3.frozen
   have hfin:=Lib.hid (fun u=>zBO hn.out (w:=w) (w':=w2.setCell ⟨w.heap.size+1+1,0,none⟩ u) (((hfA.trans0 hf1).trans0 hf2).trans (Fr.cell1 _ _ _ _) (fun b hb e=>by omega)))
   clear HV p2 p2l
   go_wp2_with fail
   refine bodyPost_ret (v:=.tuple #[.agg #[.slice none 0 0],.bool false]) (by simp[results,Tryz.results6,go_sem, *]) rfl ?_
   exact hfin.out _
  ·rw[hb] at HV
   have hk1:0≤c.keeper:=by
    have hb:=hb
    unfold chgB at hb
    simp only[lz5,decide_eq_true_eq] at hb
    exact hb.1.1.1
   obtain⟨i,hi⟩:∃i:Nat,c.keeper=(i:Int):=⟨c.keeper.toNat,by omega⟩
   have hTP:Hid ((zA3 p c).keepers=p.keepers.set i (zA2 c (p.keepers.getD i ⟨[],[]⟩))):=Lib.hid (by unfold zA3;rw[hi];rfl)
   have hTB:Hid (zA4 p c=(decide ((i:Int)<p.keepers.length)&&lodB (zA3 p c))):=Lib.hid (by unfold zA4;rw[hb,hlp,hi];rfl)
   have HT:=fun hlt W (hW:Fr No w W)=>zBI p _ c _ W (HP W hW) (HC W hW) i hi hlt hsml
   rw[hi] at B2 p2 HV hwA HT ⊢
   replace hi:=Lib.hid hi
   clear hlp hb HC HP
   go_enter Tryz.func6,Tryz.ntmps6
   go_wp2_with fail
   rw[<-hwA.out]
   refine(HO _ hfA).mono ?_
   rintro e w1 ⟨rfl,hf1⟩
   have B1:=B1.keep hf1
   have B2:=B2.keep hf1
   have B3:=B3.keep hf1
   have p2:=B2.c8
   have p2l:=B2.lt
   clear HO q ql
   go_wp2_with fail
   refine(HV _ (hfA.trans0 hf1)).mono ?_
   rintro e w2 ⟨rfl,hf2⟩
   have B1:=B1.keep hf2
   have B2:=B2.keep hf2
   have B3:=B3.keep hf2
   have p1:=B1.c1
   have p1l:=B1.lt
   have p2:=B2.c8
   have p2l:=B2.lt
   have p3:=B3.c1
   have p3l:=B3.lt
   have p3f:=B3.frozen
   have hF2:Fr No w w2:=(hfA.trans0 hf1).trans0 hf2
   clear HV hf1 hf2 hfA
   by_cases hkn:i<p.keepers.length
   ·have HT:=HT hkn w2 hF2
    go_wp2_with fail
    refine HT.mono ?_
    rintro e w3 ⟨v3,rfl,hS3,hf3⟩
    rw[show p.keepers.set i (zA2 c p.keepers[i])=(zA3 p c).keepers by rw[hTP.out];simp[List.getD,hkn]] at hS3
    obtain⟨A3,c3,rfl,_,_⟩:=hS3.form
    have B3:=B3.keep hf3
    have hF3:=hF2.trans0 hf3
    have hlen:(zA3 p c).keepers.length=p.keepers.length:=by rw[hTP.out,List.length_set]
    rw[hlen] at hS3 ⊢
    replace hlen:=Lib.hid hlen
    have hB4:=fun W (hW:Fr No w3 W)=>hS3.keep (R':=KprC No W) hW zN (fun _ _ _ h=>h.keep hW zN)
    have h3l:=B3.lt
    have hlq:=zaP No (zA3 p c) _ _ (hB4 _ ((Fr.refl No w3).alloc (.cells #[.slice A3 p.keepers.length c3] 35)))
    clear HT p1 p1l p2 p2l p3 p3l p3f B1 B2 hS3
    go_wp2_with fail
    obtain⟨w4,hw4⟩:∃w4,w4=w3.alloc (.cells #[.slice A3 p.keepers.length c3] 35):=⟨_,rfl⟩
    rw[<-hw4] at hlq ⊢
    have hf4:Fr No w3 w4:=hw4▸frc
    have B7:Bx w4 w3.heap.size 35 #[.slice A3 p.keepers.length c3]:=hw4▸bxc
    have B3:=B3.keep hf4
    replace hw4:=Lib.hid hw4
    cases hb9:lodB (zA3 p c)
    ·rw[hb9] at hlq
     have hn:zA4 p c=false:=by rw[hTB.out,hb9,Bool.and_false]
     replace hn:=Lib.hid hn
     refine hlq.mono ?_
     rintro e w5 ⟨rfl,hf5⟩
     have B3:=B3.keep hf5
     have p3:=B3.c1
     have p3l:=B3.lt
     have p3f:=B3.frozen
     have hfin:=Lib.hid (fun u=>zBO hn.out (w:=w) (w':=w5.setCell ⟨w.heap.size+1+1,0,none⟩ u) (((hF3.trans0 hf4).trans0 hf5).trans (Fr.cell1 _ _ _ _) (fun b hb e=>by omega)))
     clear hlq hb9 hB4
     go_wp2_with fail
     refine bodyPost_ret (v:=.tuple #[.agg #[.slice none 0 0],.bool false]) (by simp[results,Tryz.results6,go_sem, *]) rfl ?_
     exact hfin.out _
    ·rw[hb9] at hlq
     have hn:zA4 p c=true:=by rw[hTB.out,hb9,decide_eq_true (by omega)];rfl
     replace hn:=Lib.hid hn
     have hs9:=zA8 hb9
     refine hlq.mono ?_
     rintro e w5 ⟨rfl,hf5⟩
     have HQ:=zBM No (zA3 p c) _ w5 (hB4 _ (hf4.trans0 hf5)) hs9.1 hs9.2
     have B7:=B7.keep hf5
     have B3:=B3.keep hf5
     have p7:=B7.c1
     have p7l:=B7.lt
     clear hlq hb9 hB4 hs9
     go_wp2_with fail
     refine HQ.mono ?_
     rintro e w6 ⟨v6,rfl,hS6,hf6⟩
     obtain⟨A6,c6,rfl,_,_⟩:=hS6.form
     rw[hlen.out] at hS6 ⊢
     have B3:=B3.keep hf6
     have p3:=B3.c1
     have p3l:=B3.lt
     have p3f:=B3.frozen
     obtain⟨w7,hw7⟩:∃w7,w7=w6.setCell ⟨w.heap.size+1+1,0,none⟩ (.slice A6 p.keepers.length c6):=⟨_,rfl⟩
     have hst:Fr (fun b=>b=w.heap.size+1+1) w6 w7:=hw7▸Fr.cell1 _ _ _ _
     have hs5:=hf5.size
     have hs4:=hf4.size
     have hXb:∀b,b=w.heap.size+1+1->b<w5.heap.size:=fun b e=>by omega
     have hfin:=Lib.hid (show SPtP p c w (.returned (.tuple #[.agg #[.slice A6 p.keepers.length c6],.bool true])) w7 from
      ⟨_,by rw[hn.out],by
       unfold zA5
       rw[hn.out,if_pos rfl]
       exact(hS6.keep (R':=KprC (fun b=>b<w5.heap.size) w7) hst hXb (fun _ _ _ h=>KprC.keep h hst hXb)).weaken zN (fun _ _ _ h=>KprC.weaken h zN),
       (((hF3.trans0 hf4).trans0 hf5).trans0 hf6).trans hst (fun b hb e=>by omega)⟩)
     clear HQ hS6 hst hXb
     go_wp2_with fail
     refine bodyPost_ret (v:=.tuple #[.agg #[.slice A6 p.keepers.length c6],.bool true]) (by simp[results,Tryz.results6,go_sem, *]) rfl ?_
     rw[hw7] at hfin
     exact hfin.out
   ·have hn:zA4 p c=false:=by rw[hTB.out,decide_eq_false (by omega)];rfl
    replace hn:=Lib.hid hn
    have hfin:=Lib.hid (fun u=>zBO hn.out (w:=w) (w':=w2.setCell ⟨w.heap.size+1+1,0,none⟩ u) (hF2.trans (Fr.cell1 _ _ _ _) (fun b hb e=>by omega)))
    clear HT
    go_wp2_with fail
    refine bodyPost_ret (v:=.tuple #[.agg #[.slice none 0 0],.bool false]) (by simp[results,Tryz.results6,go_sem, *]) rfl ?_
    exact hfin.out _
def LkV (v v':Value):Prop:=v'=v∨(∃k k',v=.int .i64 k∧v'=.int .i64 k')∨(∃s s',v=.string s∧v'=.string s')
theorem LkV.refl (v:Value):LkV v v:=.inl rfl
theorem LkV.trans {a b c:Value} (h:LkV a b) (k:LkV b c):LkV a c:=by
 rcases h with rfl | ⟨x,y,rfl,rfl⟩ | ⟨x,y,rfl,rfl⟩
 ·exact k
 ·rcases k with rfl | ⟨x',y',h1,rfl⟩ | ⟨x',y',h1,rfl⟩
  ·exact .inr (.inl ⟨_,_,rfl,rfl⟩)
  ·exact .inr (.inl ⟨_,_,rfl,rfl⟩)
  ·cases h1
 ·rcases k with rfl | ⟨x',y',h1,rfl⟩ | ⟨x',y',h1,rfl⟩
  ·exact .inr (.inr ⟨_,_,rfl,rfl⟩)
  ·cases h1
  ·exact .inr (.inr ⟨_,_,rfl,rfl⟩)
theorem LkV.int {k:Int} {v:Value} (h:LkV (.int .i64 k) v):∃k',v=.int .i64 k':=by
 rcases h with rfl | ⟨x,y,_,rfl⟩ | ⟨x,y,h1,_⟩
 ·exact⟨_,rfl⟩
 ·exact⟨_,rfl⟩
 ·cases h1
theorem LkV.str {s:Str} {v:Value} (h:LkV (.string s) v):∃s',v=.string s':=by
 rcases h with rfl | ⟨x,y,h1,_⟩ | ⟨x,y,_,rfl⟩
 ·exact⟨_,rfl⟩
 ·cases h1
 ·exact⟨_,rfl⟩
theorem LkV.sl {A:Option Addr} {n c:Nat} {v:Value} (h:LkV (.slice A n c) v):v=.slice A n c:=by
 rcases h with rfl | ⟨x,y,h1,_⟩ | ⟨x,y,h1,_⟩
 ·rfl
 ·cases h1
 ·cases h1
structure Tw (X:Nat->Prop) (w w':World):Prop where
 fr:Fr X w w'
 like:∀b o v,w.cell? ⟨b,o,none⟩=some v->∃v',w'.cell? ⟨b,o,none⟩=some v'∧LkV v v'
 froz:∀b o,b<w.heap.size->w'.frozen? ⟨b,o,none⟩=w.frozen? ⟨b,o,none⟩
section
variable {X:Nat->Prop} {a w w':World}
theorem Tw.refl (X:Nat->Prop) (w:World):Tw X w w:=⟨Fr.refl X w,fun _ _ v h=>⟨v,h,.refl v⟩,fun _ _ _=>rfl⟩
theorem Tw.of0 (h:Fr No w w'):Tw X w w':=⟨h.of0,fun _ _ v hc=>⟨v,h.keep0 hc,.refl v⟩,fun _ o hb=>h.frozen o hb⟩
theorem Tw.trans (h:Tw X a w) (k:Tw X w w'):Tw X a w':=by
 refine⟨h.fr.same k.fr,fun b o v hc=>?_,fun b o hb=>?_⟩
 ·obtain⟨v1,h1,h2⟩:=h.like b o v hc
  obtain⟨v2,h3,h4⟩:=k.like b o v1 h1
  exact⟨v2,h3,h2.trans h4⟩
 ·rw[k.froz b o (Nat.lt_of_lt_of_le hb h.fr.size),h.froz b o hb]
theorem Tw.set {b o:Nat} {v u:Value} (hc:w.cell? ⟨b,o,none⟩=some v) (hl:LkV v u) (hX:X b):Tw X w (w.setCell ⟨b,o,none⟩ u):=by
 refine⟨Fr.setCellX (p:=⟨b,o,none⟩) (Fr.refl X w) hX u,fun b' o' v' hc'=>?_,fun b' o' _=>by rw[World.frozen?_setCell]⟩
 by_cases h:b'=b∧o'=o
 ·obtain⟨rfl,rfl⟩:=h
  rw[hc] at hc'
  cases hc'
  exact⟨u,World.cell?_setCell_same _ _ _ hc,hl⟩
 ·exact⟨v',by
   have e:=World.cell?_setCell_other w ⟨b,o,none⟩ ⟨b',o',none⟩ u (by intro e;cases e;exact h ⟨rfl,rfl⟩)
   rw[e];exact hc',.refl v'⟩
theorem Tw.int {b o:Nat} {k k':Int} (h:Tw X a w) (hc:w.cell? ⟨b,o,none⟩=some (.int .i64 k)) (hX:X b):Tw X a (w.setCell ⟨b,o,none⟩ (.int .i64 k')):=h.trans (.set hc (.inr (.inl ⟨_,_,rfl,rfl⟩)) hX)
theorem Tw.str {b o:Nat} {s s':Str} (h:Tw X a w) (hc:w.cell? ⟨b,o,none⟩=some (.string s)) (hX:X b):Tw X a (w.setCell ⟨b,o,none⟩ (.string s')):=h.trans (.set hc (.inr (.inr ⟨_,_,rfl,rfl⟩)) hX)
end
theorem Tw.stepI {X:Nat->Prop} {a w:World} {b o:Nat} {k':Int} (h:Tw X a w) (hc:∀W,Tw X a W->∃x,W.cell? ⟨b,o,none⟩=some (.int .i64 x)) (hX:X b):Tw X a (w.setCell ⟨b,o,none⟩ (.int .i64 k')):=
 let ⟨_,hx⟩:=hc w h;h.int hx hX
theorem Tw.stepS {X:Nat->Prop} {a w:World} {b o:Nat} {s':Str} (h:Tw X a w) (hc:∀W,Tw X a W->∃x,W.cell? ⟨b,o,none⟩=some (.string x)) (hX:X b):Tw X a (w.setCell ⟨b,o,none⟩ (.string s')):=
 let ⟨_,hx⟩:=hc w h;h.str hx hX
structure Unf (lo hi:Nat) (w:World):Prop where
 le:hi≤w.heap.size
 free:∀b o,lo≤b->b<hi->w.frozen? ⟨b,o,none⟩=false
theorem Unf.tw {lo hi:Nat} {X:Nat->Prop} {w w':World} (h:Unf lo hi w) (ht:Tw X w w'):Unf lo hi w':=
 ⟨Nat.le_trans h.le ht.fr.size,fun b o h1 h2=>by rw[ht.froz b o (Nat.lt_of_lt_of_le h2 h.le)];exact h.free b o h1 h2⟩
theorem Unf.at_ {lo hi b:Nat} {X:Nat->Prop} {w w':World} (h:Unf lo hi w) (ht:Tw X w w') (hb:lo≤b∧b<hi):(∀o,w'.frozen? ⟨b,o,none⟩=false)∧b<w'.heap.size:=
 ⟨fun o=>(h.tw ht).free b o hb.1 hb.2,Nat.lt_of_lt_of_le hb.2 (h.tw ht).le⟩
def zot (lo hi:Nat) (n:Int) (w:World) (e:Ending) (w':World):Prop:=e=.returned (.int .i64 n)∧Tw (fun b=>lo≤b∧b<hi) w w'
theorem Sl.tw {α:Type} {X Z:Nat->Prop} {w w':World} {sz:Nat} {R R':List Value->α->Prop} {v:Value} {xs:List α} (h:Sl X w sz R v xs) (ht:Tw Z w w')
  (hR:∀(cs cs':List Value) x,x∈xs->R cs x->cs'.length=cs.length->(∀(j:Nat) (u:Value),cs[j]? =some u->∃u',cs'[j]? =some u'∧LkV u u')->R' cs' x):Sl X w' sz R' v xs:=by
 obtain⟨A,cap,rfl,h1,h2,h3⟩:=h
 refine⟨A,cap,rfl,h1,h2,fun h0=>?_⟩
 obtain⟨b,off,rfl,hX,hc⟩:=h3 h0
 refine⟨b,off,rfl,hX,fun k hk=>?_⟩
 obtain⟨cs,hRc,hl,hcs⟩:=hc k hk
 have hex:∀j,j<sz->∃u u',cs[j]? =some u∧w'.cell? ⟨b,off+k * sz+j,none⟩=some u'∧LkV u u':=fun j hj=>by
  have hv:cs[j]? =some (cs[j]'(by omega)):=lz8 (by omega)
  obtain⟨u',h4,h5⟩:=ht.like _ _ _ ((hcs j hj).trans hv)
  exact⟨_,u',hv,h4,h5⟩
 have hw:∀j,j<sz->w'.cell? ⟨b,off+k * sz+j,none⟩=((List.range sz).map fun j=>(w'.cell? ⟨b,off+k * sz+j,none⟩).getD undef)[j]?:=fun j hj=>by
  obtain⟨u,u',_,h4,_⟩:=hex j hj
  rw[List.getElem?_map,List.getElem?_range hj]
  simp[h4]
 refine⟨(List.range sz).map fun j=>(w'.cell? ⟨b,off+k * sz+j,none⟩).getD undef,hR cs _ _ (List.getElem_mem hk) hRc (by simp[hl]) (fun j u hu=>?_),by simp,hw⟩
 have hj:j<sz:=by
  have:=(List.getElem?_eq_some_iff.1 hu).1
  omega
 obtain⟨u1,u',h6,h4,h5⟩:=hex j hj
 rw[hu] at h6
 cases h6
 exact⟨u',by rw[<-hw j hj];exact h4,h5⟩
theorem Sl.map_ {α β:Type} {X:Nat->Prop} {w:World} {sz:Nat} {R:List Value->α->Prop} {R':List Value->β->Prop} {v:Value} {xs:List α} (f:α->β) (h:Sl X w sz R v xs) (hR:∀cs x,x∈xs->R cs x->R' cs (f x)):Sl X w sz R' v (xs.map f):=by
 obtain⟨A,cap,rfl,h1,h2,h3⟩:=h
 refine⟨A,cap,by simp,by simpa using h1,by simpa using h2,fun h0=>?_⟩
 obtain⟨b,off,rfl,hX,hc⟩:=h3 (by simpa using h0)
 refine⟨b,off,rfl,hX,fun k hk=>?_⟩
 have hk':k<xs.length:=by simpa using hk
 obtain⟨cs,hRc,hl,hcs⟩:=hc k hk'
 exact⟨cs,by rw[List.getElem_map];exact hR cs _ (List.getElem_mem hk') hRc,hl,hcs⟩
end Go.Proofs.YtpghfhjhjlmljaaGreat
