/- The reference's l9Turn: keepers with something turned. -/
import Derived.Test.YtpghfhjhjlmljaaGreatPG29
set_option maxHeartbeats 8000000
set_option maxRecDepth 100000
namespace Go.Proofs.YtpghfhjhjlmljaaGreat
open Go.RowKit
theorem Sl.box1 {α:Type} {X:Nat->Prop} {w:World} {R:List Value->α->Prop} {b:Nat} {t:TypeId} {cs:List Value} {x:α} (sz:Nat) (hB:Bx w b t cs.toArray) (hl:cs.length=sz) (hX:¬X b) (hR:R cs x):Sl X w sz R (.slice (some ⟨b,0,none⟩) 1 1) [x]:=
 ⟨_,1,rfl,Nat.le_refl _,by show 1≤maxLen;unfold maxLen;omega,fun _=>⟨b,0,rfl,hX,fun k hk=>by
  have h0:k=0:=by simpa using hk
  subst h0
  exact⟨cs,hR,hl,fun j hj=>by rw[hB.cell];simp⟩⟩⟩
theorem Sl.box0 {α:Type} {X:Nat->Prop} {w:World} {R:List Value->α->Prop} (b:Nat) (sz:Nat):Sl X w sz R (.slice (some ⟨b,0,none⟩) 0 0) ([]:List α):=
 ⟨_,0,rfl,Nat.le_refl _,Nat.zero_le _,fun h=>absurd h (by simp)⟩
def zBH (ks:List Kpr) (w:World) (e:Ending) (w':World):Prop:=∃v,e=.returned (.agg #[v])∧Sl No w' 2 (KprC No w') v ks∧Fr No w w'
def KB9 (X:Nat->Prop) (w w6:World) (b6:Nat) (k:Kpr):Prop:=∃A6 n6 c6 A7 n7 c7,Bx w6 b6 67 #[.slice A6 n6 c6,.slice A7 n7 c7]∧KprC X w6 [.slice A6 n6 c6,.slice A7 n7 c7] k∧Fr (fun b=>b=b6) w w6
theorem zBI (p:Plan) (pv:Value) (c:Chg) (ccs:List Value) (w:World) (hp:Sl No w 2 (KprC No w) pv p.keepers) (hc:ChgC No w ccs c) (i:Nat) (hi:c.keeper=(i:Int)) (hlt:i<p.keepers.length) (hsm:p.keepers.length≤1000∧∀k∈p.keepers,SmK k):
  Calls Tryz.prog 19 #[.agg #[pv],.agg ccs.toArray] w (zBH (p.keepers.set i (zA2 c p.keepers[i])) w):=by
 have hcc:=id hc
 obtain⟨vf,vm,rfl,hz0,hz1,hz2,hf,hm⟩:=hcc
 obtain⟨A,cap,rfl,_,_⟩:=hp.form
 obtain⟨Af,cf,rfl,_,_⟩:=hf.form
 obtain⟨Am,cm,rfl,_,_⟩:=hm.form
 have hcl:ClsC No w [.string c.cls.name,.string c.cls.super,.slice Af c.cls.fields.length cf,.slice Am c.cls.methods.length cm] c.cls:=⟨_,_,rfl,hz1,hz2,hf,hm⟩
 clear hf hm hc
 rw[hi]
 obtain⟨wA,hwA⟩:∃wA,wA=((w.alloc (.cells #[.slice A p.keepers.length cap] 35)).alloc (.cells #[.int .i64 c.kind,.int .i64 (i:Int),.string c.name,.int .i64 c.tq,.string c.cls.name,.string c.cls.super,.slice Af c.cls.fields.length cf,.slice Am c.cls.methods.length cm] 44)).alloc (.cells #[.slice none 0 0] 35):=⟨_,rfl⟩
 have hfA:Fr No w wA:=hwA▸frc
 have B1:=(hwA▸bxc:Bx wA w.heap.size 35 #[.slice A p.keepers.length cap])
 have B2:=(hwA▸bxc:Bx wA (w.heap.size+1) 44 #[.int .i64 c.kind,.int .i64 (i:Int),.string c.name,.int .i64 c.tq,.string c.cls.name,.string c.cls.super,.slice Af c.cls.fields.length cf,.slice Am c.cls.methods.length cm])
 have B3:=(hwA▸bxc:Bx wA (w.heap.size+1+1) 35 #[.slice none 0 0])
 have hsA:wA.heap.size=w.heap.size+1+1+1:=by rw[hwA];simp
 replace hwA:=Lib.hid hwA
 replace hi:=Lib.hid hi
 have q:=B1.c1
 have ql:=B1.lt
 go_enter Tryz.func19,Tryz.ntmps19
 go_wp2_with (at_builtin;refine Hid.out ?_)
 refine Lib.hid ?_
 rw[<-hwA.out]
 obtain⟨k1,e1,r1,s1⟩:=hp.raws
 have hone1:OneC k1:=OneC.of e1 r1 (fun cs x h u hu=>by obtain⟨_,_,rfl,h1,h2⟩:=h;obtain⟨_,_,rfl,_⟩:=h1.form;obtain⟨_,_,rfl,_⟩:=h2.form;simp only[List.mem_cons,List.not_mem_nil,or_false] at hu;rcases hu with rfl|rfl<;>rfl)
 have hf1:=(Fr.refl No wA).alloc (.cells #[] 67)
 refine zqF zAJ rfl _ _ rfl ⟨w.heap.size+1+1+1,0,none⟩ rfl No (.slice A p.keepers.length cap) k1 rfl (s1.rawKeep (hfA.trans0 hf1) zN) (by omega) hone1 ?_
 intro D1 d1 w2 hrow hq hf2
 simp only[Act.put,lz0,lz1,lz2]
 rw[e1] at hrow hq ⊢
 obtain⟨g,c9,cur9,e9,_,_,q0,q1,q2,hgq⟩:=hrow.at_ (by omega)
 clear q0 q1 q2
 cases e9
 have hg2:=hq g hgq
 have hf02:=hf1.trans0 hf2
 have hir:i<k1.length:=by omega
 have hK:=r1 i hir hlt
 obtain⟨_,hcell⟩:=hrow.rowAt e1 hir
 obtain⟨hgl,hcell⟩:=hcell
 have hK':=id hK
 obtain⟨vo,va,er,hO,hA⟩:=hK'
 obtain⟨Ao,co,rfl,_,_⟩:=hO.form
 obtain⟨Aa,ca,rfl,_,_⟩:=hA.form
 have x0:=hcell 0 (by omega)
 have x1:=hcell 1 (by omega)
 simp only[er,lz3,lz4,Nat.add_zero] at x0 x1
 have B2:=B2.keep hf02
 have B3:=B3.keep hf02
 have p2:=B2.c8
 have p2l:=B2.lt
 have hs02:wA.heap.size≤w2.heap.size:=hf02.size
 have hg3:wA.heap.size<g:=by rw[hg2,World.size_alloc];omega
 clear hg2
 clear s1 hone1 hcell q ql hK B1
 replace er:=Lib.hid er
 have hnn:((i:Int)<(p.keepers.length:Int)):=by omega
 obtain⟨hsx1,hsx2⟩:=hsm
 have hsx:=hsx2 _ (List.getElem_mem hlt)
 generalize hx:p.keepers[i]=x at *
 replace hx:=Lib.hid hx
 have hs2w:w.heap.size+1+1+1≤w2.heap.size:=by omega
 go_upto_region 3 with (fail)
 obtain⟨w4,hw4⟩:∃w4,w4=(w2.alloc (.cells #[.slice (some ⟨g,0,none⟩) p.keepers.length d1] 35)).alloc (.cells #[.slice Ao x.owns.length co,.slice Aa x.asks.length ca] 67):=⟨_,rfl⟩
 rw[<-hw4]
 have hf24:Fr No w2 w4:=hw4▸frc
 have B5:Bx w4 w2.heap.size 35 #[.slice (some ⟨g,0,none⟩) p.keepers.length d1]:=hw4▸bxc
 have B6:Bx w4 (w2.heap.size+1) 67 #[.slice Ao x.owns.length co,.slice Aa x.asks.length ca]:=hw4▸bxc
 have hs4:w4.heap.size=w2.heap.size+1+1:=by rw[hw4];simp
 have hF4:Fr No w w4:=(hfA.trans0 hf02).trans0 hf24
 have B2:=B2.keep hf24
 have B3:=B3.keep hf24
 obtain⟨Xq,hXq⟩:∃Xq:Nat->Prop,Xq=fun b=>w.heap.size≤b∧b<w4.heap.size:=⟨_,rfl⟩
 replace hw4:=Lib.hid hw4
 clear p2 p2l x0 x1
 have p2:=B2.c8
 have p2l:=B2.lt
 go_upto_block 0 with (fail)
 clear p2 p2l
 go_cut [] (fun wx=>KB9 Xq w4 wx (w2.heap.size+1) (zA2 c x))
 case first=>
  have p2:=B2.c8
  have p2l:=B2.lt
  have k0:=B6.c2
  have kl:=B6.lt
  have hX1:∀b,Xq b->w.heap.size≤b∧b<w4.heap.size:=fun b h=>by rw[hXq] at h;exact h
  have hX2:∀b,w.heap.size≤b->b<w4.heap.size->Xq b:=fun b h1 h2=>by rw[hXq];exact⟨h1,h2⟩
  have hXb:∀b,b=w2.heap.size+1->Xq b:=fun b e=>hX2 b (by omega) (by omega)
  have hOX:=((hO.old (R':=ClsC (fun b=>w.heap.size≤b) w) (by decide) (fun _ _ _ h=>h.old)).keep (R':=ClsC (fun b=>w.heap.size≤b) w4) hF4 zN (fun _ _ _ h=>ClsC.keep h hF4 zN)).weaken (R':=ClsC Xq w4) (fun b h=>(hX1 b h).1) (fun _ _ _ h=>ClsC.weaken h (fun b h=>(hX1 b h).1))
  have hAX:=((hA.old (R':=AskC) (by decide) (fun _ _ _ h=>h)).k0 hF4).weaken (R':=AskC) (fun b h=>(hX1 b h).1) (fun _ _ _ h=>h)
  have hclX:ClsC Xq w4 _ c.cls:=ClsC.weaken (ClsC.keep (ClsC.old hcl) hF4 zN) (fun b h=>(hX1 b h).1)
  clear hXq
  by_cases h1:c.kind=1
  ·have b1:(c.kind == 1)=true:=by rw[h1];rfl
   replace h1:=Lib.hid h1
   have hf5:=(Fr.refl No w4).alloc (.cells #[.string c.cls.name,.string c.cls.super,.slice Af c.cls.fields.length cf,.slice Am c.cls.methods.length cm] 42)
   have HO:=zBF Xq _ x.owns c.name (.slice (some ⟨w4.heap.size,0,none⟩) 1 1) [c.cls] _ (hOX.keep (R':=ClsC Xq (w4.alloc (.cells #[.string c.cls.name,.string c.cls.super,.slice Af c.cls.fields.length cf,.slice Am c.cls.methods.length cm] 42))) hf5 zN (fun _ _ _ h=>ClsC.keep h hf5 zN)) (Sl.box1 4 (Bx.new w4 42 #[.string c.cls.name,.string c.cls.super,.slice Af c.cls.fields.length cf,.slice Am c.cls.methods.length cm]) rfl (fun h=>by have:=(hX1 _ h).2;omega) (ClsC.keep hclX hf5 zN)) (fun b h=>by have:=(hX1 b h).2;rw[World.size_alloc];omega) hsx.1 (by simp)
   have ht:zA2 c x=⟨x.owns.filter (kCls c.name) ++ [c.cls],x.asks⟩:=by unfold zA2;rw[if_pos h1.out]
   replace ht:=Lib.hid ht
   rw[hs4] at HO
   go_wp2_with fail
   refine HO.mono ?_
   rintro e w6 ⟨v',rfl,hv,hf6⟩
   obtain⟨A9,c9,rfl,_,_⟩:=hv.form
   obtain⟨n9,hn9⟩:∃n9,n9=(x.owns.filter (kCls c.name) ++ [c.cls]).length:=⟨_,rfl⟩
   rw[<-hn9] at hv ⊢
   replace hn9:=Lib.hid hn9
   have hf46:=hf5.trans0 hf6
   have B6':=B6.keep hf46
   have m0:=B6'.c2
   have ml:=B6'.lt
   have mf:=B6'.frozen
   obtain⟨w7,hw7⟩:∃w7,w7=w6.setCell ⟨w2.heap.size+1,0,none⟩ (.slice A9 n9 c9):=⟨_,rfl⟩
   have hst:Fr (fun b=>b=w2.heap.size+1) w6 w7:=hw7▸Fr.cell1 _ _ _ _
   have hBN:Bx w7 (w2.heap.size+1) 67 #[.slice A9 n9 c9,.slice Aa x.asks.length ca]:=hw7▸B6'.setc rfl
   have hKN:KprC Xq w7 [.slice A9 n9 c9,.slice Aa x.asks.length ca] ⟨x.owns.filter (kCls c.name) ++ [c.cls],x.asks⟩:=⟨_,_,rfl,hv.keep (R':=ClsC Xq w7) hst hXb (fun _ _ _ h=>ClsC.keep h hst hXb),(hAX.k0 hf46).keep hst hXb (fun _ _ _ h=>h)⟩
   have hfin:=Lib.hid (show KB9 Xq w4 w7 (w2.heap.size+1) (zA2 c x) from by
    rw[ht.out]
    exact⟨_,_,_,_,_,_,hBN,hKN,(Fr.of0 hf46).same hst⟩)
   replace hw7:=Lib.hid hw7
   clear HO hv hf6 hst hf5 hf46 B6' hBN hKN
   go_wp2_with fail
   go_meet
   rw[hw7.out] at hfin
   exact hfin.out
  ·have b1:(c.kind == 1)=false:=beq_eq_false_iff_ne.2 h1
   by_cases h2:c.kind=2
   ·have b2:(c.kind == 2)=true:=by rw[h2];rfl
    replace h2:=Lib.hid h2
    replace h1:=Lib.hid h1
    have hf5:=(Fr.refl No w4).alloc (.cells #[] 42)
    have HO:=zBF Xq _ x.owns c.name (.slice (some ⟨w4.heap.size,0,none⟩) 0 0) ([]:List Cls) _ (hOX.keep (R':=ClsC Xq (w4.alloc (.cells #[] 42))) hf5 zN (fun _ _ _ h=>ClsC.keep h hf5 zN)) (Sl.box0 _ 4) (fun b h=>by have:=(hX1 b h).2;rw[World.size_alloc];omega) hsx.1 (by simp)
    have ht:zA2 c x=⟨x.owns.filter (kCls c.name) ++ [],x.asks⟩:=by unfold zA2;rw[if_neg h1.out,if_pos h2.out];simp only[List.append_nil]
    replace ht:=Lib.hid ht
    rw[hs4] at HO
    go_wp2_with fail
    refine HO.mono ?_
    rintro e w6 ⟨v',rfl,hv,hf6⟩
    obtain⟨A9,c9,rfl,_,_⟩:=hv.form
    obtain⟨n9,hn9⟩:∃n9,n9=(x.owns.filter (kCls c.name) ++ ([]:List Cls)).length:=⟨_,rfl⟩
    rw[<-hn9] at hv ⊢
    replace hn9:=Lib.hid hn9
    have hf46:=hf5.trans0 hf6
    have B6':=B6.keep hf46
    have m0:=B6'.c2
    have ml:=B6'.lt
    have mf:=B6'.frozen
    obtain⟨w7,hw7⟩:∃w7,w7=w6.setCell ⟨w2.heap.size+1,0,none⟩ (.slice A9 n9 c9):=⟨_,rfl⟩
    have hst:Fr (fun b=>b=w2.heap.size+1) w6 w7:=hw7▸Fr.cell1 _ _ _ _
    have hBN:Bx w7 (w2.heap.size+1) 67 #[.slice A9 n9 c9,.slice Aa x.asks.length ca]:=hw7▸B6'.setc rfl
    have hKN:KprC Xq w7 [.slice A9 n9 c9,.slice Aa x.asks.length ca] ⟨x.owns.filter (kCls c.name) ++ [],x.asks⟩:=⟨_,_,rfl,hv.keep (R':=ClsC Xq w7) hst hXb (fun _ _ _ h=>ClsC.keep h hst hXb),(hAX.k0 hf46).keep hst hXb (fun _ _ _ h=>h)⟩
    have hfin:=Lib.hid (show KB9 Xq w4 w7 (w2.heap.size+1) (zA2 c x) from by
     rw[ht.out]
     exact⟨_,_,_,_,_,_,hBN,hKN,(Fr.of0 hf46).same hst⟩)
    replace hw7:=Lib.hid hw7
    clear HO hv hf6 hst hf5 hf46 B6' hBN hKN
    go_wp2_with fail
    go_meet
    rw[hw7.out] at hfin
    exact hfin.out
   ·have b2:(c.kind == 2)=false:=beq_eq_false_iff_ne.2 h2
    by_cases h3:c.kind=3
    ·have b3:(c.kind == 3)=true:=by rw[h3];rfl
     replace h3:=Lib.hid h3
     have hf5:=(Fr.refl No w4).alloc (.cells #[.string c.name,.int .i64 c.tq] 86)
     have HO:=zBG Xq _ x.asks c.name (.slice (some ⟨w4.heap.size,0,none⟩) 1 1) [(⟨c.name,c.tq⟩:Ask)] _ (hAX.k0 hf5) (Sl.box1 2 (Bx.new w4 86 #[.string c.name,.int .i64 c.tq]) rfl (fun h=>by have:=(hX1 _ h).2;omega) ⟨rfl,hz0⟩) (fun b h=>by have:=(hX1 b h).2;rw[World.size_alloc];omega) hsx.2.1 (by simp)
     have ht:zA2 c x=⟨x.owns,x.asks.filter (kAsk c.name) ++ [⟨c.name,c.tq⟩]⟩:=by unfold zA2;rw[if_neg h1,if_neg h2,if_pos h3.out]
     replace ht:=Lib.hid ht
     rw[hs4] at HO
     go_wp2_with fail
     refine HO.mono ?_
     rintro e w6 ⟨v',rfl,hv,hf6⟩
     obtain⟨A9,c9,rfl,_,_⟩:=hv.form
     obtain⟨n9,hn9⟩:∃n9,n9=(x.asks.filter (kAsk c.name) ++ [(⟨c.name,c.tq⟩:Ask)]).length:=⟨_,rfl⟩
     rw[<-hn9] at hv ⊢
     replace hn9:=Lib.hid hn9
     have hf46:=hf5.trans0 hf6
     have B6':=B6.keep hf46
     have m0:=B6'.c2
     have ml:=B6'.lt
     have mf:=B6'.frozen
     obtain⟨w7,hw7⟩:∃w7,w7=w6.setCell ⟨w2.heap.size+1,1,none⟩ (.slice A9 n9 c9):=⟨_,rfl⟩
     have hst:Fr (fun b=>b=w2.heap.size+1) w6 w7:=hw7▸Fr.cell1 _ _ _ _
     have hBN:Bx w7 (w2.heap.size+1) 67 #[.slice Ao x.owns.length co,.slice A9 n9 c9]:=hw7▸B6'.setc rfl
     have hKN:KprC Xq w7 [.slice Ao x.owns.length co,.slice A9 n9 c9] ⟨x.owns,x.asks.filter (kAsk c.name) ++ [⟨c.name,c.tq⟩]⟩:=⟨_,_,rfl,(hOX.keep (R':=ClsC Xq w6) hf46 zN (fun _ _ _ h=>ClsC.keep h hf46 zN)).keep hst hXb (fun _ _ _ h=>ClsC.keep h hst hXb),hv.keep hst hXb (fun _ _ _ h=>h)⟩
     have hfin:=Lib.hid (show KB9 Xq w4 w7 (w2.heap.size+1) (zA2 c x) from by
      rw[ht.out]
      exact⟨_,_,_,_,_,_,hBN,hKN,(Fr.of0 hf46).same hst⟩)
     replace hw7:=Lib.hid hw7
     clear HO hv hf6 hst hf5 hf46 B6' hBN hKN
     go_wp2_with fail
     go_meet
     rw[hw7.out] at hfin
     exact hfin.out
    ·have b3:(c.kind == 3)=false:=beq_eq_false_iff_ne.2 h3
     have hf5:=(Fr.refl No w4).alloc (.cells #[] 86)
     have HO:=zBG Xq _ x.asks c.name (.slice (some ⟨w4.heap.size,0,none⟩) 0 0) ([]:List Ask) _ (hAX.k0 hf5) (Sl.box0 _ 2) (fun b h=>by have:=(hX1 b h).2;rw[World.size_alloc];omega) hsx.2.1 (by simp)
     have ht:zA2 c x=⟨x.owns,x.asks.filter (kAsk c.name) ++ []⟩:=by unfold zA2;rw[if_neg h1,if_neg h2,if_neg h3];simp only[List.append_nil]
     replace ht:=Lib.hid ht
     rw[hs4] at HO
     go_wp2_with fail
     refine HO.mono ?_
     rintro e w6 ⟨v',rfl,hv,hf6⟩
     obtain⟨A9,c9,rfl,_,_⟩:=hv.form
     obtain⟨n9,hn9⟩:∃n9,n9=(x.asks.filter (kAsk c.name) ++ ([]:List Ask)).length:=⟨_,rfl⟩
     rw[<-hn9] at hv ⊢
     replace hn9:=Lib.hid hn9
     have hf46:=hf5.trans0 hf6
     have B6':=B6.keep hf46
     have m0:=B6'.c2
     have ml:=B6'.lt
     have mf:=B6'.frozen
     obtain⟨w7,hw7⟩:∃w7,w7=w6.setCell ⟨w2.heap.size+1,1,none⟩ (.slice A9 n9 c9):=⟨_,rfl⟩
     have hst:Fr (fun b=>b=w2.heap.size+1) w6 w7:=hw7▸Fr.cell1 _ _ _ _
     have hBN:Bx w7 (w2.heap.size+1) 67 #[.slice Ao x.owns.length co,.slice A9 n9 c9]:=hw7▸B6'.setc rfl
     have hKN:KprC Xq w7 [.slice Ao x.owns.length co,.slice A9 n9 c9] ⟨x.owns,x.asks.filter (kAsk c.name) ++ []⟩:=⟨_,_,rfl,(hOX.keep (R':=ClsC Xq w6) hf46 zN (fun _ _ _ h=>ClsC.keep h hf46 zN)).keep hst hXb (fun _ _ _ h=>ClsC.keep h hst hXb),hv.keep hst hXb (fun _ _ _ h=>h)⟩
     have hfin:=Lib.hid (show KB9 Xq w4 w7 (w2.heap.size+1) (zA2 c x) from by
      rw[ht.out]
      exact⟨_,_,_,_,_,_,hBN,hKN,(Fr.of0 hf46).same hst⟩)
     replace hw7:=Lib.hid hw7
     clear HO hv hf6 hst hf5 hf46 B6' hBN hKN
     go_wp2_with fail
     go_meet
     rw[hw7.out] at hfin
     exact hfin.out
 case rest=>
  obtain⟨A6,n6,c6,A7,n7,c7,hB6,hK6,hf47⟩:=hcut
  have B2:=B2.keepX hf47 (by omega)
  have B3:=B3.keepX hf47 (by omega)
  have B5:=B5.keepX hf47 (by omega)
  have hrowc:=(hrow.keep0 hf24).keep hf47 (fun q h e=>by rw[hgq] at h;cases h;omega)
  have hgX:∀b,b=g->Xq b:=fun b e=>by rw[hXq];exact⟨by omega,by omega⟩
  have hzX:∀b,b=w.heap.size+1+1->Xq b:=fun b e=>by rw[hXq];exact⟨by omega,by omega⟩
  have hF7:Fr No w wc:=hF4.trans hf47 (fun b hb e=>by omega)
  have p2:=B2.c8
  have p2l:=B2.lt
  have k0:=hB6.c2
  have kl:=hB6.lt
  have q0:=B5.c1
  have ql:=B5.lt
  clear hf47 hf24 hO hA hcl hF4 hf02 hXq B6
  go_upto_region 11 with (fail)
  iterate 19 go_step
  refine wpList_store_row rfl 67 (.tmp 66) (.tmp 65) rfl 2 (by kernel_rfl) g p.keepers.length d1 i 67 k1 [.slice A6 n6 c6,.slice A7 n7 c7] rfl rfl hrowc e1 hir rfl (by simp[Value.oneCell']) ?_
  intro w9 hrow9 hc9
  simp only[Act.put]
  have B3:=B3.keepX hc9 (by omega)
  have B5:=B5.keepX hc9 (by omega)
  have hF9:Fr No w w9:=hF7.trans hc9 (fun b hb e=>by omega)
  have hK9:=KprC.keep hK6 hc9 hgX
  have q0:=B5.c1
  have ql:=B5.lt
  have m0:=B3.c1
  have ml:=B3.lt
  have mf:=B3.frozen
  obtain⟨w10,hw10⟩:∃w10,w10=w9.setCell ⟨w.heap.size+1+1,0,none⟩ (.slice (some ⟨g,0,none⟩) p.keepers.length d1):=⟨_,rfl⟩
  have hst:Fr (fun b=>b=w.heap.size+1+1) w9 w10:=hw10▸Fr.cell1 _ _ _ _
  have hF10:Fr No w w10:=hF9.trans hst (fun b hb e=>by omega)
  have hrow10:=hrow9.keep hst (fun q h e=>by rw[hgq] at h;cases h;omega)
  have hK10:=(KprC.keep hK9 hst hzX).weaken (Y:=No) zN
  have hfin:=Lib.hid (show zBH (p.keepers.set i (zA2 c x)) w (.returned (.agg #[.slice (some ⟨g,0,none⟩) p.keepers.length d1])) w10 from
   ⟨_,rfl,RowV.rawSl (ks:=k1.set i ⟨[.slice A6 n6 c6,.slice A7 n7 c7],rfl⟩) (by rw[List.length_set];exact hrow10) (by simp[e1]) (fun j a b=>by
    by_cases he:j=i
    ·subst he
     rw[List.getElem_set_self,List.getElem_set_self]
     exact hK10
    ·rw[List.getElem_set_ne (fun e=>he e.symm),List.getElem_set_ne (fun e=>he e.symm)]
     exact KprC.keep (r1 j (by simpa using a) (by simpa using b)) hF10 zN) (fun _ _ h=>h),hF10⟩)
  clear p2 p2l k0 kl hK6 hK9 hK10 hrow9 hrow10 hrowc hrow hF9 hF7 hst hc9 r1 hB6 hF10
  go_wp2_with fail
  refine bodyPost_ret (v:=.agg #[.slice (some ⟨g,0,none⟩) p.keepers.length d1]) (by simp[results,Tryz.results19,go_sem, *]) rfl ?_
  rw[hw10,<-hx.out] at hfin
  exact hfin.out
end Go.Proofs.YtpghfhjhjlmljaaGreat
