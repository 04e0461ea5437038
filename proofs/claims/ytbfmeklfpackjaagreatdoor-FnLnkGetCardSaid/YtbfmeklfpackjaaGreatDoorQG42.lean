/- The draws: keepers one of which is turned, in memory: what is known meanwhile. -/
import Derived.Test.YtbfmeklfpackjaaGreatDoorQG41
namespace Go.Proofs.YtbfmeklfpackjaaGreatDoor
open Go.RowKit
theorem RowV.ne2 {w:World} {e e':TypeId} {sz sz' n n':Nat} {v v':Value} {xs xs':List Value} (h:RowV w e sz v n xs) (h':RowV w e' sz' v' n' xs') (hne:e≠e') {b:Nat} (hb:zcP v=some b):zcP v'≠some b:=by
 intro hb'
 rcases h' with ⟨_,⟨rfl,rfl⟩ | ⟨g,cap,cur,rfl,_,h2,_⟩⟩ | ⟨rfl,rfl,A,rfl⟩
 ·cases hb'
 ·have h2':Bx w g e' cur:=h2
  rw[zcQ] at hb'
  split at hb'
  ·cases hb'
  ·cases hb'
   exact h.ne h2' hne hb rfl
 ·rw[zcQ,if_pos rfl] at hb';cases hb'
abbrev zuD:TypeId:=87
abbrev zuE:TypeId:=41
abbrev zuF:TypeId:=101
abbrev zuG:TypeId:=25
def ZO (lo b5 b7 g:Nat) (TK:Nat->Prop) (b:Nat):Prop:=b<lo∨b=b5∨b=b7∨b=g∨TK b
structure OT (rb q lo b5 b7 k g n c:Nat) (w wx:World) (ks:List Kpr) (x:Kpr) (Ao Aa:Option Addr) (co ca:Nat) (TK:Nat->Prop):Prop where
 p5:Bx wx b5 zuG #[.slice (some ⟨g,0,none⟩) n c]
 p7:Bx wx b7 zuD #[.slice Ao x.owns.length co,.slice Aa x.asks.length ca]
 rows:∃rows:List (Raw 2),rows.length=n∧RowV wx zuD 2 (.slice (some ⟨g,0,none⟩) n c) n (rawL rows)∧∀i (h1:i<rows.length) (h2:i<ks.length),i≠k->KprC (ZO lo b5 b7 g TK) wx rows[i].1 ks[i]
 hn:n=ks.length∧k<n
 hg:lo≤g∧g≠b5∧g≠b7
 ho:RRow zuE 4 (ClsC (ZO lo b5 b7 g TK) wx) wx lo (.slice Ao x.owns.length co) x.owns
 ha:RRow zuF 2 AskC wx lo (.slice Aa x.asks.length ca) x.asks
 tk:∀b,ztV [.slice Ao x.owns.length co,.slice Aa x.asks.length ca] b->TK b
 tn:∀b,TK b->lo≤b∧b≠g∧b≠b5∧b≠b7
 tl:∀b,TK b->b<wx.heap.size
 r:RdB wx rb q
 f:Fr (fun b=>b=rb) w wx
 z:Bx wx w.heap.size zuG #[.slice none 0 0]
 hl:rb<w.heap.size∧w.heap.size<lo∧lo≤b5∧lo≤b7∧b5≠b7
section
variable {rb q q' lo b5 b7 k g n c:Nat} {w wx W:World} {ks:List Kpr} {x:Kpr} {Ao Aa:Option Addr} {co ca:Nat} {TK:Nat->Prop}
theorem OT.tops (h:OT rb q lo b5 b7 k g n c w wx ks x Ao Aa co ca TK):(∀b,zcP (.slice Ao x.owns.length co)=some b->TK b)∧∀b,zcP (.slice Aa x.asks.length ca)=some b->TK b:=
 ⟨fun b hb=>h.tk b ⟨_,by simp,hb⟩,fun b hb=>h.tk b ⟨_,by simp,hb⟩⟩
theorem OT.step (h:OT rb q lo b5 b7 k g n c w wx ks x Ao Aa co ca TK) (hf:Fr (fun b=>b=rb) wx W) (hr:RdB W rb q'):OT rb q' lo b5 b7 k g n c w W ks x Ao Aa co ca TK:=by
 obtain⟨l1,l2,l3,l4,l5⟩:=h.hl
 have hlo:∀b,b=rb->b<lo:=fun b e=>by omega
 obtain⟨rows,h1,h2,h3⟩:=h.rows
 obtain⟨g1,g2,g3⟩:=h.hg
 exact⟨h.p5.keepX hf (by omega),h.p7.keepX hf (by omega),⟨rows,h1,h2.keep hf (fun b hb e=>by rw[zcQ] at hb;split at hb;cases hb;cases hb;dsimp only at e;omega),fun i a b hi=>(h3 i a b hi).keep hf (fun b e=>.inl (hlo b e))⟩,h.hn,h.hg,
  h.ho.keep hf (fun b hb e=>by have:=(h.tn b (h.tops.1 b hb)).1;omega) (fun _ _ _ h=>h.keep hf (fun b e=>.inl (hlo b e))),h.ha.keep hf (fun b hb e=>by have:=(h.tn b (h.tops.2 b hb)).1;omega) (fun _ _ _ h=>h),h.tk,h.tn,fun b hb=>Nat.lt_of_lt_of_le (h.tl b hb) hf.size,hr,h.f.same hf,h.z.keepX hf (by omega),h.hl⟩
theorem OT.keep (h:OT rb q lo b5 b7 k g n c w wx ks x Ao Aa co ca TK) (hf:Fr No wx W):OT rb q lo b5 b7 k g n c w W ks x Ao Aa co ca TK:=h.step hf.of0 (h.r.keep hf)
theorem OT.up (h:OT rb q lo b5 b7 k g n c w wx ks x Ao Aa co ca TK) (hq:q≤q'):OT rb q' lo b5 b7 k g n c w wx ks x Ao Aa co ca TK:=⟨h.p5,h.p7,h.rows,h.hn,h.hg,h.ho,h.ha,h.tk,h.tn,h.tl,h.r.up hq,h.f,h.z,h.hl⟩
theorem OT.asks (h:OT rb q lo b5 b7 k g n c w wx ks x Ao Aa co ca TK) (hf:Fr (fun b=>b=rb∨zcP (.slice Aa x.asks.length ca)=some b∨wx.heap.size≤b) wx W) (hr9:RdB W rb q') {A':Option Addr} {c':Nat} {aks:List Ask}
  (hrow:RRow zuF 2 AskC W lo (.slice A' aks.length c') aks) (hb:∀b,zcP (.slice A' aks.length c')=some b->zcP (.slice Aa x.asks.length ca)=some b∨wx.heap.size≤b):
  OT rb q' lo b5 b7 k g n c w (W.setCell ⟨b7,1,none⟩ (.slice A' aks.length c')) ks { x with asks:=aks } Ao A' co c' (fun b=>TK b∨wx.heap.size≤b∧zcP (.slice A' aks.length c')=some b):=by
 obtain⟨l1,l2,l3,l4,l5⟩:=h.hl
 obtain⟨rows,h1,h2,h3⟩:=h.rows
 obtain⟨g1,g2,g3⟩:=h.hg
 have d5:=h.p5.lt
 have d7:=h.p7.lt
 have dz:=h.z.lt
 have drb:=h.r.lt
 have hgl:g<wx.heap.size:=by
  have h0:0<n:=by have:=h.hn;omega
  obtain⟨g',c9,cur,he,e1,e2,e3,_⟩:=h2.at_ h0
  cases he
  exact e3.lt
 have hp:=Fr.put1 b7 1 (.slice A' aks.length c') W
 -- what was there, and is not the asks' row, stays
 have hX:∀b,b<wx.heap.size->¬zcP (.slice Aa x.asks.length ca)=some b->b≠rb->¬(b=rb∨zcP (.slice Aa x.asks.length ca)=some b∨wx.heap.size≤b):=fun b h1 h2 h0 h3=>h3.elim h0 (fun h3=>h3.elim h2 (fun h=>by omega))
 have hTa:=h.tops.2
 have hne:∀b,(b<lo∨b=b5∨b=b7∨b=g)->¬zcP (.slice Aa x.asks.length ca)=some b:=fun b hb h9=>by
  have:=h.tn b (hTa b h9)
  rcases hb with e|e|e|e<;>omega
 have hwid:∀b,(ZO lo b5 b7 g TK b∨wx.heap.size≤b)->b<wx.heap.size->ZO lo b5 b7 g TK b:=fun b h1 h2=>h1.resolve_right (by omega)
 have hkeep:∀b,(b=rb∨zcP (.slice Aa x.asks.length ca)=some b∨wx.heap.size≤b)->ZO lo b5 b7 g TK b∨wx.heap.size≤b:=fun b h1=>h1.elim (fun e=>.inl (.inl (by have:=h.hl;omega))) (fun h1=>h1.imp (fun h=>.inr (.inr (.inr (.inr (hTa b h))))) id)
 have hnew:∀b,ZO lo b5 b7 g (fun b=>TK b∨wx.heap.size≤b∧zcP (.slice A' aks.length c')=some b) b->ZO lo b5 b7 g TK b∨wx.heap.size≤b:=by
  rintro b (e|e|e|e|e|e)
  ·exact .inl (.inl e)
  ·exact .inl (.inr (.inl e))
  ·exact .inl (.inr (.inr (.inl e)))
  ·exact .inl (.inr (.inr (.inr (.inl e))))
  ·exact .inl (.inr (.inr (.inr (.inr e))))
  ·exact .inr e.1
 have h7:∀b,b=b7->ZO lo b5 b7 g (fun b=>TK b∨wx.heap.size≤b∧zcP (.slice A' aks.length c')=some b) b:=fun b e=>.inr (.inr (.inl e))
 have hrr:=hrow
 obtain⟨js,j1,j2,j3,j4⟩:=hrow
 obtain⟨qs,o1,o2,o3,o4⟩:=h.ho
 obtain⟨as0,a1,a2,a3,a4⟩:=h.ha
 have hvo:∀b,zcP (.slice Ao x.owns.length co)=some b->¬(b=rb∨zcP (.slice Aa x.asks.length ca)=some b∨wx.heap.size≤b):=fun b hb=>hX b (o2.lt hb) (o2.ne2 a2 (by decide) hb) (by have:=o3 b hb;omega)
 have hv7:∀b,zcP (.slice A' aks.length c')=some b->b≠b7:=fun b hq e=>by
  subst e
  rcases hb _ hq with h9|h9
  ·exact hne _ (.inr (.inr (.inl rfl))) h9
  ·omega
 refine⟨(h.p5.keepX hf (hX _ d5 (hne _ (.inr (.inl rfl))) (by omega))).keepX hp (by omega),(h.p7.keepX hf (hX _ d7 (hne _ (.inr (.inr (.inl rfl)))) (by omega))).set_ 1 _,⟨rows,h1,(h2.keep hf (fun b hb=>?_)).keep hp (fun b hb e=>?_),fun i a b hi=>?_⟩,h.hn,h.hg,?_,?_,?_,?_,?_,?_,?_,?_,h.hl⟩
 ·rw[zcQ] at hb;split at hb;cases hb;cases hb;exact hX _ hgl (hne _ (.inr (.inr (.inr rfl)))) (by dsimp only;omega)
 ·rw[zcQ] at hb;split at hb;cases hb;cases hb;dsimp only at e;omega
 ·exact((((h3 i a b hi).wid hwid).keep hf hkeep).weaken hnew).keep hp h7
 ·refine⟨qs,o1,(o2.keep hf hvo).keep hp (fun b hb e=>by have:=h.tn b (h.tops.1 b hb);omega),o3,fun i a b=>?_⟩
  exact((((o4 i a b).wid hwid).keep hf hkeep).weaken hnew).keep hp h7
 ·exact hrr.keep hp hv7 (fun _ _ _ h=>h)
 ·rintro b ⟨u,hu,hq⟩
  simp only[List.mem_cons,List.not_mem_nil,or_false] at hu
  rcases hu with rfl|rfl
  ·exact .inl (h.tops.1 b hq)
  ·rcases hb b hq with h9|h9
   ·exact .inl (hTa b h9)
   ·exact .inr ⟨h9,hq⟩
 ·rintro b (hb | ⟨hb,hq⟩)
  ·exact h.tn b hb
  ·refine⟨j3 b hq,by omega,by omega,by omega⟩
 ·rintro b (hb9 | ⟨hb9,hq⟩)
  ·exact Nat.lt_of_lt_of_le (Nat.lt_of_lt_of_le (h.tl b hb9) hf.size) hp.size
  ·exact Nat.lt_of_lt_of_le (j2.lt hq) hp.size
 ·exact hr9.far hp (fun b e=>by omega)
 ·refine(h.f.trans hf (fun b hb e=>?_)).trans hp (fun b hb e=>by omega)
  rcases e with e|e|e
  ·exact e
  ·have:=(h.tn b (hTa b e)).1;omega
  ·have:=h.f.size;omega
 ·exact(h.z.keepX hf (hX _ dz (hne _ (.inl (by omega))) (by omega))).keepX hp (by omega)
theorem OT.owns (h:OT rb q lo b5 b7 k g n c w wx ks x Ao Aa co ca TK) (hf:Fr (fun b=>b=rb∨zcP (.slice Ao x.owns.length co)=some b∨wx.heap.size≤b) wx W) (hr9:RdB W rb q') {A':Option Addr} {c':Nat} {aks:List Cls}
  (hrow:RRow zuE 4 (ClsC (fun b=>ZO lo b5 b7 g TK b∨wx.heap.size≤b∧zcP (.slice A' aks.length c')=some b) W) W lo (.slice A' aks.length c') aks) (hb:∀b,zcP (.slice A' aks.length c')=some b->zcP (.slice Ao x.owns.length co)=some b∨wx.heap.size≤b):
  OT rb q' lo b5 b7 k g n c w (W.setCell ⟨b7,0,none⟩ (.slice A' aks.length c')) ks { x with owns:=aks } A' Aa c' ca (fun b=>TK b∨wx.heap.size≤b∧zcP (.slice A' aks.length c')=some b):=by
 obtain⟨l1,l2,l3,l4,l5⟩:=h.hl
 obtain⟨rows,h1,h2,h3⟩:=h.rows
 obtain⟨g1,g2,g3⟩:=h.hg
 have d5:=h.p5.lt
 have d7:=h.p7.lt
 have dz:=h.z.lt
 have drb:=h.r.lt
 have hgl:g<wx.heap.size:=by
  have h0:0<n:=by have:=h.hn;omega
  obtain⟨g',c9,cur,he,e1,e2,e3,_⟩:=h2.at_ h0
  cases he
  exact e3.lt
 have hp:=Fr.put1 b7 0 (.slice A' aks.length c') W
 -- what was there, and is not the asks' row, stays
 have hX:∀b,b<wx.heap.size->¬zcP (.slice Ao x.owns.length co)=some b->b≠rb->¬(b=rb∨zcP (.slice Ao x.owns.length co)=some b∨wx.heap.size≤b):=fun b h1 h2 h0 h3=>h3.elim h0 (fun h3=>h3.elim h2 (fun h=>by omega))
 have hTa:=h.tops.1
 have hne:∀b,(b<lo∨b=b5∨b=b7∨b=g)->¬zcP (.slice Ao x.owns.length co)=some b:=fun b hb h9=>by
  have:=h.tn b (hTa b h9)
  rcases hb with e|e|e|e<;>omega
 have hwid:∀b,(ZO lo b5 b7 g TK b∨wx.heap.size≤b)->b<wx.heap.size->ZO lo b5 b7 g TK b:=fun b h1 h2=>h1.resolve_right (by omega)
 have hkeep:∀b,(b=rb∨zcP (.slice Ao x.owns.length co)=some b∨wx.heap.size≤b)->ZO lo b5 b7 g TK b∨wx.heap.size≤b:=fun b h1=>h1.elim (fun e=>.inl (.inl (by have:=h.hl;omega))) (fun h1=>h1.imp (fun h=>.inr (.inr (.inr (.inr (hTa b h))))) id)
 have hnew:∀b,ZO lo b5 b7 g (fun b=>TK b∨wx.heap.size≤b∧zcP (.slice A' aks.length c')=some b) b->ZO lo b5 b7 g TK b∨wx.heap.size≤b:=by
  rintro b (e|e|e|e|e|e)
  ·exact .inl (.inl e)
  ·exact .inl (.inr (.inl e))
  ·exact .inl (.inr (.inr (.inl e)))
  ·exact .inl (.inr (.inr (.inr (.inl e))))
  ·exact .inl (.inr (.inr (.inr (.inr e))))
  ·exact .inr e.1
 have h7:∀b,b=b7->ZO lo b5 b7 g (fun b=>TK b∨wx.heap.size≤b∧zcP (.slice A' aks.length c')=some b) b:=fun b e=>.inr (.inr (.inl e))
 have hrr:=hrow
 obtain⟨js,j1,j2,j3,j4⟩:=hrow
 obtain⟨qs,o1,o2,o3,o4⟩:=h.ho
 obtain⟨as0,a1,a2,a3,a4⟩:=h.ha
 have hvo:∀b,zcP (.slice Aa x.asks.length ca)=some b->¬(b=rb∨zcP (.slice Ao x.owns.length co)=some b∨wx.heap.size≤b):=fun b hb=>hX b (a2.lt hb) (a2.ne2 o2 (by decide) hb) (by have:=a3 b hb;omega)
 have hv7:∀b,zcP (.slice A' aks.length c')=some b->b≠b7:=fun b hq e=>by
  subst e
  rcases hb _ hq with h9|h9
  ·exact hne _ (.inr (.inr (.inl rfl))) h9
  ·omega
 refine⟨(h.p5.keepX hf (hX _ d5 (hne _ (.inr (.inl rfl))) (by omega))).keepX hp (by omega),(h.p7.keepX hf (hX _ d7 (hne _ (.inr (.inr (.inl rfl)))) (by omega))).set_ 0 _,⟨rows,h1,(h2.keep hf (fun b hb=>?_)).keep hp (fun b hb e=>?_),fun i a b hi=>?_⟩,h.hn,h.hg,?_,?_,?_,?_,?_,?_,?_,?_,h.hl⟩
 ·rw[zcQ] at hb;split at hb;cases hb;cases hb;exact hX _ hgl (hne _ (.inr (.inr (.inr rfl)))) (by dsimp only;omega)
 ·rw[zcQ] at hb;split at hb;cases hb;cases hb;dsimp only at e;omega
 ·exact((((h3 i a b hi).wid hwid).keep hf hkeep).weaken hnew).keep hp h7
 ·refine⟨js,j1,j2.keep hp hv7,j3,fun i a b=>?_⟩
  refine((j4 i a b).keep hp (fun b e=>.inl (.inr (.inr (.inl e))))).weaken ?_
  rintro b (e|e|e|e|e|e)
  ·exact .inl (.inl e)
  ·exact .inl (.inr (.inl e))
  ·exact .inl (.inr (.inr (.inl e)))
  ·exact .inl (.inr (.inr (.inr (.inl e))))
  ·exact .inl (.inr (.inr (.inr (.inr e))))
  ·exact .inr e
 ·exact⟨as0,a1,(a2.keep hf hvo).keep hp (fun b hb e=>by have:=h.tn b (h.tops.2 b hb);omega),a3,a4⟩
 ·rintro b ⟨u,hu,hq⟩
  simp only[List.mem_cons,List.not_mem_nil,or_false] at hu
  rcases hu with rfl|rfl
  ·rcases hb b hq with h9|h9
   ·exact .inl (hTa b h9)
   ·exact .inr ⟨h9,hq⟩
  ·exact .inl (h.tops.2 b hq)
 ·rintro b (hb | ⟨hb,hq⟩)
  ·exact h.tn b hb
  ·refine⟨j3 b hq,by omega,by omega,by omega⟩
 ·rintro b (hb9 | ⟨hb9,hq⟩)
  ·exact Nat.lt_of_lt_of_le (Nat.lt_of_lt_of_le (h.tl b hb9) hf.size) hp.size
  ·exact Nat.lt_of_lt_of_le (j2.lt hq) hp.size
 ·exact hr9.far hp (fun b e=>by omega)
 ·refine(h.f.trans hf (fun b hb e=>?_)).trans hp (fun b hb e=>by omega)
  rcases e with e|e|e
  ·exact e
  ·have:=(h.tn b (hTa b e)).1;omega
  ·have:=h.f.size;omega
 ·exact(h.z.keepX hf (hX _ dz (hne _ (.inl (by omega))) (by omega))).keepX hp (by omega)
theorem OT.more (h:OT rb q lo b5 b7 k g n c w wx ks x Ao Aa co ca TK) {g' c':Nat} {rows:List (Raw 2)} (h1:rows.length=n) (hR:∀i (h1:i<rows.length) (h2:i<ks.length),i≠k->KprC (ZO lo b5 b7 g TK) wx rows[i].1 ks[i]) (hf:Fr (fun b=>b=g∨wx.heap.size≤b) wx W)
  (hrow:RowV W zuD 2 (.slice (some ⟨g',0,none⟩) (n+1) c') (n+1) (rawL (rows ++ [(⟨[.slice none 0 0,.slice none 0 0],rfl⟩:Raw 2)]))) (hb:g'=g∨wx.heap.size≤g'):
  OT rb q lo b5 b7 k g' (n+1) c' w (W.setCell ⟨b5,0,none⟩ (.slice (some ⟨g',0,none⟩) (n+1) c')) (ks ++ [⟨[],[]⟩]) x Ao Aa co ca TK:=by
 obtain⟨l1,l2,l3,l4,l5⟩:=h.hl
 obtain⟨g1,g2,g3⟩:=h.hg
 obtain⟨n1,n2⟩:=h.hn
 have d5:=h.p5.lt
 have d7:=h.p7.lt
 have dz:=h.z.lt
 have drb:=h.r.lt
 have hp:=Fr.put1 b5 0 (.slice (some ⟨g',0,none⟩) (n+1) c') W
 have hX:∀b,b<wx.heap.size->b≠g->¬(b=g∨wx.heap.size≤b):=fun b h1 h2 h3=>h3.elim h2 (fun h=>by omega)
 have hwid:∀b,(ZO lo b5 b7 g TK b∨wx.heap.size≤b)->b<wx.heap.size->ZO lo b5 b7 g TK b:=fun b h1 h2=>h1.resolve_right (by omega)
 have hkeep:∀b,(b=g∨wx.heap.size≤b)->ZO lo b5 b7 g TK b∨wx.heap.size≤b:=fun b h1=>h1.imp (fun h=>.inr (.inr (.inr (.inl h)))) id
 have hnew:∀b,ZO lo b5 b7 g' TK b->ZO lo b5 b7 g TK b∨wx.heap.size≤b:=by
  rintro b (e|e|e|e|e)
  ·exact .inl (.inl e)
  ·exact .inl (.inr (.inl e))
  ·exact .inl (.inr (.inr (.inl e)))
  ·subst e
   rcases hb with e|e
   ·exact .inl (.inr (.inr (.inr (.inl e))))
   ·exact .inr e
  ·exact .inl (.inr (.inr (.inr (.inr e))))
 have h5:∀b,b=b5->ZO lo b5 b7 g' TK b:=fun b e=>.inr (.inl e)
 have hTg:∀b,TK b->b≠g':=fun b hb' e=>by
  have:=h.tn b hb'
  have:=h.tl b hb'
  rcases hb with e'|e'<;>omega
 refine⟨(h.p5.keepX hf (hX _ d5 (by omega))).set_ 0 _,(h.p7.keepX hf (hX _ d7 (by omega))).keepX hp (by omega),⟨_,by simp[h1],hrow.keep hp (fun b hb' e=>?_),fun i a b hi=>?_⟩,⟨by simp[n1],by omega⟩,⟨by omega,by omega,by omega⟩,?_,?_,h.tk,fun b hb'=>⟨(h.tn b hb').1,hTg b hb',(h.tn b hb').2.2⟩,fun b hb'=>Nat.lt_of_lt_of_le (Nat.lt_of_lt_of_le (h.tl b hb') hf.size) hp.size,?_,?_,?_,h.hl⟩
 ·rw[zcQ] at hb';split at hb';cases hb';cases hb';dsimp only at e;omega
 ·by_cases hi2:i<rows.length
  ·rw[List.getElem_append_left hi2,List.getElem_append_left (by omega)]
   exact((((hR i hi2 (by omega) hi).wid hwid).keep hf hkeep).weaken hnew).keep hp h5
  ·have e:i=rows.length:=by simp at a;omega
   subst e
   rw[List.getElem_append_right (Nat.le_refl _),List.getElem_append_right (by omega)]
   simp only[Nat.sub_self,h1,n1,List.getElem_cons_zero]
   exact⟨_,_,rfl,Sl.nil _ _ _ _,Sl.nil _ _ _ _⟩
 ·obtain⟨qs,o1,o2,o3,o4⟩:=h.ho
  refine⟨qs,o1,(o2.keep hf (fun b hb'=>hX b (o2.lt hb') (h.tn b (h.tops.1 b hb')).2.1)).keep hp (fun b hb' e=>by have:=h.tn b (h.tops.1 b hb');omega),o3,fun i a b=>?_⟩
  exact((((o4 i a b).wid hwid).keep hf hkeep).weaken hnew).keep hp h5
 ·obtain⟨as0,a1,a2,a3,a4⟩:=h.ha
  exact⟨as0,a1,(a2.keep hf (fun b hb'=>hX b (a2.lt hb') (h.tn b (h.tops.2 b hb')).2.1)).keep hp (fun b hb' e=>by have:=h.tn b (h.tops.2 b hb');omega),a3,a4⟩
 ·exact(h.r.far hf (fun b e=>by omega)).far hp (fun b e=>by omega)
 ·exact(h.f.trans hf (fun b hb' e=>by have:=h.f.size;omega)).trans hp (fun b hb' e=>by omega)
 ·exact(h.z.keepX hf (hX _ dz (by omega))).keepX hp (by omega)
theorem OT.fin (h:OT rb q lo b5 b7 k g n c w wx ks x Ao Aa co ca TK):∃cur:Array Value,Bx wx g zuD cur∧k * 2+1<cur.size∧n≤c∧c≤maxLen∧∀u v:Value,u=.slice Ao x.owns.length co->v=.slice Aa x.asks.length ca->
  Sl (fun b=>b<lo) ((wx.setCell ⟨g,k * 2,none⟩ u).setCell ⟨g,k * 2+1,none⟩ v) 2 (KprC (fun b=>b<lo) ((wx.setCell ⟨g,k * 2,none⟩ u).setCell ⟨g,k * 2+1,none⟩ v)) (.slice (some ⟨g,0,none⟩) n c) (ks.set k x) ∧
   Fr (fun b=>b=g) wx ((wx.setCell ⟨g,k * 2,none⟩ u).setCell ⟨g,k * 2+1,none⟩ v):=by
 obtain⟨l1,l2,l3,l4,l5⟩:=h.hl
 obtain⟨g1,g2,g3⟩:=h.hg
 obtain⟨n1,n2⟩:=h.hn
 obtain⟨rows,h1,h2,h3⟩:=h.rows
 obtain⟨g',c9,cur,he,e1,e2,e3,e4,e5,_⟩:=h2.at_ (by omega)
 cases he
 refine⟨cur,e3,by omega,e1,e2,?_⟩
 rintro u v rfl rfl
 have hp:Fr (fun b=>b=g) wx ((wx.setCell ⟨g,k * 2,none⟩ (.slice Ao x.owns.length co)).setCell ⟨g,k * 2+1,none⟩ (.slice Aa x.asks.length ca)):=(Fr.put1 _ _ _ _).same (Fr.put1 _ _ _ _)
 have B':=(e3.set_ (k * 2) (.slice Ao x.owns.length co)).set_ (k * 2+1) (.slice Aa x.asks.length ca)
 generalize((wx.setCell ⟨g,k * 2,none⟩ (.slice Ao x.owns.length co)).setCell ⟨g,k * 2+1,none⟩ (.slice Aa x.asks.length ca))=W at *
 have hgZ:∀b,b=g->ZO lo b5 b7 g TK b:=fun b e=>.inr (.inr (.inr (.inl e)))
 have hlow:∀b,b<lo->ZO lo b5 b7 g TK b:=fun b e=>.inl e
 have hx:KprC (fun b=>b<lo) W [.slice Ao x.owns.length co,.slice Aa x.asks.length ca] x:=by
  have ho:=h.ho.keep (R':=ClsC (ZO lo b5 b7 g TK) W) hp (fun b hb e=>(h.tn b (h.tops.1 b hb)).2.1 e) (fun _ _ _ h=>h.keep hp hgZ)
  have ha:=h.ha.keep (R':=AskC) hp (fun b hb e=>(h.tn b (h.tops.2 b hb)).2.1 e) (fun _ _ _ h=>h)
  exact⟨_,_,rfl,RRow.sl (ho.mono (fun _ _ h=>h.weaken hlow)) (fun q hq e=>by omega),RRow.sl ha (fun q hq e=>by omega)⟩
 refine⟨⟨some ⟨g,0,none⟩,c,by rw[List.length_set,n1],by rw[List.length_set];omega,by rw[List.length_set];omega,fun _=>⟨g,0,rfl,by omega,fun i hi=>?_⟩⟩,hp⟩
 rw[List.length_set] at hi
 by_cases hik:i=k
 ·subst hik
  rw[List.getElem_set_self]
  refine⟨_,hx,rfl,fun j hj=>?_⟩
  have hj2:j=0∨j=1:=by omega
  rw[B'.cell,Nat.zero_add]
  rcases hj2 with rfl|rfl
  ·rw[Array.getElem?_setIfInBounds_ne (by omega),Nat.add_zero,Array.getElem?_setIfInBounds_self_of_lt (by omega)];rfl
  ·rw[Array.getElem?_setIfInBounds_self_of_lt (by simp;omega)];rfl
 ·rw[List.getElem_set_ne (Ne.symm hik)]
  refine⟨rows[i].1,((h3 i (by omega) hi hik).keep hp hgZ).weaken hlow,rows[i].2,fun j hj=>?_⟩
  have hj2:j=0∨j=1:=by omega
  rw[B'.cell,Nat.zero_add,Array.getElem?_setIfInBounds_ne (by omega),Array.getElem?_setIfInBounds_ne (by omega)]
  have h4:=zqB (C:=fun k:Raw 2=>k.1) (fun k=>k.2) rows i (by omega) j hj
  have h5:=h2.cell rfl (j:=i * 2+j) (by omega)
  rw[e3.cell] at h5
  unfold rawL at h5
  rw[h5,h4]
def OS (lo k g c:Nat) (w:World) (ks:List Kpr) (x:Kpr) (Ao Aa:Option Addr) (co ca:Nat) (TK:Nat->Prop):Prop:=
 (∃rows:List (Raw 2),rows.length=ks.length∧RowV w zuD 2 (.slice (some ⟨g,0,none⟩) ks.length c) ks.length (rawL rows)∧∀i (h1:i<rows.length) (h2:i<ks.length),i≠k->KprC (fun b=>b<lo∨b=g∨TK b) w rows[i].1 ks[i])∧lo≤g ∧
 RRow zuE 4 (ClsC (fun b=>b<lo∨b=g∨TK b) w) w lo (.slice Ao x.owns.length co) x.owns∧RRow zuF 2 AskC w lo (.slice Aa x.asks.length ca) x.asks ∧
 (∀b,ztV [.slice Ao x.owns.length co,.slice Aa x.asks.length ca] b->TK b)∧∀b,TK b->lo≤b∧b≠g∧b<w.heap.size
theorem KsT.pick9 {v:Value} (h:KsT lo w v ks) (hk:k<ks.length):∃(g c:Nat) (Ao Aa:Option Addr) (co ca:Nat) (TK:Nat->Prop),v=.slice (some ⟨g,0,none⟩) ks.length c∧ks.length≤c∧c≤maxLen∧w.cell? ⟨g,k * 2,none⟩=some (.slice Ao ks[k].owns.length co)∧w.cell? ⟨g,k * 2+1,none⟩=some (.slice Aa ks[k].asks.length ca) ∧
  OS lo k g c w ks ks[k] Ao Aa co ca TK:=by
 obtain⟨rows,h1,h2,h3,h4,h5⟩:=h
 obtain⟨g,c,cur,rfl,e1,e2,e3,e4,e5,e6⟩:=h2.at_ (by omega)
 have hkr:k<rows.length:=by omega
 obtain⟨vo,va,er,ho,ha⟩:=h4 k hkr hk
 obtain⟨qs,o1,o2,o3,o4⟩:=ho
 obtain⟨js,a1,a2,a3,a4⟩:=ha
 obtain⟨Ao,co,rfl,_⟩:=o2.form
 obtain⟨Aa,ca,rfl,_⟩:=a2.form
 have hc:∀j,j<2->w.cell? ⟨g,k * 2+j,none⟩=([.slice Ao ks[k].owns.length co,.slice Aa ks[k].asks.length ca]:List Value)[j]?:=fun j hj=>by
  have h6:=h2.cell rfl (j:=k * 2+j) (by omega)
  unfold rawL at h6
  rw[h6,zqB (C:=fun k:Raw 2=>k.1) (fun k=>k.2) rows k hkr j hj,er]
 have hYk:∀b,(b<lo∨b=g∨ztV rows[k].1 b)->TopY lo (.slice (some ⟨g,0,none⟩) ks.length c) rows b:=by
  rintro b (e|e|e)
  ·exact .inl e
  ·subst e;exact .inr (.inl e6)
  ·exact .inr (.inr ⟨_,List.getElem_mem hkr,e⟩)
 have hlg:lo≤g:=h3 g e6
 have htop:∀b,ztV rows[k].1 b->lo≤b∧b≠g∧b<w.heap.size:=fun b hb=>by
  have hb':=hb
  rw[er] at hb'
  obtain⟨u,hu,hq⟩:=hb'
  simp only[List.mem_cons,List.not_mem_nil,or_false] at hu
  rcases hu with rfl|rfl
  ·exact⟨o3 b hq,fun e=>by subst e;exact o2.ne2 h2 (by decide) hq e6,o2.lt hq⟩
  ·exact⟨a3 b hq,fun e=>by subst e;exact a2.ne2 h2 (by decide) hq e6,a2.lt hq⟩
 refine⟨g,c,Ao,Aa,co,ca,ztV rows[k].1,rfl,e1,e2,by have:=hc 0 (by omega);simpa using this,by have:=hc 1 (by omega);simpa using this,⟨rows,h1,h2,fun i a b hi=>?_⟩,hlg,⟨qs,o1,o2,o3,fun i a b=>(o4 i a b).weaken hYk⟩,⟨js,a1,a2,a3,a4⟩,fun b hb=>by rw[er];exact hb,htop⟩
 obtain⟨vo',va',er',⟨qs',o1',o2',o3',o4'⟩,⟨js',a1',a2',a3',a4'⟩⟩:=h4 i a b
 have hdis:∀q,ztV rows[i].1 q->¬(q<lo∨q=g∨ztV rows[k].1 q):=by
  rintro q hq (e|e|e)
  ·have:=((h4 i a b).lt hq).1;omega
  ·subst e
   rw[er'] at hq
   obtain⟨u,hu,hq⟩:=hq
   simp only[List.mem_cons,List.not_mem_nil,or_false] at hu
   rcases hu with rfl|rfl
   ·exact o2'.ne2 h2 (by decide) hq e6
   ·exact a2'.ne2 h2 (by decide) hq e6
  ·rcases Nat.lt_or_gt_of_ne hi with hlt|hgt
   ·exact h5 i k a hkr hlt q hq e
   ·exact h5 k i hkr a hgt q e hq
 refine⟨vo',va',er',?_,?_⟩
 ·exact o2'.rawSl o1' (fun i a b=>(o4' i a b).weaken hYk) (fun q hq=>hdis q (by rw[er'];exact⟨_,by simp,hq⟩))
 ·exact a2'.rawSl a1' a4' (fun q hq=>hdis q (by rw[er'];exact⟨_,by simp,hq⟩))
theorem OS.start {w1:World} (h:OS lo k g c w1 ks x Ao Aa co ca TK) (hk:k<ks.length) (hf:Fr (fun b=>b=rb) w1 wx) (p5:Bx wx b5 zuG #[.slice (some ⟨g,0,none⟩) ks.length c]) (p7:Bx wx b7 zuD #[.slice Ao x.owns.length co,.slice Aa x.asks.length ca]) (hb5:w1.heap.size≤b5) (hb7:w1.heap.size≤b7)
  (hr:RdB wx rb q) (hfw:Fr (fun b=>b=rb) w wx) (hz:Bx wx w.heap.size zuG #[.slice none 0 0]) (hl:rb<w.heap.size∧w.heap.size<lo∧lo≤b5∧lo≤b7∧b5≠b7):OT rb q lo b5 b7 k g ks.length c w wx ks x Ao Aa co ca TK:=by
 obtain⟨⟨rows,h1,h2,h3⟩,hg,ho,ha,ht,hn⟩:=h
 have hwid:∀b,ZO lo b5 b7 g TK b->b<w1.heap.size->b<lo∨b=g∨TK b:=by
  rintro b (e|e|e|e|e) hb
  ·exact .inl e
  ·omega
  ·omega
  ·exact .inr (.inl e)
  ·exact .inr (.inr e)
 have hrb:∀b,b=rb->ZO lo b5 b7 g TK b:=fun b e=>.inl (by omega)
 have hgl:g<w1.heap.size:=by
  obtain⟨g',c9,cur,he,e1,e2,e3,_⟩:=h2.at_ (by omega)
  cases he
  exact e3.lt
 refine⟨p5,p7,⟨rows,h1,h2.keep hf (fun b hb e=>?_),fun i a b hi=>((h3 i a b hi).wid hwid).keep hf hrb⟩,⟨rfl,hk⟩,⟨hg,by omega,by omega⟩,?_,?_,ht,fun b hb=>⟨(hn b hb).1,(hn b hb).2.1,by have:=(hn b hb).2.2;omega,by have:=(hn b hb).2.2;omega⟩,fun b hb=>Nat.lt_of_lt_of_le (hn b hb).2.2 hf.size,hr,hfw,hz,hl⟩
 ·rw[zcQ] at hb;split at hb;cases hb;cases hb;dsimp only at e;omega
 ·obtain⟨qs,o1,o2,o3,o4⟩:=ho
  exact⟨qs,o1,o2.keep hf (fun b hb e=>by have:=o3 b hb;omega),o3,fun i a b=>((o4 i a b).wid hwid).keep hf hrb⟩
 ·obtain⟨js,a1,a2,a3,a4⟩:=ha
  exact⟨js,a1,a2.keep hf (fun b hb e=>by have:=a3 b hb;omega),a3,a4⟩
end
def JT (rb q lo b5 b7 k:Nat) (w wx:World):Prop:=∃(g n c:Nat) (ks:List Kpr) (x:Kpr) (Ao Aa:Option Addr) (co ca:Nat) (TK:Nat->Prop),OT rb q lo b5 b7 k g n c w wx ks x Ao Aa co ca TK
section
variable {rb q q' lo b5 b7 k g n c:Nat} {w wx W:World} {ks:List Kpr} {x:Kpr} {Ao Aa:Option Addr} {co ca:Nat} {TK:Nat->Prop}
theorem OT.asksSnoc (h:OT rb q lo b5 b7 k g n c w wx ks x Ao Aa co ca TK) {js:List (Raw 2)} (j1:js.length=x.asks.length) (j4:∀i (h1:i<js.length) (h2:i<x.asks.length),AskC js[i].1 x.asks[i]) {a:Ask} {cs:List Value} {h2:cs.length=2} (hx:AskC cs a) {g8 c8:Nat}
  (hf:Fr (fun b=>b=rb∨zcP (.slice Aa x.asks.length ca)=some b∨wx.heap.size≤b) wx W) (hr9:RdB W rb q') (hrow:RowV W zuF 2 (.slice (some ⟨g8,0,none⟩) (js.length+1) c8) (js.length+1) (rawL (js ++ [(⟨cs,h2⟩:Raw 2)]))) (hc:js.length+1≤c8) (hb:zcP (.slice Aa x.asks.length ca)=some g8∨wx.heap.size≤g8) (hlo:lo≤wx.heap.size):
  ∀u:Value,u=.slice (some ⟨g8,0,none⟩) (js.length+1) c8->JT rb q' lo b5 b7 k w (W.setCell ⟨b7,1,none⟩ u):=by
 rintro u rfl
 have hl:(x.asks ++ [a]).length=js.length+1:=by simp[j1]
 have hg:lo≤g8:=hb.elim (fun e=>(h.tn _ (h.tops.2 _ e)).1) (fun e=>by omega)
 have hr:RRow zuF 2 AskC W lo (.slice (some ⟨g8,0,none⟩) (x.asks ++ [a]).length c8) (x.asks ++ [a]):=by
  rw[hl]
  exact RRow.snoc rfl j1 j4 hx hrow hg hc
 have:=h.asks hf hr9 hr (fun b hq=>by rw[zcQ] at hq;split at hq;cases hq;cases hq;exact hb)
 rw[hl] at this
 exact⟨_,_,_,_,_,_,_,_,_,_,this⟩
theorem OT.ownsSnoc (h:OT rb q lo b5 b7 k g n c w wx ks x Ao Aa co ca TK) {js:List (Raw 4)} (j1:js.length=x.owns.length) (j4:∀i (h1:i<js.length) (h2:i<x.owns.length),ClsC (ZO lo b5 b7 g TK) wx js[i].1 x.owns[i]) {a:Cls} {cs:List Value} {h2:cs.length=4} {g8 c8:Nat} (hx:ClsC (fun b=>ZO lo b5 b7 g TK b∨b=g8) W cs a)
  (hf:Fr (fun b=>b=rb∨zcP (.slice Ao x.owns.length co)=some b∨wx.heap.size≤b) wx W) (hr9:RdB W rb q') (hrow:RowV W zuE 4 (.slice (some ⟨g8,0,none⟩) (js.length+1) c8) (js.length+1) (rawL (js ++ [(⟨cs,h2⟩:Raw 4)]))) (hc:js.length+1≤c8) (hb:zcP (.slice Ao x.owns.length co)=some g8∨wx.heap.size≤g8) (hlo:lo≤wx.heap.size):
  ∀u:Value,u=.slice (some ⟨g8,0,none⟩) (js.length+1) c8->∃TK',OT rb q' lo b5 b7 k g n c w (W.setCell ⟨b7,0,none⟩ u) ks { x with owns:=x.owns ++ [a] } (some ⟨g8,0,none⟩) Aa c8 ca TK':=by
 rintro u rfl
 have hl:(x.owns ++ [a]).length=js.length+1:=by simp[j1]
 have hg:lo≤g8:=hb.elim (fun e=>(h.tn _ (h.tops.1 _ e)).1) (fun e=>by omega)
 have hTa:=h.tops.1
 have hwid:∀b,(ZO lo b5 b7 g TK b∨wx.heap.size≤b)->b<wx.heap.size->ZO lo b5 b7 g TK b:=fun b h1 h2=>h1.resolve_right (by omega)
 have hkeep:∀b,(b=rb∨zcP (.slice Ao x.owns.length co)=some b∨wx.heap.size≤b)->ZO lo b5 b7 g TK b∨wx.heap.size≤b:=fun b h1=>h1.elim (fun e=>.inl (.inl (by have:=h.hl;omega))) (fun h1=>h1.imp (fun h=>.inr (.inr (.inr (.inr (hTa b h))))) id)
 have hr:RRow zuE 4 (ClsC (fun b=>ZO lo b5 b7 g TK b∨wx.heap.size≤b∧zcP (.slice (some ⟨g8,0,none⟩) (x.owns ++ [a]).length c8)=some b) W) W lo (.slice (some ⟨g8,0,none⟩) (x.owns ++ [a]).length c8) (x.owns ++ [a]):=by
  rw[hl]
  refine RRow.snoc rfl j1 (fun i a b=>?_) (hx.weaken ?_) hrow hg hc
  ·exact(((j4 i a b).wid hwid).keep hf hkeep).weaken (fun b e=>e.imp id (fun e=>e.1))
  ·rintro b (e | ⟨_,e⟩)
   ·exact .inl e
   ·rw[zcQ,if_neg (by omega)] at e;cases e;exact .inr rfl
 have:=h.owns hf hr9 hr (fun b hq=>by rw[zcQ] at hq;split at hq;cases hq;cases hq;exact hb)
 rw[hl] at this
 exact⟨_,this⟩
end
end Go.Proofs.YtbfmeklfpackjaaGreatDoor
