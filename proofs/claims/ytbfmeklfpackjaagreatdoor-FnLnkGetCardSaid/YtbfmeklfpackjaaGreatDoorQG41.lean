/- The draws: a method (l20Method). -/
import Derived.Test.YtbfmeklfpackjaaGreatDoorQG40
set_option maxHeartbeats 8000000
set_option maxRecDepth 100000
namespace Go.Proofs.YtbfmeklfpackjaaGreatDoor
open Go.RowKit
def ixN (g off n sz:Nat):Value->World->Prop:=fun v _=>∃k:Nat,k<n∧v=.pointer (some ⟨g,off+k * sz,none⟩)
theorem zur (g off n sz:Nat):MonP (ixN g off n sz):=fun _ _ _ h _=>h
def kpV (X:Nat->Prop) (xs:List Kpr):Value->World->Prop:=fun v W=>∃x Ao co Aa ca,x∈xs∧v=.agg #[.slice Ao x.owns.length co,.slice Aa x.asks.length ca]∧KprC X W [.slice Ao x.owns.length co,.slice Aa x.asks.length ca] x
theorem zus (X:Nat->Prop) (xs:List Kpr):MonP (kpV X xs):=fun _ _ _ ⟨x,Ao,co,Aa,ca,h1,h2,h3⟩ hf=>⟨x,Ao,co,Aa,ca,h1,h2,h3.keep hf zN⟩
def clV9 (X:Nat->Prop) (xs:List Cls):Value->World->Prop:=fun v W=>∃x Af cf Am cm,x∈xs∧v=.agg #[.string x.name,.string x.super,.slice Af x.fields.length cf,.slice Am x.methods.length cm]∧ClsC X W [.string x.name,.string x.super,.slice Af x.fields.length cf,.slice Am x.methods.length cm] x
theorem zut (X:Nat->Prop) (xs:List Cls):MonP (clV9 X xs):=fun _ _ _ ⟨x,Ao,co,Aa,ca,h1,h2,h3⟩ hf=>⟨x,Ao,co,Aa,ca,h1,h2,h3.keep hf zN⟩
def zuu (x:Mth) (Aa Ac Am:Option Addr) (ca cc cm:Nat):List Value:=[.string x.name,.slice Aa x.args.length ca,.int .i64 x.ret.kind,.string x.ret.name,.int .i64 x.locals,.int .i64 x.stack,.slice Ac x.code.length cc,.slice Am x.maps.length cm]
def mtV9 (X:Nat->Prop) (xs:List Mth):Value->World->Prop:=fun v W=>∃x Aa ca Ac cc Am cm,x∈xs∧v=.agg #[.string x.name,.slice Aa x.args.length ca,.int .i64 x.ret.kind,.string x.ret.name,.int .i64 x.locals,.int .i64 x.stack,.slice Ac x.code.length cc,.slice Am x.maps.length cm]∧MthC X W (zuu x Aa Ac Am ca cc cm) x
theorem zuv (X:Nat->Prop) (xs:List Mth):MonP (mtV9 X xs):=fun _ _ _ ⟨x,Aa,ca,Ac,cc,Am,cm,h1,h2,h3⟩ hf=>⟨x,Aa,ca,Ac,cc,Am,cm,h1,h2,h3.keep hf zN⟩
def zuw (rb q:Nat) (w:World) (e:Ending) (w':World):Prop:=∃(x:Mth) (Aa Ac Am:Option Addr) (ca cc cm:Nat),e=.returned (.agg (zuu x Aa Ac Am ca cc cm).toArray)∧MthC (fun b=>b<w.heap.size) w' (zuu x Aa Ac Am ca cc cm) x∧RdB w' rb (q+60)∧Fr (fun b=>b=rb) w w'
theorem RowV.lit (w:World) (E:TypeId) (sz:Nat) (ks:List (Raw sz)) (h:ks.length≤1000):RowV (w.alloc (.cells (rawL ks).toArray E)) E sz (.slice (some ⟨w.heap.size,0,none⟩) ks.length ks.length) ks.length (rawL ks):=
 .inl ⟨zqD ks,.inr ⟨w.heap.size,ks.length,(rawL ks).toArray,rfl,Nat.zero_le _,Bx.new w _ _,Nat.le_refl _,by unfold maxLen;omega,by simp[zqD],by rw[List.take_of_length_le (by simp[zqD])]⟩⟩
def zux (N:Nat) (x:Mth):Prop:=x.args.length≤N∧x.code.length≤N∧x.maps.length≤N
structure MJ (N rb q lo b7:Nat) (w wx:World):Prop where
 m:∃(x:Mth) (Aa Ac Am:Option Addr) (ca cc cm:Nat),Bx wx b7 49 (zuu x Aa Ac Am ca cc cm).toArray∧MthC (fun b=>b<lo∨b=b7) wx (zuu x Aa Ac Am ca cc cm) x∧zux N x
 r:RdB wx rb q
 f:Fr (fun b=>b=rb) w wx
 z:Bx wx w.heap.size 49 #[.string ⟨#[]⟩,.slice none 0 0,.int .i64 0,.string ⟨#[]⟩,.int .i64 0,.int .i64 0,.slice none 0 0,.slice none 0 0]
theorem MJ.lit {N rb q lo b7 b:Nat} {w wx:World} (hM:Bx wx b7 49 #[.string ⟨#[114,117,110]⟩,.slice none 0 0,.int .i64 1,.string ⟨#[]⟩,.int .i64 2,.int .i64 2,.slice (some ⟨b,0,none⟩) 2 2,.slice none 0 0]) (hI:Bx wx b 141 #[.int .i64 1,.int .i64 0,.string ⟨#[]⟩,.string ⟨#[]⟩,.int .i64 10,.int .i64 0,.string ⟨#[]⟩,.string ⟨#[]⟩]) (hr:RdB wx rb q) (hf:Fr (fun b=>b=rb) w wx) (hz:Bx wx w.heap.size 49 #[.string ⟨#[]⟩,.slice none 0 0,.int .i64 0,.string ⟨#[]⟩,.int .i64 0,.int .i64 0,.slice none 0 0,.slice none 0 0]) (hlo:lo≤b) (hb:b≠b7) (hN:10≤N):MJ N rb q lo b7 w wx:=by
 have hcs:Sl (fun c=>c<lo∨c=b7) wx 4 InsC (.slice (some ⟨b,0,none⟩) 2 2) [⟨1,0,⟨#[]⟩,⟨#[]⟩⟩,⟨10,0,⟨#[]⟩,⟨#[]⟩⟩]:=by
  refine⟨_,_,rfl,Nat.le_refl _,by unfold maxLen;decide,fun _=>⟨_,_,rfl,by omega,fun k hk=>?_⟩⟩
  have hk2:k=0∨k=1:=by simp at hk;omega
  rcases hk2 with rfl|rfl
  all_goals
   refine⟨_,⟨rfl,Nat.zero_le _,Nat.zero_le _⟩,rfl,fun j hj=>?_⟩
   have hj4:j=0∨j=1∨j=2∨j=3:=by omega
   rcases hj4 with rfl|rfl|rfl|rfl<;>(rw[hI.cell];rfl)
 exact⟨⟨⟨⟨#[114,117,110]⟩,[],⟨1,⟨#[]⟩⟩,2,2,[⟨1,0,⟨#[]⟩,⟨#[]⟩⟩,⟨10,0,⟨#[]⟩,⟨#[]⟩⟩],[]⟩,none,some ⟨b,0,none⟩,none,0,2,0,hM,⟨_,_,_,rfl,by decide,by decide,Sl.nil _ _ _ _,hcs,Sl.nil _ _ _ _⟩,⟨Nat.zero_le _,by show 2≤N;omega,Nat.zero_le _⟩⟩,hr,hf,hz⟩
theorem zuy {ks:List Kpr} (h:lodB ⟨ks⟩=true) {k:Kpr} (hk:k∈ks):k.owns.length≤5∧k.asks.length≤4∧∀c∈k.owns,c.fields.length≤3∧c.methods.length≤4∧∀m∈c.methods,zux 1000 m:=by
 unfold lodB at h
 simp only[lz5,List.all_eq_true] at h
 have h9:=h.2 k hk
 unfold kprB at h9
 simp only[lz5,decide_eq_true_eq] at h9
 refine⟨h9.1.1.1,h9.1.1.2,fun c hc=>?_⟩
 have hcb:=zgW _ _ h9.1.2 c hc
 have hmm:=zg1 hcb
 unfold clsB at hcb
 simp only[lz5,decide_eq_true_eq] at hcb
 refine⟨hcb.1.1.1.2,hcb.1.1.2,fun m hm=>?_⟩
 have h8:=hmm m hm
 unfold mthB zfW zf4 at h8
 simp only[lz5,decide_eq_true_eq] at h8
 unfold zux
 refine⟨by omega,by omega,by omega⟩
theorem MJ.rb {N rb q q' lo b7:Nat} {w wx W:World} (h:MJ N rb q lo b7 w wx) (hf:Fr (fun b=>b=rb) wx W) (hr:RdB W rb q') (hlo:rb<lo) (hb:b7≠rb) (hw:rb<w.heap.size):MJ N rb q' lo b7 w W:=by
 obtain⟨⟨x,Aa,Ac,Am,ca,cc,cm,h1,h2,hN⟩,_,h3,h4⟩:=h
 exact⟨⟨x,Aa,Ac,Am,ca,cc,cm,h1.keepX hf hb,h2.keep hf (fun b e=>.inl (by omega)),hN⟩,hr,h3.same hf,h4.keepX hf (by omega)⟩
theorem MJ.up {N M rb q q' lo b7:Nat} {w wx:World} (h:MJ N rb q lo b7 w wx) (hq:q≤q') (hN:N≤M):MJ M rb q' lo b7 w wx:=by
 obtain⟨⟨x,Aa,Ac,Am,ca,cc,cm,h1,h2,h5,h6,h7⟩,hr,h3,h4⟩:=h
 exact⟨⟨x,Aa,Ac,Am,ca,cc,cm,h1,h2,Nat.le_trans h5 hN,Nat.le_trans h6 hN,Nat.le_trans h7 hN⟩,hr.up hq,h3,h4⟩
theorem MJ.set1 {N rb q lo b7:Nat} {w W W':World} (hr:RdB W rb q) (hf:Fr (fun b=>b=rb) w W) (hz:Bx W w.heap.size 49 #[.string ⟨#[]⟩,.slice none 0 0,.int .i64 0,.string ⟨#[]⟩,.int .i64 0,.int .i64 0,.slice none 0 0,.slice none 0 0]) (hw:rb<w.heap.size) (hb:w.heap.size<b7) (hp:Fr (fun b=>b=b7) W W')
  (hm:∃(x:Mth) (Aa Ac Am:Option Addr) (ca cc cm:Nat),Bx W' b7 49 (zuu x Aa Ac Am ca cc cm).toArray∧MthC (fun b=>b<lo∨b=b7) W (zuu x Aa Ac Am ca cc cm) x∧zux N x):MJ N rb q lo b7 w W':=by
 obtain⟨x,Aa,Ac,Am,ca,cc,cm,h1,h2,hN⟩:=hm
 exact⟨⟨x,Aa,Ac,Am,ca,cc,cm,h1,h2.keep hp (fun b e=>.inr e),hN⟩,hr.far hp (fun b e=>by omega),hf.trans hp (fun b hb e=>by omega),hz.keepX hp (by omega)⟩
structure MK (rb q lo hi b7:Nat) (w wx:World) (x:Mth) (Aa Ac Am:Option Addr) (ca cc cm:Nat):Prop where
 b:Bx wx b7 49 (zuu x Aa Ac Am ca cc cm).toArray
 h:MthC (fun b=>b<lo∨b=b7∨hi≤b) wx (zuu x Aa Ac Am ca cc cm) x
 r:RdB wx rb q
 f:Fr (fun b=>b=rb) w wx
 z:Bx wx w.heap.size 49 #[.string ⟨#[]⟩,.slice none 0 0,.int .i64 0,.string ⟨#[]⟩,.int .i64 0,.int .i64 0,.slice none 0 0,.slice none 0 0]
section
variable {N rb q q' lo hi b7:Nat} {w wx W1 W:World} {x:Mth} {Aa Ac Am:Option Addr} {ca cc cm:Nat}
theorem MK.keep (h:MK rb q lo hi b7 w wx x Aa Ac Am ca cc cm) (hf:Fr No wx W):MK rb q lo hi b7 w W x Aa Ac Am ca cc cm:=⟨h.b.keep hf,h.h.keep hf zN,h.r.keep hf,h.f.trans0 hf,h.z.keep hf⟩
theorem MK.step (h:MK rb q lo hi b7 w wx x Aa Ac Am ca cc cm) (hf:Fr (fun b=>b=rb) wx W) (hr:RdB W rb q') (hlo:rb<lo) (hb:b7≠rb) (hw:rb<w.heap.size):MK rb q' lo hi b7 w W x Aa Ac Am ca cc cm:=
 ⟨h.b.keepX hf hb,h.h.keep hf (fun b e=>.inl (by omega)),hr,h.f.same hf,h.z.keepX hf (by omega)⟩
theorem MK.put (h:MK rb q lo hi b7 w wx x Aa Ac Am ca cc cm) (hq:q≤q') (hw:rb<w.heap.size) (hb:w.heap.size<b7) (hp:Fr (fun b=>b=b7) wx W)
  (hm:∃(x:Mth) (Aa Ac Am:Option Addr) (ca cc cm:Nat),Bx W b7 49 (zuu x Aa Ac Am ca cc cm).toArray∧MthC (fun b=>b<lo∨b=b7) wx (zuu x Aa Ac Am ca cc cm) x∧zux N x):MJ N rb q' lo b7 w W:=MJ.set1 (h.r.up hq) h.f h.z hw hb hp hm
end
theorem zuz:∀cs x,KndC cs x->∀u∈cs,u.oneCell'=true:=fun cs x ⟨h,_⟩ u hu=>by
 subst h
 simp only[List.mem_cons,List.not_mem_nil,or_false] at hu
 rcases hu with rfl|rfl<;>rfl
theorem zuA {α:Type} {sz:Nat} {R:List Value->α->Prop} {ks ls:List (Raw sz)} {xs ys:List α} (hl:ks.length=xs.length) (hR:∀i (h1:i<ks.length) (h2:i<xs.length),R ks[i].1 xs[i]) (hR2:∀i (h1:i<ls.length) (h2:i<ys.length),R ls[i].1 ys[i]):
  ∀i (h1:i<(ks ++ ls).length) (h2:i<(xs ++ ys).length),R (ks ++ ls)[i].1 (xs ++ ys)[i]:=by
 intro i h1 h2
 by_cases hi:i<ks.length
 ·rw[List.getElem_append_left hi,List.getElem_append_left (by omega)]
  exact hR i hi (by omega)
 ·rw[List.getElem_append_right (by omega),List.getElem_append_right (by omega)]
  simp only[hl]
  exact hR2 _ (by simp at h1;omega) (by simp at h2;omega)
def zuB (i:Ins):Raw 4:=⟨[.int .i64 i.op,.int .i64 i.a,.string i.name,.string i.member],rfl⟩
theorem zuC (rb q n:Nat) (w:World) (h:RdB w rb q) (hn:1≤n) (hn2:n≤1000000) (hq:q≤80000):
  Calls Tryz.prog 46 #[.pointer (some ⟨rb,0,none⟩),.int .i64 n] w (zuw rb q w):=by
 have hrl:=h.lt
 have H1:=fun W (hW:Fr No w W)=>zup rb q 3 W (h.keep hW) (by omega) (by omega) (by omega)
 have hB:=Bx.new w 49 #[.string ⟨#[]⟩,.slice none 0 0,.int .i64 0,.string ⟨#[]⟩,.int .i64 0,.int .i64 0,.slice none 0 0,.slice none 0 0]
 have hfA:=(Fr.refl No w).alloc (.cells #[.string ⟨#[]⟩,.slice none 0 0,.int .i64 0,.string ⟨#[]⟩,.int .i64 0,.int .i64 0,.slice none 0 0,.slice none 0 0] 49)
 clear h
 go_enter Tryz.func46,Tryz.ntmps46
 go_wp2_with (go_at_call 44;refine(H1 _ (by exact frc)).mono ?_;rintro e w1 ⟨v1,ks,rfl,hok,hk1,hr1,hf1⟩;refine Hid.out ?_)
 refine Lib.hid ?_
 rw[World.size_alloc] at hk1
 have B41:=hB.keepX hf1 (by omega)
 have hw1:Fr (fun b=>b=rb) w w1:=(Fr.of0 hfA).same hf1
 have hkS:=hk1.sl
 have hl0:0<ks.length:=by
  unfold lodB at hok
  simp only[lz5,decide_eq_true_eq] at hok
  exact hok.1.1
 have hl3:ks.length≤3:=by
  unfold lodB at hok
  simp only[lz5,decide_eq_true_eq] at hok
  exact hok.1.2
 obtain⟨A1,c1,rfl,hc1,_⟩:=hkS.form
 obtain⟨g,og,Ao0,co0,Aa0,ca0,rfl,_,_,_,_,_,_,_,_,_⟩:=hkS.kpr hl0
 obtain⟨w2,hw2⟩:∃w2,w2=w1.alloc (.cells #[.slice (some ⟨g,og,none⟩) ks.length c1] 25):=⟨_,rfl⟩
 have hf12:Fr No w1 w2:=hw2▸frc
 have B5:Bx w2 w1.heap.size 25 #[.slice (some ⟨g,og,none⟩) ks.length c1]:=hw2▸bxc
 have B42:=B41.keep hf12
 have hr2:=hr1.keep hf12
 have hS2:=hkS.keep hf12 zN (fun _ _ _ h=>h.keep hf12 zN)
 have hfw2:=hw1.trans0 hf12
 have hs1:=hw1.size
 have hs2:=hf12.size
 have h5l:=B5.lt
 replace hok:=Lib.hid hok
 clear H1 hB hfA hf1 hk1 hkS
 go_wp2_with fail
 rw[<-hw2]
 replace hw2:=Lib.hid hw2
 have HP:=fun W (hW:Fr No w2 W)=>zrd rb (q+20) ks.length W (hr2.keep hW) (by omega) (by omega) (by omega)
 have hG:∀W,(Fr No w2 W∨(RdB W rb (q+21)∧Fr (fun b=>b=rb) w2 W))->Fr (fun b=>b=rb) w2 W:=fun W h=>h.elim (fun h=>h.of0) (fun h=>h.2)
 have hGs:∀W:World,Fr (fun b=>b=rb) w2 W->w2.heap.size≤W.heap.size:=fun W h=>h.size
 have K5:=fun W (hW:Fr (fun b=>b=rb) w2 W)=>(B5.keepX hW (by omega)).c1
 have K5f:=fun W (hW:Fr (fun b=>b=rb) w2 W) i=>(B5.keepX hW (by omega)).frozen i
 have K5l:=fun W (hW:Fr (fun b=>b=rb) w2 W)=>(B5.keepX hW (by omega)).lt
 obtain⟨XX,hXX⟩:∃XX:Nat->Prop,XX=fun b=>b<w.heap.size+1∨w2.heap.size≤b:=⟨_,rfl⟩
 have hX1:∀b,b<w.heap.size+1->XX b:=by
  intro b h
  rw[hXX]
  exact .inl h
 have hX2:∀b,w2.heap.size≤b->XX b:=by
  intro b h
  rw[hXX]
  exact .inr h
 have hXr:∀b,b=rb->XX b:=fun b e=>hX1 b (by omega)
 have hS3:Sl XX w2 2 (KprC XX w2) (.slice (some ⟨g,og,none⟩) ks.length c1) ks:=by
  rw[hXX]
  exact hS2.wid (by omega) (fun b h1 h2=>h1.resolve_right (by omega)) (fun _ _ _ h=>h.wid (fun b h1 h2=>h1.resolve_right (by omega)))
 have hKp:=Lib.hid (fun W (hW:Fr (fun b=>b=rb) w2 W)=>hS3.keep (R':=KprC XX W) hW hXr (fun _ _ _ h=>h.keep hW hXr))
 clear hS2 hS3
 replace hXX:=Lib.hid hXX
 refine zn2 10 20 [mV (.pointer (some ⟨w1.heap.size,0,none⟩)),mV (.slice (some ⟨g,og,none⟩) ks.length c1),mV (.pointer (some ⟨rb,0,none⟩)),mV (.pointer (some ⟨w1.heap.size,0,none⟩)),mV (.slice (some ⟨g,og,none⟩) ks.length c1),mV (.int .i64 (ks.length:Int)),mC (pkV ks.length) (zuq _),mC (ixN g og ks.length 2) (zur _ _ _ _),mC (kpV XX ks) (zus _ _),mB 87 (#[.slice none 0 0,.slice none 0 0]) w2.heap.size] 6 (fun _ _=>False) ((fun W=>RdB W rb (q+21)∧Fr (fun b=>b=rb) w2 W)) (Fr (fun b=>b=rb)) (by kernel_rfl) (by kernel_rfl) (by simp) (fun W W' h hf=>⟨h.1.keep hf,h.2.trans0 hf⟩) ?_ ?_ ?_ ?_ ?_
 ·exact fun v W W' hs=>hSV <| hSV <| hSV <| hSV <| hSV <| hSV <| hopC (fun _ h=>by first|exact h|(obtain⟨x,Ao,co,Aa,ca,g1,g2,g3⟩:=h;exact⟨x,Ao,co,Aa,ca,g1,g2,g3.keep hs hXr⟩)|(obtain⟨b,g1,g2,g3⟩:=h;exact⟨b,g1,g2.keepX hs (by omega),g3⟩)) <| hopC (fun _ h=>by first|exact h|(obtain⟨x,Ao,co,Aa,ca,g1,g2,g3⟩:=h;exact⟨x,Ao,co,Aa,ca,g1,g2,g3.keep hs hXr⟩)|(obtain⟨b,g1,g2,g3⟩:=h;exact⟨b,g1,g2.keepX hs (by omega),g3⟩)) <| hopC (fun _ h=>by first|exact h|(obtain⟨x,Ao,co,Aa,ca,g1,g2,g3⟩:=h;exact⟨x,Ao,co,Aa,ca,g1,g2,g3.keep hs hXr⟩)|(obtain⟨b,g1,g2,g3⟩:=h;exact⟨b,g1,g2.keepX hs (by omega),g3⟩)) <| hopZ
 ·refine hc4 ?_ ?_ ?_ ?_ <| hc4 ?_ ?_ ?_ ?_ <| hopC ?_ <| hopZ
  all_goals (intro a' W hW hoff hdep;replace hW:=hG _ hW;have hbs:=hGs _ hW;have H5:=hoff 5 rfl;have H0:=hoff 0 rfl;refine nE rfl ?_)
  ·simp[execOp,Act.eval,H5,go_sem,zaa];exact fr1 rfl
  ·have D11:_=_:=hdep 0 11 rfl;clear hoff hdep;simp[execOp,Act.eval,go_sem,zaa, *];exact fr1 rfl
  ·simp[execOp,Act.eval,H0,go_sem,zaa];exact fr1 rfl
  ·simp[execOp,Act.eval,H5,go_sem,zaa];exact fr1 rfl
  ·have D14:_=_:=hdep 3 14 rfl;clear hoff hdep;simp[execOp,Act.eval,go_sem,zaa, *];exact fr1 rfl
  ·have D15:_=_:=hdep 4 15 rfl;simp[Act.eval,D15,go_sem,zaa];exact fr1 rfl
  ·have D12:_=_:=hdep 1 12 rfl;obtain⟨k,hk,D17⟩:(pkV ks.length) _ W:=hdep 6 17 rfl;clear hoff hdep;simp[execOp,Act.eval,go_sem,zaa, *];exact⟨Fr.refl _ _,k,hk,rfl⟩
  ·obtain⟨k,hk,D18⟩:(ixN g og ks.length 2) _ W:=hdep 7 18 rfl
   obtain⟨b',o',Ao,co,Aa,ca,hA,_,y0,y1,hmo,hma,_⟩:=(hKp.out W hW).kpr hk;cases hA;clear hoff hdep;simp[execOp,Act.eval,D18,go_sem,zaa,y0,y1];exact⟨Fr.refl _ _,_,Ao,co,Aa,ca,List.getElem_mem hk,rfl,_,_,rfl,hmo,hma⟩
  ·simp[execOp,go_sem,zaa];exact⟨(Fr.refl _ _).alloc _,⟨_,rfl,Bx.new_ rfl,hbs⟩,Nat.le_refl _⟩
 ·intro o r ho hr a' W hW hoff hdep
  have hbs:=hW.size
  cases ho;cases hr
  have D13:_=_:=hdep 2 13 rfl
  have D16:_=_:=hdep 5 16 rfl
  simp[Act.eval,D13,D16,go_sem,zlP]
  exact(HP _ hW).mono (fun e w' h=>by obtain⟨k,g1,g2,g3,g4⟩:=h;exact⟨_,g2,⟨g3,hW.of0.same g4⟩,g4,k,g1,rfl⟩)
 ·exact fun _ _ _ _ h=>h.elim
 intro vs WR hWR hv hne
 replace hWR:=hWR.resolve_left (fun h=>absurd h.1 (by decide))
 obtain⟨kR6,hkR6,e6⟩:=hv 6 (by omega)
 obtain⟨kR7,hkR7,e7⟩:=hv 7 (by omega)
 obtain⟨xR8,AoR8,coR8,AaR8,caR8,hxR8,e8,hKR8⟩:=hv 8 (by omega)
 obtain⟨b9,e9,hb9,hl9⟩:=hv 9 (by omega)
 simp only[lz6,List.drop_zero,znP,znM,znK,znR,Nat.zero_add,Nat.reduceAdd,e6,e7,e8,e9]
 simp only[Act.put,lz0,lz1,lz2]
 clear e6 e7 e8 e9 hv
 obtain⟨hC1,hC2⟩:=hWR
 have hfR:Fr (fun b=>b=rb) w WR:=hfw2.same hC2
 obtain⟨x0,x1⟩:=hb9.c2
 have xl:=hb9.lt
 have xf:=fun i=>hb9.frozen i
 have B4R:=B42.keepX hC2 (by omega)
 clear hne HP hG hGs K5 K5f K5l hKp
 go_upto_if 28 with (fail)
 obtain⟨wS,hwS⟩:∃wS,wS=(WR.setCell ⟨b9,0,none⟩ (.slice AoR8 xR8.owns.length coR8)).setCell ⟨b9,1,none⟩ (.slice AaR8 xR8.asks.length caR8):=⟨_,rfl⟩
 have hfS:Fr (fun b=>b=b9) WR wS:=hwS▸(Fr.put1 _ _ _ _).same (Fr.put1 _ _ _ _)
 have BKS:Bx wS b9 87 #[.slice AoR8 xR8.owns.length coR8,.slice AaR8 xR8.asks.length caR8]:=hwS▸(hb9.set_ 0 _).set_ 1 _
 have hsS:wS.heap.size=WR.heap.size:=by rw[hwS];simp[World.setCell]
 obtain⟨wI,hwI⟩:∃wI,wI=wS.alloc (.cells #[.int .i64 1,.int .i64 0,.string ⟨#[]⟩,.string ⟨#[]⟩,.int .i64 10,.int .i64 0,.string ⟨#[]⟩,.string ⟨#[]⟩] 141):=⟨_,rfl⟩
 have hfI:Fr No wS wI:=hwI▸frc
 have BI:Bx wI WR.heap.size 141 #[.int .i64 1,.int .i64 0,.string ⟨#[]⟩,.string ⟨#[]⟩,.int .i64 10,.int .i64 0,.string ⟨#[]⟩,.string ⟨#[]⟩]:=by rw[<-hsS];exact hwI▸bxc
 obtain⟨wQ,hwQ⟩:∃wQ,wQ=wI.alloc (.cells #[.string ⟨#[114,117,110]⟩,.slice none 0 0,.int .i64 1,.string ⟨#[]⟩,.int .i64 2,.int .i64 2,.slice (some ⟨WR.heap.size,0,none⟩) 2 2,.slice none 0 0] 49):=⟨_,rfl⟩
 have hfQ:Fr No wI wQ:=hwQ▸frc
 have hsI:wI.heap.size=WR.heap.size+1:=by rw[hwI,World.size_alloc,hsS]
 have BM:Bx wQ (WR.heap.size+1) 49 #[.string ⟨#[114,117,110]⟩,.slice none 0 0,.int .i64 1,.string ⟨#[]⟩,.int .i64 2,.int .i64 2,.slice (some ⟨WR.heap.size,0,none⟩) 2 2,.slice none 0 0]:=by rw[<-hsI];exact hwQ▸bxc
 rw[<-hwS,<-hwI,<-hwQ]
 replace hwS:=Lib.hid hwS
 replace hwI:=Lib.hid hwI
 replace hwQ:=Lib.hid hwQ
 have hfSQ:Fr (fun b=>b=b9) WR wQ:=(hfS.trans0 hfI).trans0 hfQ
 have hXb:∀b,b=b9->XX b:=fun b e=>hX2 b (by omega)
 have hKQ:=hKR8.keep hfSQ hXb
 have BKQ:=(BKS.keep hfI).keep hfQ
 have BIQ:=BI.keep hfQ
 have hrQ:RdB wQ rb (q+24):=(hC1.far hfSQ (fun b e=>by omega)).up (by omega)
 have hfwQ:Fr (fun b=>b=rb) w wQ:=hfR.trans hfSQ (fun b hb e=>by omega)
 have B4Q:=B4R.keepX hfSQ (by omega)
 have hsC2:=hC2.size
 have hsQ:=hfSQ.size
 clear x0 x1 xl xf hKR8 hC1 hC2 hb9 hfS BKS hfI BI hfQ B4R hfR
 go_cut [] (fun wx=>MJ 1000 rb (q+26) (w.heap.size+1) (WR.heap.size+1) w wx)
 case first=>
  by_cases ho0:0<xR8.owns.length
  ·obtain⟨bk,rfl⟩:∃b,b=b9:=⟨_,rfl⟩
   obtain⟨w4,rfl⟩:∃b,b=WR:=⟨_,rfl⟩
   obtain⟨co,rfl⟩:∃b,b=coR8:=⟨_,rfl⟩
   obtain⟨kx,rfl⟩:∃b,b=xR8:=⟨_,rfl⟩
   obtain⟨vo9,va9,e9,hmo,_⟩:=hKQ
   cases e9
   obtain⟨go,oo,_,_,_,_,rfl,_,_,_,_,_,_,_,_,_,_,_,_,_⟩:=hmo.cls ho0
   obtain⟨_,hoc,hom⟩:=(⟨trivial,hmo.at_.2.1,hmo.at_.2.2.1⟩:True∧_∧_)
   have hom2:=hom
   unfold maxLen at hom2
   have ho9:(0:Int)<(kx.owns.length:Int):=by omega
   have hol:=(zuy hok.out hxR8).1
   have hcb:=Lib.hid (zuy hok.out hxR8).2.2
   go_upto_region 5 with (fail)
   have HP:=fun W (hW:Fr No wQ W)=>zrd rb (q+24) kx.owns.length W (hrQ.keep hW) (by omega) (by omega) (by omega)
   have hG:∀W,(Fr No wQ W∨(RdB W rb (q+25)∧Fr (fun b=>b=rb) wQ W))->Fr (fun b=>b=rb) wQ W:=fun W h=>h.elim (fun h=>h.of0) (fun h=>h.2)
   have hGs:∀W:World,Fr (fun b=>b=rb) wQ W->wQ.heap.size≤W.heap.size:=fun W h=>h.size
   have K5:=fun W (hW:Fr (fun b=>b=rb) wQ W)=>(BKQ.keepX hW (by omega)).c2
   have K5f:=fun W (hW:Fr (fun b=>b=rb) wQ W) i=>(BKQ.keepX hW (by omega)).frozen i
   have K5l:=fun W (hW:Fr (fun b=>b=rb) wQ W)=>(BKQ.keepX hW (by omega)).lt
   have hKp:=Lib.hid (fun W (hW:Fr (fun b=>b=rb) wQ W)=>hmo.keep (R':=ClsC XX W) hW hXr (fun _ _ _ h=>h.keep hW hXr))
   refine zn2 10 38 [mV (.pointer (some ⟨bk,0,none⟩)),mV (.slice (some ⟨go,oo,none⟩) kx.owns.length co),mV (.pointer (some ⟨rb,0,none⟩)),mV (.pointer (some ⟨bk,0,none⟩)),mV (.slice (some ⟨go,oo,none⟩) kx.owns.length co),mV (.int .i64 (kx.owns.length:Int)),mC (pkV kx.owns.length) (zuq _),mC (ixN go oo kx.owns.length 4) (zur _ _ _ _),mC (clV9 XX kx.owns) (zut _ _),mB 41 (#[.string ⟨#[]⟩,.string ⟨#[]⟩,.slice none 0 0,.slice none 0 0]) wQ.heap.size] 6 (fun _ _=>False) ((fun W=>RdB W rb (q+25)∧Fr (fun b=>b=rb) wQ W)) (Fr (fun b=>b=rb)) (by kernel_rfl) (by kernel_rfl) (by simp) (fun W W' h hf=>⟨h.1.keep hf,h.2.trans0 hf⟩) ?_ ?_ ?_ ?_ ?_
   ·exact fun v W W' hs=>hSV <| hSV <| hSV <| hSV <| hSV <| hSV <| hopC (fun _ h=>by first|exact h|(obtain⟨x,Ao,co,Aa,ca,g1,g2,g3⟩:=h;exact⟨x,Ao,co,Aa,ca,g1,g2,g3.keep hs hXr⟩)|(obtain⟨b,g1,g2,g3⟩:=h;exact⟨b,g1,g2.keepX hs (by omega),g3⟩)) <| hopC (fun _ h=>by first|exact h|(obtain⟨x,Ao,co,Aa,ca,g1,g2,g3⟩:=h;exact⟨x,Ao,co,Aa,ca,g1,g2,g3.keep hs hXr⟩)|(obtain⟨b,g1,g2,g3⟩:=h;exact⟨b,g1,g2.keepX hs (by omega),g3⟩)) <| hopC (fun _ h=>by first|exact h|(obtain⟨x,Ao,co,Aa,ca,g1,g2,g3⟩:=h;exact⟨x,Ao,co,Aa,ca,g1,g2,g3.keep hs hXr⟩)|(obtain⟨b,g1,g2,g3⟩:=h;exact⟨b,g1,g2.keepX hs (by omega),g3⟩)) <| hopZ
   ·refine hc4 ?_ ?_ ?_ ?_ <| hc4 ?_ ?_ ?_ ?_ <| hopC ?_ <| hopZ
    all_goals (intro a' W hW hoff hdep;replace hW:=hG _ hW;have hbs:=hGs _ hW;have H6:=hoff 6 rfl;have H0:=hoff 0 rfl;refine nE rfl ?_)
    ·simp[execOp,Act.eval,H6,go_sem,zaa];exact fr1 rfl
    ·have D29:_=_:=hdep 0 29 rfl;clear hoff hdep;simp[execOp,Act.eval,go_sem,zaa, *];exact fr1 rfl
    ·simp[execOp,Act.eval,H0,go_sem,zaa];exact fr1 rfl
    ·simp[execOp,Act.eval,H6,go_sem,zaa];exact fr1 rfl
    ·have D32:_=_:=hdep 3 32 rfl;clear hoff hdep;simp[execOp,Act.eval,go_sem,zaa, *];exact fr1 rfl
    ·have D33:_=_:=hdep 4 33 rfl;simp[Act.eval,D33,go_sem,zaa];exact fr1 rfl
    ·have D30:_=_:=hdep 1 30 rfl;obtain⟨k,hk,D35⟩:(pkV kx.owns.length) _ W:=hdep 6 35 rfl;clear hoff hdep;simp[execOp,Act.eval,go_sem,zaa, *];exact⟨Fr.refl _ _,k,hk,rfl⟩
    ·obtain⟨k,hk,D36⟩:(ixN go oo kx.owns.length 4) _ W:=hdep 7 36 rfl
     obtain⟨b',o',Af,cf,Am,cm,hA,_,y0,y1,y2,y3,z0,z1,hvf,hvm,_⟩:=(hKp.out W hW).cls hk;cases hA;clear hoff hdep;simp[execOp,Act.eval,D36,go_sem,zaa,y0,y1,y2,y3];exact⟨Fr.refl _ _,_,Af,cf,Am,cm,List.getElem_mem hk,rfl,_,_,rfl,z0,z1,hvf,hvm⟩
    ·simp[execOp,go_sem,zaa];exact⟨(Fr.refl _ _).alloc _,⟨_,rfl,Bx.new_ rfl,hbs⟩,Nat.le_refl _⟩
   ·intro o r ho hr a' W hW hoff hdep
    have hbs:=hW.size
    cases ho;cases hr
    have D31:_=_:=hdep 2 31 rfl
    have D34:_=_:=hdep 5 34 rfl
    simp[Act.eval,D31,D34,go_sem,zlP]
    exact(HP _ hW).mono (fun e w' h=>by obtain⟨k,g1,g2,g3,g4⟩:=h;exact⟨_,g2,⟨g3,hW.of0.same g4⟩,g4,k,g1,rfl⟩)
   ·exact fun _ _ _ _ h=>h.elim
   intro vs WR hWR hv hne
   replace hWR:=hWR.resolve_left (fun h=>absurd h.1 (by decide))
   obtain⟨kR6,hkR6,e6⟩:=hv 6 (by omega)
   obtain⟨kR7,hkR7,e7⟩:=hv 7 (by omega)
   obtain⟨xR8,AoR8,coR8,AaR8,caR8,hxR8,e8,hKR8⟩:=hv 8 (by omega)
   obtain⟨b9,e9,hb9,hl9⟩:=hv 9 (by omega)
   simp only[lz6,List.drop_zero,znP,znM,znK,znR,Nat.zero_add,Nat.reduceAdd,e6,e7,e8,e9]
   simp only[Act.put,lz0,lz1,lz2]
   clear e6 e7 e8 e9 hv
   obtain⟨hC1,hC2⟩:=hWR
   obtain⟨x0,x1,x2,x3⟩:=hb9.c4
   have xl:=hb9.lt
   have xf:=fun i=>hb9.frozen i
   obtain⟨wT,hwT⟩:∃wT,wT=(((WR.setCell ⟨b9,0,none⟩ (.string xR8.name)).setCell ⟨b9,1,none⟩ (.string xR8.super)).setCell ⟨b9,2,none⟩ (.slice AoR8 xR8.fields.length coR8)).setCell ⟨b9,3,none⟩ (.slice AaR8 xR8.methods.length caR8):=⟨_,rfl⟩
   have hfT:Fr (fun b=>b=b9) WR wT:=hwT▸(((Fr.put1 _ _ _ _).same (Fr.put1 _ _ _ _)).same (Fr.put1 _ _ _ _)).same (Fr.put1 _ _ _ _)
   have B8:Bx wT b9 41 #[.string xR8.name,.string xR8.super,.slice AoR8 xR8.fields.length coR8,.slice AaR8 xR8.methods.length caR8]:=hwT▸(((hb9.set_ 0 _).set_ 1 _).set_ 2 _).set_ 3 _
   have hXb9:∀b,b=b9->XX b:=fun b e=>hX2 b (by omega)
   have hKT:=hKR8.keep hfT hXb9
   have hwQT:Fr (fun b=>b=rb∨b=b9) wQ wT:=(hC2.mono (fun _ _ e=>.inl e)).trans hfT (fun _ _ e=>.inr e)
   have BMT:=BM.keepX hwQT (by have:=BM.lt;omega)
   have BIT:=BIQ.keepX hwQT (by have:=BIQ.lt;omega)
   have B4T:=B4Q.keepX hwQT (by have:=B4Q.lt;omega)
   have hrT:RdB wT rb (q+25):=hC1.far hfT (fun b e=>by omega)
   have hfwT:Fr (fun b=>b=rb) w wT:=hfwQ.trans hwQT (fun b hb e=>by have:=hfwQ.size;omega)
   have hsT:=hwQT.size
   clear hne HP hG hGs K5 K5f K5l hKp hKR8 hb9 hC1 hC2 hmo
   go_upto_if 41 with (fail)
   rw[<-hwT]
   replace hwT:=Lib.hid hwT
   clear x0 x1 x2 x3 xl xf
   by_cases hm0:0<xR8.methods.length
   ·obtain⟨cx,rfl⟩:∃b,b=xR8:=⟨_,rfl⟩
    have hcx:=hxR8
    obtain⟨b8,rfl⟩:∃b,b=b9:=⟨_,rfl⟩
    obtain⟨cm,rfl⟩:∃b,b=caR8:=⟨_,rfl⟩
    obtain⟨vf9,vm9,e9,_,_,_,hmm⟩:=hKT
    cases e9
    obtain⟨gm,om,_,_,_,_,_,_,rfl,_⟩:=hmm.mth hm0
    obtain⟨_,hmc,hmx⟩:=(⟨trivial,hmm.at_.2.1,hmm.at_.2.2.1⟩:True∧_∧_)
    have hmx2:=hmx
    unfold maxLen at hmx2
    have hm9:(0:Int)<(cx.methods.length:Int):=by omega
    go_upto_region 7 with (fail)
    have hml:=(hcb.out cx hxR8).2.1
    have HP:=fun W (hW:Fr No wT W)=>zrd rb (q+25) cx.methods.length W (hrT.keep hW) (by omega) (by omega) (by omega)
    have hG:∀W,(Fr No wT W∨(RdB W rb (q+26)∧Fr (fun b=>b=rb) wT W))->Fr (fun b=>b=rb) wT W:=fun W h=>h.elim (fun h=>h.of0) (fun h=>h.2)
    have hGs:∀W:World,Fr (fun b=>b=rb) wT W->wT.heap.size≤W.heap.size:=fun W h=>h.size
    have K5:=fun W (hW:Fr (fun b=>b=rb) wT W)=>(B8.keepX hW (by omega)).c4
    have K5f:=fun W (hW:Fr (fun b=>b=rb) wT W) i=>(B8.keepX hW (by omega)).frozen i
    have K5l:=fun W (hW:Fr (fun b=>b=rb) wT W)=>(B8.keepX hW (by omega)).lt
    have hKp:=Lib.hid (fun W (hW:Fr (fun b=>b=rb) wT W)=>hmm.keep (R':=MthC XX W) hW hXr (fun _ _ _ h=>h.keep hW hXr))
    refine zn2 9 51 [mV (.pointer (some ⟨b8,3,none⟩)),mV (.slice (some ⟨gm,om,none⟩) cx.methods.length cm),mV (.pointer (some ⟨rb,0,none⟩)),mV (.pointer (some ⟨b8,3,none⟩)),mV (.slice (some ⟨gm,om,none⟩) cx.methods.length cm),mV (.int .i64 (cx.methods.length:Int)),mC (pkV cx.methods.length) (zuq _),mC (ixN gm om cx.methods.length 8) (zur _ _ _ _),mC (mtV9 XX cx.methods) (zuv _ _)] 6 (fun _ _=>False) ((fun W=>RdB W rb (q+26)∧Fr (fun b=>b=rb) wT W)) (Fr (fun b=>b=rb)) (by kernel_rfl) (by kernel_rfl) (by simp) (fun W W' h hf=>⟨h.1.keep hf,h.2.trans0 hf⟩) ?_ ?_ ?_ ?_ ?_
    ·exact fun v W W' hs=>hSV <| hSV <| hSV <| hSV <| hSV <| hSV <| hopC (fun _ h=>by first|exact h|(obtain⟨x,Ao,co,Aa,ca,Ab,cb,g1,g2,g3⟩:=h;exact⟨x,Ao,co,Aa,ca,Ab,cb,g1,g2,g3.keep hs hXr⟩)) <| hopC (fun _ h=>by first|exact h|(obtain⟨x,Ao,co,Aa,ca,Ab,cb,g1,g2,g3⟩:=h;exact⟨x,Ao,co,Aa,ca,Ab,cb,g1,g2,g3.keep hs hXr⟩)) <| hopZ
    ·refine hc4 ?_ ?_ ?_ ?_ <| hc4 ?_ ?_ ?_ ?_ <| hopZ
     all_goals (intro a' W hW hoff hdep;replace hW:=hG _ hW;have hbs:=hGs _ hW;have H8:=hoff 8 rfl;have H0:=hoff 0 rfl;refine nE rfl ?_)
     ·simp[execOp,Act.eval,H8,go_sem,zaa];exact fr1 rfl
     ·have D42:_=_:=hdep 0 42 rfl;clear hoff hdep;simp[execOp,Act.eval,go_sem,zaa, *];exact fr1 rfl
     ·simp[execOp,Act.eval,H0,go_sem,zaa];exact fr1 rfl
     ·simp[execOp,Act.eval,H8,go_sem,zaa];exact fr1 rfl
     ·have D45:_=_:=hdep 3 45 rfl;clear hoff hdep;simp[execOp,Act.eval,go_sem,zaa, *];exact fr1 rfl
     ·have D46:_=_:=hdep 4 46 rfl;simp[Act.eval,D46,go_sem,zaa];exact fr1 rfl
     ·have D43:_=_:=hdep 1 43 rfl;obtain⟨k,hk,D48⟩:(pkV cx.methods.length) _ W:=hdep 6 48 rfl;clear hoff hdep;simp[execOp,Act.eval,go_sem,zaa, *];exact⟨Fr.refl _ _,k,hk,rfl⟩
     ·obtain⟨k,hk,D49⟩:(ixN gm om cx.methods.length 8) _ W:=hdep 7 49 rfl
      obtain⟨b',o',Aa,ca,Ac,cc,Am,cm,hA,_,y0,y1,y2,y3,y4,y5,y6,y7,z0,z1,hva,hvc,hvm,_⟩:=(hKp.out W hW).mth hk;cases hA;clear hoff hdep;simp[execOp,Act.eval,D49,go_sem,zaa,y0,y1,y2,y3,y4,y5,y6,y7];exact⟨Fr.refl _ _,_,Aa,ca,Ac,cc,Am,cm,List.getElem_mem hk,rfl,_,_,_,rfl,z0,z1,hva,hvc,hvm⟩
    ·intro o r ho hr a' W hW hoff hdep
     have hbs:=hW.size
     cases ho;cases hr
     have D44:_=_:=hdep 2 44 rfl
     have D47:_=_:=hdep 5 47 rfl
     simp[Act.eval,D44,D47,go_sem,zlP]
     exact(HP _ hW).mono (fun e w' h=>by obtain⟨k,g1,g2,g3,g4⟩:=h;exact⟨_,g2,⟨g3,hW.of0.same g4⟩,g4,k,g1,rfl⟩)
    ·exact fun _ _ _ _ h=>h.elim
    intro vs WR hWR hv hne
    replace hWR:=hWR.resolve_left (fun h=>absurd h.1 (by decide))
    obtain⟨kR6,hkR6,e6⟩:=hv 6 (by omega)
    obtain⟨kR7,hkR7,e7⟩:=hv 7 (by omega)
    obtain⟨xR8,AaR8,caR8,AcR8,ccR8,AmR8,cmR8,hxR8,e8,hKR8⟩:=hv 8 (by omega)
    simp only[lz6,List.drop_zero,znM,znK,znR,Nat.zero_add,Nat.reduceAdd,e6,e7,e8]
    simp only[Act.put,lz0,lz1,lz2]
    clear e6 e7 e8 hv
    obtain⟨hC1,hC2⟩:=hWR
    have BMR:=BMT.keepX hC2 (by omega)
    refine zco rfl 49 (.tmp 7) (.tmp 50) rfl 8 (by kernel_rfl) (w4.heap.size+1) 49 _ [.string xR8.name,.slice AaR8 xR8.args.length caR8,.int .i64 xR8.ret.kind,.string xR8.ret.name,.int .i64 xR8.locals,.int .i64 xR8.stack,.slice AcR8 xR8.code.length ccR8,.slice AmR8 xR8.maps.length cmR8] rfl rfl BMR rfl rfl (by simp[Value.oneCell']) ?_
    intro wU BU hfU
    have hwTU:Fr (fun b=>b=rb∨b=w4.heap.size+1) wT wU:=(hC2.mono (fun _ _ e=>.inl e)).trans hfU (fun _ _ e=>.inr e)
    have hfin:=Lib.hid (show MJ 1000 rb (q+26) (w.heap.size+1) (w4.heap.size+1) w wU from⟨⟨xR8,AaR8,AcR8,AmR8,caR8,ccR8,cmR8,BU,(hKR8.keep hfU (fun b e=>hX2 b (by omega))).weaken (fun b e=>e.elim (hX1 b) (fun e=>hX2 b (by omega))),(hcb.out cx hcx).2.2 xR8 hxR8⟩,hC1.far hfU (fun b e=>by omega),hfwT.trans hwTU (fun b hb e=>by have:=hfwT.size;omega),B4T.keepX hwTU (by omega)⟩)
    clear hne HP hG hGs K5 K5f K5l hKp
    simp only[Act.put]
    go_wp2_with fail
    go_meet
    exact hfin.out
   ·go_wp2_with fail
    go_meet
    exact MJ.lit BMT BIT (hrT.up (show q+25≤q+26 by omega)) hfwT B4T (by have:=hfwT.size;omega) (by omega) (by omega)
  ·go_wp2_with fail
   go_meet
   exact MJ.lit BM BIQ (hrQ.up (show q+24≤q+26 by omega)) hfwQ B4Q (by have:=hfwQ.size;omega) (by omega) (by omega)
 case rest=>
  have hM0:=hcut
  have H2:=fun W (hW:Fr No wc W)=>zr8 rb (q+26) n W (hcut.r.keep hW) hn hn2 (by omega)
  have hlo9:w.heap.size<WR.heap.size+1:=by have:=hfwQ.size;omega
  clear hcut B4Q hfwQ hrQ BIQ BKQ hKQ hfSQ BM
  go_upto_if 53 with (go_at_call 45;refine(H2 _ (by exact frc)).mono ?_;rintro e w5 ⟨od,rfl,hr5,hf5⟩)
  have hM5:=hM0.rb hf5 hr5 (by omega) (by omega) hrl
  generalize hb7:WR.heap.size+1=b7 at *
  clear hM0 H2 hr5 hf5
  go_cut [] (fun wx=>MJ 2000 rb (q+58) (w.heap.size+1) b7 w wx)
  case first=>
   cases od
   ·go_wp2_with fail
    go_meet
    exact hM5.up (by omega) (by omega)
   ·have H3:=fun W (hW:Fr No w5 W)=>zrd rb (q+27) 8 W (hM5.r.keep hW) (by omega) (by omega) (by omega)
    go_wp2_with (go_at_call 23;refine(H3 _ (by exact frc)).mono ?_;rintro e w6 ⟨k8,hk8,rfl,hr6,hf6⟩;refine Hid.out ?_)
    refine Lib.hid ?_
    have hM6:=hM5.rb hf6 hr6 (by omega) (by omega) hrl
    clear hM5 H3 hr6 hf6
    obtain⟨⟨x,Aa,Ac,Am,ca,cc,cm,BX,hx,hSm⟩,hr6,hf6,BZ⟩:=hM6
    obtain⟨hn1',hn2',hn3'⟩:=hSm
    have hSm:zux 2000 x:=⟨by omega,by omega,by omega⟩
    have hK:MK rb (q+28) (w.heap.size+1) w6.heap.size b7 w w6 x Aa Ac Am ca cc cm:=⟨BX,hx.wid (fun b h1 h2=>h1.imp id (fun h=>h.resolve_right (by omega))),hr6,hf6,BZ⟩
    obtain⟨m0,m1,m2,m3,m4,m5,m6,m7⟩:=Bx.c8 BX
    have ml:=BX.lt
    have mf:=fun i=>BX.frozen i
    clear BX hx hr6 hf6 BZ
    have hk:k8=0∨k8=1∨k8=2∨k8=3∨k8=4∨k8=5∨k8=6∨k8=7:=by omega
    rcases hk with rfl|rfl|rfl|rfl|rfl|rfl|rfl|rfl
    ·go_wp2_with fail
     go_meet
     obtain⟨va9,vc9,vm9,e9,z0,z1,ha,hc,hm⟩:=hK.h.weaken (Y:=fun b=>b<w.heap.size+1∨b=b7) (fun b h=>h.imp id .inl)
     cases e9
     exact hK.put (by omega) hrl (by omega) (Fr.put1 _ _ _ _) ⟨{ x with name:=⟨#[]⟩ },Aa,Ac,Am,ca,cc,cm,hK.b.set_ 0 _,⟨_,_,_,rfl,Nat.zero_le _,z1,ha,hc,hm⟩,hSm⟩
    ·obtain⟨va9,vc9,vm9,e9,z0,z1,ha,hc,hm⟩:=hK.h
     cases e9
     obtain⟨ks,hkl,hkR,hks⟩:=ha.raw
     have hone:=zrJ zuz hkl hkR
     have hl9:ks.length≤100000:=by omega
     replace hkl:=Lib.hid hkl
     replace hkR:=Lib.hid hkR
     clear z0 z1 ha hc hm
     go_wp2_with (at_builtin;refine Hid.out ?_)
     refine Lib.hid ?_
     refine zqF zrh rfl _ _ rfl _ rfl (fun b=>b<w.heap.size+1∨b=b7∨w6.heap.size≤b) (.slice Aa x.args.length ca) ks rfl (hks.rawKeep (show Fr No w6 _ from frc) zN) hl9 hone ?_
     intro A7 c7 w7 hrow7 hq7 hf7
     have hf67:Fr No w6 w7:=((Fr.refl No w6).alloc _).trans0 hf7
     have K7:=hK.keep hf67
     have hs67:=hf67.size
     have hq7':∀q,zcP (.slice A7 ks.length c7)=some q->w6.heap.size<q:=fun q hq=>by rw[hq7 q hq,World.size_alloc];omega
     have hrl6:=hK.r.lt
     have hb76:=hK.b.lt
     simp only[Act.put,lz0,lz1,lz2]
     replace hq7':=Lib.hid hq7'
     replace hrow7:=Lib.hid hrow7
     clear hq7 hf7 m0 m1 m2 m3 m4 m5 m6 m7 ml mf hks
     replace hK:=Lib.hid hK
     have H10:=fun W (hW:Fr No w7 W)=>zsj rb (q+28) 2 W (K7.r.keep hW) (by omega) (by omega) (by omega)
     go_wp2_with (go_at_call 73;refine(H10 _ (by exact frc)).mono ?_;rintro e w10 ⟨x1,s1,rfl,hz1,hr10,hf10⟩;refine Hid.out ?_)
     refine Lib.hid ?_
     have K10:=K7.step hf10 hr10 (by omega) (by omega) hrl
     have hrow10:=Lib.hid (hrow7.out.keep hf10 (fun q9 h9 e9=>by have:=hq7'.out q9 h9;omega))
     have hs10:=hf10.size
     clear H10 hr10 hf10
     replace K7:=Lib.hid K7
     replace hrow7:=Lib.hid hrow7
     have H11:=fun W (hW:Fr No w10 W)=>zsj rb (q+30) 2 W (K10.r.keep hW) (by omega) (by omega) (by omega)
     go_wp2_with (go_at_call 73;refine(H11 _ (by exact frc)).mono ?_;rintro e w11 ⟨x2,s2,rfl,hz2,hr11,hf11⟩;refine Hid.out ?_)
     refine Lib.hid ?_
     have K11:=K10.step hf11 hr11 (by omega) (by omega) hrl
     have hrow11:=Lib.hid (hrow10.out.keep hf11 (fun q9 h9 e9=>by have:=hq7'.out q9 h9;omega))
     have hs11:=hf11.size
     clear H11 hr11 hf11
     replace K10:=Lib.hid K10
     replace hrow10:=Lib.hid hrow10
     have H12:=fun W (hW:Fr No w11 W)=>zsj rb (q+32) 2 W (K11.r.keep hW) (by omega) (by omega) (by omega)
     go_wp2_with (go_at_call 73;refine(H12 _ (by exact frc)).mono ?_;rintro e w12 ⟨x3,s3,rfl,hz3,hr12,hf12⟩;refine Hid.out ?_)
     refine Lib.hid ?_
     have K12:=K11.step hf12 hr12 (by omega) (by omega) hrl
     have hrow12:=Lib.hid (hrow11.out.keep hf12 (fun q9 h9 e9=>by have:=hq7'.out q9 h9;omega))
     have hs12:=hf12.size
     clear H12 hr12 hf12
     replace K11:=Lib.hid K11
     replace hrow11:=Lib.hid hrow11
     have hlit:=RowV.lit w12 45 2 [zre ⟨x1,s1⟩,zre ⟨x2,s2⟩,zre ⟨x3,s3⟩] (by simp)
     have ha8:=(Fr.refl No w12).alloc (.cells (rawL [zre ⟨x1,s1⟩,zre ⟨x2,s2⟩,zre ⟨x3,s3⟩]).toArray 45)
     have hlS:=hlit.rawSl (X:=No) (xs:=[zre ⟨x1,s1⟩,zre ⟨x2,s2⟩,zre ⟨x3,s3⟩]) rfl (R:=RawC) (fun i _ _=>rfl) (fun _ _ h=>h)
     go_wp2_with (at_builtin;refine Hid.out ?_)
     refine Lib.hid ?_
     refine zqG zrh rfl _ _ rfl (.slice A7 ks.length c7) ks.length ks rfl rfl (hrow12.out.keep0 ha8) hl9 No w12.heap.size 0 _ [zre ⟨x1,s1⟩,zre ⟨x2,s2⟩,zre ⟨x3,s3⟩] rfl hlS (by simp) (by simp) (zrf [⟨x1,s1⟩,⟨x2,s2⟩,⟨x3,s3⟩]) ?_
     intro g8 c8 w8 hrow8 hcap8 hgf8 hor8
     have hgb:w6.heap.size<g8:=by
      rcases hor8 with h9|h9
      ·exact hq7'.out _ h9
      ·rw[World.size_alloc] at h9;omega
     have hfL8:Fr (fun b=>w6.heap.size<b) w12 w8:=(Fr.of0 ha8).trans hgf8 (fun b _ e=>hq7'.out b e)
     simp only[Act.put,lz0,lz1,lz2]
     have hbs:b7<w12.heap.size:=by have:=K12.b.lt;omega
     have hx8:=(K12.h.keep hfL8 (fun b e=>.inr (.inr (by omega)))).weaken (Y:=fun b=>b<w.heap.size+1∨b=b7) (fun b h=>h.imp id .inl)
     have hs06:=K12.f.size
     have hargs:Sl (fun b=>b<w.heap.size+1∨b=b7) w8 2 KndC (.slice (some ⟨g8,0,none⟩) (x.args ++ [(⟨x1,s1⟩:Knd),⟨x2,s2⟩,⟨x3,s3⟩]).length c8) (x.args ++ [(⟨x1,s1⟩:Knd),⟨x2,s2⟩,⟨x3,s3⟩]):=by
      have hl:(x.args ++ [(⟨x1,s1⟩:Knd),⟨x2,s2⟩,⟨x3,s3⟩]).length=ks.length+3:=by rw[List.length_append,hkl.out];rfl
      have:=hrow8
      refine RowV.rawSl (ks:=ks ++ [zre ⟨x1,s1⟩,zre ⟨x2,s2⟩,zre ⟨x3,s3⟩]) (e:=45) (by rw[hl];exact hrow8) (by simp[hkl.out]) (zuA hkl.out hkR.out (fun i h1 h2=>?_)) (fun q hq=>?_)
      ·have hi:i=0∨i=1∨i=2:=by simp at h1;omega
       rcases hi with rfl|rfl|rfl
       ·exact⟨rfl,by show s1.size≤maxLen;unfold maxLen;omega⟩
       ·exact⟨rfl,by show s2.size≤maxLen;unfold maxLen;omega⟩
       ·exact⟨rfl,by show s3.size≤maxLen;unfold maxLen;omega⟩
      ·rw[zcQ] at hq
       split at hq
       ·cases hq
       ·cases hq;show ¬(g8<_∨g8=b7);omega
     have B8:=K12.b.keepX hfL8 (by omega)
     have hfin:=Lib.hid (fun(u:Value) (hu:u=.slice (some ⟨g8,0,none⟩) (x.args ++ [(⟨x1,s1⟩:Knd),⟨x2,s2⟩,⟨x3,s3⟩]).length c8)=>(show MJ 2000 rb (q+58) (w.heap.size+1) b7 w (w8.setCell ⟨b7,1,none⟩ u) from MJ.set1 ((K12.r.far hfL8 (fun b e=>by omega)).up (by omega)) (K12.f.trans hfL8 (fun b hb e=>by omega)) (K12.z.keepX hfL8 (by omega)) hrl (by omega) (Fr.put1 _ _ _ _) (by
      subst hu
      obtain⟨va9,vc9,vm9,e9,z0,z1,_,hc,hm⟩:=hx8
      cases e9
      exact⟨{ x with args:=x.args ++ [(⟨x1,s1⟩:Knd),⟨x2,s2⟩,⟨x3,s3⟩] },some ⟨g8,0,none⟩,Ac,Am,c8,cc,cm,B8.set_ 1 _,⟨_,_,_,rfl,z0,z1,hargs,hc,hm⟩,⟨by show(x.args ++ _).length≤2000;rw[List.length_append];simp;omega,hSm.2.1,hSm.2.2⟩⟩)))
     obtain⟨n0,n1,n2,n3,n4,n5,n6,n7⟩:=Bx.c8 B8
     have nl:=B8.lt
     have nf:=fun i=>B8.frozen i
     replace hargs:=Lib.hid hargs
     replace hx8:=Lib.hid hx8
     clear hrow8 hgf8 hor8 hlS hlit
     go_wp2_with fail
     go_meet
     exact hfin.out _ (by rw[List.length_append,hkl.out];rfl)
    ·go_wp2_with fail
     go_meet
     obtain⟨va9,vc9,vm9,e9,z0,z1,ha,hc,hm⟩:=hK.h.weaken (Y:=fun b=>b<w.heap.size+1∨b=b7) (fun b h=>h.imp id .inl)
     cases e9
     exact hK.put (by omega) hrl (by omega) ((Fr.put1 _ _ _ _).same (Fr.put1 _ _ _ _)) ⟨{ x with ret:=⟨0,⟨#[]⟩⟩ },Aa,Ac,Am,ca,cc,cm,(hK.b.set_ 2 _).set_ 3 _,⟨_,_,_,rfl,z0,Nat.zero_le _,ha,hc,hm⟩,hSm⟩
    ·have H4:=fun W (hW:Fr No w6 W)=>zrd rb (q+28) 3 W (hK.r.keep hW) (by omega) (by omega) (by omega)
     go_wp2_with (go_at_call 23;refine(H4 _ (by exact frc)).mono ?_;rintro e w7 ⟨k9,hk9,rfl,hr7,hf7⟩;refine Hid.out ?_)
     refine Lib.hid ?_
     have N7:=(Bx.new w6 3 #[.int .i64 0,.int .i64 7,.int .i64 1]).keepX hf7 (by have:=hK.r.lt;omega)
     have K7:=(hK.keep ((Fr.refl No w6).alloc (.cells #[.int .i64 0,.int .i64 7,.int .i64 1] 3))).step hf7 hr7 (by omega) (by omega) hrl
     obtain⟨y,hv,hy1,hy2⟩:=zsf (l:=(#[.int .i64 0,.int .i64 7,.int .i64 1]:Array Value).toList) (by decide) hk9 rfl
     have cy:w7.cell? ⟨w6.heap.size,k9,none⟩=some (.int .i64 y):=by
      have:=N7.cell k9
      rw[<-hv]
      simpa using this
     have nl:=N7.lt
     have hk99:(k9:Int)<3:=by omega
     obtain⟨n0,n1,n2,n3,n4,n5,n6,n7⟩:=Bx.c8 K7.b
     have ml7:=K7.b.lt
     have mf7:=fun i=>K7.b.frozen i
     obtain⟨va9,vc9,vm9,e9,z0,z1,ha,hc,hm⟩:=K7.h.weaken (Y:=fun b=>b<w.heap.size+1∨b=b7) (fun b h=>h.imp id .inl)
     cases e9
     clear H4 hv N7 hf7 hr7 m0 m1 m2 m3 m4 m5 m6 m7 ml mf
     replace hK:=Lib.hid hK
     go_wp2_with fail
     go_meet
     exact K7.put (by omega) hrl (by omega) (Fr.put1 _ _ _ _) ⟨{ x with locals:=y },Aa,Ac,Am,ca,cc,cm,K7.b.set_ 4 _,⟨_,_,_,rfl,z0,z1,ha,hc,hm⟩,hSm⟩
    ·have H4:=fun W (hW:Fr No w6 W)=>zrd rb (q+28) 2 W (hK.r.keep hW) (by omega) (by omega) (by omega)
     go_wp2_with (go_at_call 23;refine(H4 _ (by exact frc)).mono ?_;rintro e w7 ⟨k9,hk9,rfl,hr7,hf7⟩;refine Hid.out ?_)
     refine Lib.hid ?_
     have N7:=(Bx.new w6 3 #[.int .i64 0,.int .i64 6]).keepX hf7 (by have:=hK.r.lt;omega)
     have K7:=(hK.keep ((Fr.refl No w6).alloc (.cells #[.int .i64 0,.int .i64 6] 3))).step hf7 hr7 (by omega) (by omega) hrl
     obtain⟨y,hv,hy1,hy2⟩:=zsf (l:=(#[.int .i64 0,.int .i64 6]:Array Value).toList) (by decide) hk9 rfl
     have cy:w7.cell? ⟨w6.heap.size,k9,none⟩=some (.int .i64 y):=by
      have:=N7.cell k9
      rw[<-hv]
      simpa using this
     have nl:=N7.lt
     have hk99:(k9:Int)<2:=by omega
     obtain⟨n0,n1,n2,n3,n4,n5,n6,n7⟩:=Bx.c8 K7.b
     have ml7:=K7.b.lt
     have mf7:=fun i=>K7.b.frozen i
     obtain⟨va9,vc9,vm9,e9,z0,z1,ha,hc,hm⟩:=K7.h.weaken (Y:=fun b=>b<w.heap.size+1∨b=b7) (fun b h=>h.imp id .inl)
     cases e9
     clear H4 hv N7 hf7 hr7 m0 m1 m2 m3 m4 m5 m6 m7 ml mf
     replace hK:=Lib.hid hK
     go_wp2_with fail
     go_meet
     exact K7.put (by omega) hrl (by omega) (Fr.put1 _ _ _ _) ⟨{ x with stack:=y },Aa,Ac,Am,ca,cc,cm,K7.b.set_ 5 _,⟨_,_,_,rfl,z0,z1,ha,hc,hm⟩,hSm⟩
    ·obtain⟨va9,vc9,vm9,e9,z0,z1,ha,hc,hm⟩:=hK.h
     cases e9
     obtain⟨ks,hkl,hkR,hks⟩:=hc.raw
     have hone:=zrJ zrO hkl hkR
     have hl9:ks.length≤100000:=by omega
     replace hkl:=Lib.hid hkl
     replace hkR:=Lib.hid hkR
     clear z0 z1 ha hc hm
     go_wp2_with (at_builtin;refine Hid.out ?_)
     refine Lib.hid ?_
     refine zqF zrY rfl _ _ rfl _ rfl (fun b=>b<w.heap.size+1∨b=b7∨w6.heap.size≤b) (.slice Ac x.code.length cc) ks rfl (hks.rawKeep (show Fr No w6 _ from frc) zN) hl9 hone ?_
     intro A7 c7 w7 hrow7 hq7 hf7
     have hf67:Fr No w6 w7:=((Fr.refl No w6).alloc _).trans0 hf7
     have K7:=hK.keep hf67
     have hs67:=hf67.size
     have hq7':∀q,zcP (.slice A7 ks.length c7)=some q->w6.heap.size<q:=fun q hq=>by rw[hq7 q hq,World.size_alloc];omega
     have hrl6:=hK.r.lt
     have hb76:=hK.b.lt
     simp only[Act.put,lz0,lz1,lz2]
     replace hq7':=Lib.hid hq7'
     replace hrow7:=Lib.hid hrow7
     clear hq7 hf7 m0 m1 m2 m3 m4 m5 m6 m7 ml mf hks
     replace hK:=Lib.hid hK
     have H12:=fun W (hW:Fr No w7 W)=>zsg rb (q+28) 2 W (K7.r.keep hW) (by omega) (by omega) (by omega)
     go_wp2_with (go_at_call 74;refine(H12 _ (by exact frc)).mono ?_;rintro e w12 ⟨i9,rfl,hz1,hz2,hz3,hz4,hz5,hz6,hr12,hf12⟩;refine Hid.out ?_)
     refine Lib.hid ?_
     have K12:=K7.step hf12 hr12 (by omega) (by omega) hrl
     have hrow12:=Lib.hid (hrow7.out.keep hf12 (fun q9 h9 e9=>by have:=hq7'.out q9 h9;omega))
     have hs12:=hf12.size
     clear H12 hr12 hf12
     replace K7:=Lib.hid K7
     replace hrow7:=Lib.hid hrow7
     have hlit:=RowV.lit w12 141 4 [zuB i9] (by simp)
     have ha8:=(Fr.refl No w12).alloc (.cells (rawL [zuB i9]).toArray 141)
     have hlS:=hlit.rawSl (X:=No) (xs:=[zuB i9]) rfl (R:=RawC) (fun i _ _=>rfl) (fun _ _ h=>h)
     go_wp2_with (at_builtin;refine Hid.out ?_)
     refine Lib.hid ?_
     refine zqG zrY rfl _ _ rfl (.slice A7 ks.length c7) ks.length ks rfl rfl (hrow12.out.keep0 ha8) hl9 No w12.heap.size 0 _ [zuB i9] rfl hlS (by simp) (by simp) (by intro u hu;simp only[rawL,zuB,List.flatMap_cons,List.flatMap_nil,List.append_nil,List.mem_cons,List.not_mem_nil,or_false] at hu;rcases hu with rfl|rfl|rfl|rfl<;>rfl) ?_
     intro g8 c8 w8 hrow8 hcap8 hgf8 hor8
     have hgb:w6.heap.size<g8:=by
      rcases hor8 with h9|h9
      ·exact hq7'.out _ h9
      ·rw[World.size_alloc] at h9;omega
     have hfL8:Fr (fun b=>w6.heap.size<b) w12 w8:=(Fr.of0 ha8).trans hgf8 (fun b _ e=>hq7'.out b e)
     simp only[Act.put,lz0,lz1,lz2]
     have hbs:b7<w12.heap.size:=by have:=K12.b.lt;omega
     have hx8:=(K12.h.keep hfL8 (fun b e=>.inr (.inr (by omega)))).weaken (Y:=fun b=>b<w.heap.size+1∨b=b7) (fun b h=>h.imp id .inl)
     have hs06:=K12.f.size
     have hargs:Sl (fun b=>b<w.heap.size+1∨b=b7) w8 4 InsC (.slice (some ⟨g8,0,none⟩) (x.code ++ [i9]).length c8) (x.code ++ [i9]):=by
      have hl:(x.code ++ [i9]).length=ks.length+1:=by rw[List.length_append,hkl.out];rfl
      have:=hrow8
      refine RowV.rawSl (ks:=ks ++ [zuB i9]) (e:=141) (by rw[hl];exact hrow8) (by simp[hkl.out]) (zuA hkl.out hkR.out (fun i h1 h2=>?_)) (fun q hq=>?_)
      ·have hi:i=0:=by simp at h1;omega
       subst hi
       exact⟨rfl,by show i9.name.size≤maxLen;unfold maxLen;omega,by show i9.member.size≤maxLen;unfold maxLen;omega⟩
      ·rw[zcQ] at hq
       split at hq
       ·cases hq
       ·cases hq;show ¬(g8<_∨g8=b7);omega
     have B8:=K12.b.keepX hfL8 (by omega)
     have hfin:=Lib.hid (fun(u:Value) (hu:u=.slice (some ⟨g8,0,none⟩) (x.code ++ [i9]).length c8)=>(show MJ 2000 rb (q+58) (w.heap.size+1) b7 w (w8.setCell ⟨b7,6,none⟩ u) from MJ.set1 ((K12.r.far hfL8 (fun b e=>by omega)).up (by omega)) (K12.f.trans hfL8 (fun b hb e=>by omega)) (K12.z.keepX hfL8 (by omega)) hrl (by omega) (Fr.put1 _ _ _ _) (by
      subst hu
      obtain⟨va9,vc9,vm9,e9,z0,z1,ha,_,hm⟩:=hx8
      cases e9
      exact⟨{ x with code:=x.code ++ [i9] },Aa,some ⟨g8,0,none⟩,Am,ca,c8,cm,B8.set_ 6 _,⟨_,_,_,rfl,z0,z1,ha,hargs,hm⟩,⟨hSm.1,by show(x.code ++ _).length≤2000;rw[List.length_append];simp;omega,hSm.2.2⟩⟩)))
     obtain⟨n0,n1,n2,n3,n4,n5,n6,n7⟩:=Bx.c8 B8
     have nl:=B8.lt
     have nf:=fun i=>B8.frozen i
     replace hargs:=Lib.hid hargs
     replace hx8:=Lib.hid hx8
     clear hrow8 hgf8 hor8 hlS hlit
     go_wp2_with fail
     go_meet
     exact hfin.out _ (by rw[List.length_append,hkl.out];rfl)
    ·obtain⟨va9,vc9,vm9,e9,z0,z1,ha,hc,hm⟩:=hK.h
     cases e9
     obtain⟨ks,hkl,hkR,hks⟩:=hm.raw
     have hone:=zrJ zrM hkl hkR
     have hl9:ks.length≤100000:=by omega
     replace hkl:=Lib.hid hkl
     replace hkR:=Lib.hid hkR
     clear z0 z1 ha hc hm
     go_wp2_with (at_builtin;refine Hid.out ?_)
     refine Lib.hid ?_
     refine zqF zrW rfl _ _ rfl _ rfl (fun b=>b<w.heap.size+1∨b=b7∨w6.heap.size≤b) (.slice Am x.maps.length cm) ks rfl (hks.rawKeep (show Fr No w6 _ from frc) zN) hl9 hone ?_
     intro A7 c7 w7 hrow7 hq7 hf7
     have hf67:Fr No w6 w7:=((Fr.refl No w6).alloc _).trans0 hf7
     have K7:=hK.keep hf67
     have hF7:Fr (fun b=>b=rb∨w6.heap.size≤b) w6 w7:=Fr.of0 hf67
     have hA7l:=Lib.hid (fun q (hq:zcP (.slice A7 ks.length c7)=some q)=>hrow7.lt hq)
     have hs67:=hf67.size
     have hq7':∀q,zcP (.slice A7 ks.length c7)=some q->w6.heap.size<q:=fun q hq=>by rw[hq7 q hq,World.size_alloc];omega
     have hrl6:=hK.r.lt
     have hb76:=hK.b.lt
     simp only[Act.put,lz0,lz1,lz2]
     replace hq7':=Lib.hid hq7'
     replace hrow7:=Lib.hid hrow7
     clear hq7 hf7 m0 m1 m2 m3 m4 m5 m6 m7 ml mf hks
     replace hK:=Lib.hid hK
     have H10:=fun W (hW:Fr No w7 W)=>zrd rb (q+28) 9 W (K7.r.keep hW) (by omega) (by omega) (by omega)
     go_wp2_with (go_at_call 23;refine(H10 _ (by exact frc)).mono ?_;rintro e w10 ⟨k9,hk9,rfl,hr10,hf10⟩;refine Hid.out ?_)
     refine Lib.hid ?_
     have K10:=K7.step hf10 hr10 (by omega) (by omega) hrl
     have hrow10:=Lib.hid (hrow7.out.keep hf10 (fun q9 h9 e9=>by have:=hq7'.out q9 h9;omega))
     have hs10:=hf10.size
     have hF10:=hF7.trans hf10 (fun b _ e=>.inl e)
     clear H10 hr10 hf10 hF7
     replace K7:=Lib.hid K7
     replace hrow7:=Lib.hid hrow7
     have H11:=fun W (hW:Fr No w10 W)=>zsk rb (q+29) 3 W (K10.r.keep hW) (by omega) (by omega) (by omega)
     go_wp2_with (go_at_call 75;refine(H11 _ (by exact frc)).mono ?_;rintro e w11 ⟨x1,s1,rfl,hz1,hr11,hf11⟩;refine Hid.out ?_)
     refine Lib.hid ?_
     obtain⟨w12,hw12⟩:∃w12,w12=w11.alloc (.cells #[.int .i64 x1,.string s1] 144):=⟨_,rfl⟩
     have hf12:Fr No w11 w12:=hw12▸frc
     have K11:=K10.step hf11 hr11 (by omega) (by omega) hrl
     have K12:=K11.keep hf12
     have hrow12:=Lib.hid ((hrow10.out.keep hf11 (fun q9 h9 e9=>by have:=hq7'.out q9 h9;omega)).keep0 hf12)
     have hF12:=(hF10.trans hf11 (fun b _ e=>.inl e)).trans0 hf12
     have hs11:=hf11.size
     have hs12:=hf12.size
     have htag:RowV w12 144 2 (.slice (some ⟨w11.heap.size,0,none⟩) 1 1) 1 (rawL [zrn ⟨x1,s1⟩]):=by
      rw[hw12]
      exact RowV.lit w11 _ 2 [zrn ⟨x1,s1⟩] (by simp)
     have htl:=K11.b.lt
     clear H11 hr11 hf11 K11 hf12 hF10
     replace K10:=Lib.hid K10
     replace hrow10:=Lib.hid hrow10
     go_step
     go_step
     go_step
     go_step
     rw[<-hw12]
     replace hw12:=Lib.hid hw12
     have hlit:=RowV.lit w12 148 3 [(⟨[.int .i64 (k9:Int),.slice (some ⟨w11.heap.size,0,none⟩) 1 1,.slice none 0 0],rfl⟩:Raw 3)] (by simp)
     have ha8:=(Fr.refl No w12).alloc (.cells (rawL [(⟨[.int .i64 (k9:Int),.slice (some ⟨w11.heap.size,0,none⟩) 1 1,.slice none 0 0],rfl⟩:Raw 3)]).toArray 148)
     have hlS:=hlit.rawSl (X:=No) (xs:=[(⟨[.int .i64 (k9:Int),.slice (some ⟨w11.heap.size,0,none⟩) 1 1,.slice none 0 0],rfl⟩:Raw 3)]) rfl (R:=RawC) (fun i _ _=>rfl) (fun _ _ h=>h)
     go_wp2_with (at_builtin;refine Hid.out ?_)
     refine Lib.hid ?_
     refine zqG zrW rfl _ _ rfl (.slice A7 ks.length c7) ks.length ks rfl rfl (hrow12.out.keep0 ha8) hl9 No w12.heap.size 0 _ [(⟨[.int .i64 (k9:Int),.slice (some ⟨w11.heap.size,0,none⟩) 1 1,.slice none 0 0],rfl⟩:Raw 3)] rfl hlS (by simp) (by simp) (by intro u hu;simp only[rawL,List.flatMap_cons,List.flatMap_nil,List.append_nil,List.mem_cons,List.not_mem_nil,or_false] at hu;rcases hu with rfl|rfl|rfl<;>rfl) ?_
     intro g8 c8 w8 hrow8 hcap8 hgf8 hor8
     have hgb:w6.heap.size<g8:=by
      rcases hor8 with h9|h9
      ·exact hq7'.out _ h9
      ·rw[World.size_alloc] at h9;omega
     have hfL8:Fr (fun b=>w6.heap.size<b) w12 w8:=(Fr.of0 ha8).trans hgf8 (fun b _ e=>hq7'.out b e)
     have hF8:=hF12.trans hfL8 (fun b _ e=>.inr (by omega))
     have htag8:=((htag.keep0 ha8).keep hgf8 (fun q h1 h2=>by
      have:=hA7l.out q h2
      rw[zqC (by decide)] at h1
      cases h1;omega)).rawSl (X:=fun b=>b<w.heap.size+1∨b=b7) (xs:=[(⟨x1,s1⟩:Tag)]) rfl (R:=TagC) (fun i h1 h2=>by
      have hi:i=0:=by simp at h1;omega
      subst hi
      exact⟨rfl,by show s1.size≤maxLen;unfold maxLen;omega⟩) (fun q h1=>by
      rw[zqC (by decide)] at h1
      cases h1
      have:=K12.f.size
      omega)
     simp only[Act.put,lz0,lz1,lz2]
     have hbs:b7<w12.heap.size:=by have:=K12.b.lt;omega
     have hx8:=(K12.h.keep hfL8 (fun b e=>.inr (.inr (by omega)))).weaken (Y:=fun b=>b<w.heap.size+1∨b=b7) (fun b h=>h.imp id .inl)
     have hs06:=K12.f.size
     have hargs:Sl (fun b=>b<w.heap.size+1∨b=b7) w8 3 (MapC (fun b=>b<w.heap.size+1∨b=b7) w8) (.slice (some ⟨g8,0,none⟩) (x.maps ++ [(⟨k9,[⟨x1,s1⟩],[]⟩:Mp)]).length c8) (x.maps ++ [(⟨k9,[⟨x1,s1⟩],[]⟩:Mp)]):=by
      have hl:(x.maps ++ [(⟨k9,[⟨x1,s1⟩],[]⟩:Mp)]).length=ks.length+1:=by rw[List.length_append,hkl.out];rfl
      refine RowV.rawSl (ks:=ks ++ [(⟨[.int .i64 (k9:Int),.slice (some ⟨w11.heap.size,0,none⟩) 1 1,.slice none 0 0],rfl⟩:Raw 3)]) (e:=148) (by rw[hl];exact hrow8) (by simp[hkl.out]) (zuA hkl.out (fun i h1 h2=>((hkR.out i h1 h2).keep hF8 (fun b e=>e.elim (fun e=>.inl (by omega)) (fun e=>.inr (.inr e)))).weaken (fun b h=>h.imp id .inl)) (fun i h1 h2=>?_)) (fun q hq=>?_)
      ·have hi:i=0:=by simp at h1;omega
       subst hi
       exact⟨_,_,rfl,htag8,Sl.nil _ _ _ _⟩
      ·rw[zcQ] at hq
       split at hq
       ·cases hq
       ·cases hq;show ¬(g8<_∨g8=b7);omega
     have B8:=K12.b.keepX hfL8 (by omega)
     have hfin:=Lib.hid (fun(u:Value) (hu:u=.slice (some ⟨g8,0,none⟩) (x.maps ++ [(⟨k9,[⟨x1,s1⟩],[]⟩:Mp)]).length c8)=>(show MJ 2000 rb (q+58) (w.heap.size+1) b7 w (w8.setCell ⟨b7,7,none⟩ u) from MJ.set1 ((K12.r.far hfL8 (fun b e=>by omega)).up (by omega)) (K12.f.trans hfL8 (fun b hb e=>by omega)) (K12.z.keepX hfL8 (by omega)) hrl (by omega) (Fr.put1 _ _ _ _) (by
      subst hu
      obtain⟨va9,vc9,vm9,e9,z0,z1,ha,hc,_⟩:=hx8
      cases e9
      exact⟨{ x with maps:=x.maps ++ [(⟨k9,[⟨x1,s1⟩],[]⟩:Mp)] },Aa,Ac,some ⟨g8,0,none⟩,ca,cc,c8,B8.set_ 7 _,⟨_,_,_,rfl,z0,z1,ha,hc,hargs⟩,⟨hSm.1,hSm.2.1,by show(x.maps ++ _).length≤2000;rw[List.length_append];simp;omega⟩⟩)))
     obtain⟨n0,n1,n2,n3,n4,n5,n6,n7⟩:=Bx.c8 B8
     have nl:=B8.lt
     have nf:=fun i=>B8.frozen i
     replace hargs:=Lib.hid hargs
     replace hx8:=Lib.hid hx8
     clear hrow8 hgf8 hor8 hlS hlit
     go_wp2_with fail
     go_meet
     exact hfin.out _ (by rw[List.length_append,hkl.out];rfl)
    ·go_wp2_with fail
     go_meet
     obtain⟨va9,vc9,vm9,e9,z0,z1,ha,hc,hm⟩:=hK.h.weaken (Y:=fun b=>b<w.heap.size+1∨b=b7) (fun b h=>h.imp id .inl)
     cases e9
     exact hK.put (by omega) hrl (by omega) ((Fr.put1 _ _ _ _).trans0 ((Fr.refl No _).alloc _)) ⟨{ x with code:=[] },Aa,some ⟨w6.heap.size,0,none⟩,Am,ca,0,cm,(hK.b.set_ 6 _).alloc _,⟨_,_,_,rfl,z0,z1,ha,⟨_,_,rfl,Nat.le_refl _,Nat.zero_le _,fun h=>absurd h (by simp)⟩,hm⟩,⟨hSm.1,Nat.zero_le _,hSm.2.2⟩⟩
  case rest=>
   obtain⟨⟨x,Aa,Ac,Am,ca,cc,cm,BX,hx,_⟩,hr6,hf6,BZ⟩:=hcut
   obtain⟨m0,m1,m2,m3,m4,m5,m6,m7⟩:=Bx.c8 BX
   have ml:=BX.lt
   have mf:=fun i=>BX.frozen i
   go_upto_region 25 with (fail)
   go_step
   go_step
   go_step
   go_step
   refine zco rfl 49 (.tmp 4) (.tmp 122) rfl 8 (by kernel_rfl) w.heap.size 49 _ [.string x.name,.slice Aa x.args.length ca,.int .i64 x.ret.kind,.string x.ret.name,.int .i64 x.locals,.int .i64 x.stack,.slice Ac x.code.length cc,.slice Am x.maps.length cm] rfl rfl BZ rfl rfl (by simp[Value.oneCell']) ?_
   intro wF BF hfF
   have hfin:=Lib.hid (show zuw rb q w (.returned (.agg (zuu x Aa Ac Am ca cc cm).toArray)) wF from⟨x,Aa,Ac,Am,ca,cc,cm,rfl,(hx.keep hfF (fun b e=>.inl (by omega))).weaken (fun b e=>.inl (by have:b<w.heap.size:=e;omega)),(hr6.far hfF (fun b e=>by omega)).up (by omega),hf6.trans hfF (fun b hb e=>by omega)⟩)
   obtain⟨f0,f1,f2,f3,f4,f5,f6,f7⟩:=Bx.c8 BF
   have fl:=BF.lt
   have ff:=fun i=>BF.frozen i
   simp only[Act.put]
   clear BX hx hr6 hf6 BZ m0 m1 m2 m3 m4 m5 m6 m7 ml mf BF hfF
   go_wp2_with fail
   refine bodyPost_ret (v:=.agg (zuu x Aa Ac Am ca cc cm).toArray) (by simp[results,Tryz.results46,go_sem,zuu, *]) rfl ?_
   exact hfin.out
end Go.Proofs.YtbfmeklfpackjaaGreatDoor
