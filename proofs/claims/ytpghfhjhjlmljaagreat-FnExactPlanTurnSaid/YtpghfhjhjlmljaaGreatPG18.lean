/- The changes of a keeper: a class is taken, a name is freed; a class is given, a name is asked. -/
import Derived.Test.YtpghfhjhjlmljaaGreatPG15
import Derived.Test.YtpghfhjhjlmljaaGreatPG17
set_option maxHeartbeats 8000000
set_option maxRecDepth 100000
namespace Go.Proofs.YtpghfhjhjlmljaaGreat
open Go.RowKit
theorem OwnL.blk {α:Type} {E:TypeId} {sz:Nat} {R:OwnR α} {w:World} {Y:Nat->Prop} {v:Value} {xs:List α} (h:OwnL E sz R w Y v xs):∀q,zcP v=some q->Y q∧q<w.heap.size:=fun q hq=>let ⟨_,_,h⟩:=h;⟨h.own q hq,h.row.lt hq⟩
theorem zAM {w:World} {Y:Nat->Prop} {g n c:Nat} {ks:List Kpr} (h:zzE w Y (.slice (some ⟨g,0,none⟩) n c) ks) {i:Nat} (hi:i<ks.length):
  ∃vo va Y1 Y2,(∀b,Y1 b->Y b∧¬Y2 b∧b≠g∧b<w.heap.size)∧(∀b,Y2 b->Y b∧b≠g∧b<w.heap.size)∧Y g∧g<w.heap.size∧(∀o,w.frozen? ⟨g,o,none⟩=false)∧w.cell? ⟨g,i * 2,none⟩=some vo∧w.cell? ⟨g,i * 2+1,none⟩=some va ∧
   OwnL 42 4 ClsO w Y1 vo ks[i].owns∧OwnL 86 2 (zzC AskC) w Y2 va ks[i].asks ∧
   (∀w2 v' os,Fr Y1 w w2->OwnL 42 4 ClsO w2 (fun b=>Y1 b∨w.heap.size≤b) v' os->zzE (w2.setCell ⟨g,i * 2,none⟩ v') (fun b=>Y b∨w.heap.size≤b) (.slice (some ⟨g,0,none⟩) n c) (ks.set i ⟨os,ks[i].asks⟩)) ∧
   (∀w2 v' az,Fr Y2 w w2->OwnL 86 2 (zzC AskC) w2 (fun b=>Y2 b∨w.heap.size≤b) v' az->zzE (w2.setCell ⟨g,i * 2+1,none⟩ v') (fun b=>Y b∨w.heap.size≤b) (.slice (some ⟨g,0,none⟩) n c) (ks.set i ⟨ks[i].owns,az⟩)):=by
 obtain⟨rows,Ys,hP⟩:=h
 have h1:i<rows.length:=by rw[hP.len];exact hi
 obtain⟨g',c',he,_,_,hfz,hg,hgq,hc⟩:=hP.at_ (by omega)
 cases he
 have hS:=hP.sub i
 obtain⟨vo,va,Y1,Y2,er,hY1,hY2,hO,hA⟩:=hP.el i h1 hi
 have c0:=hc i h1 0 (by omega)
 have c1:=hc i h1 1 (by omega)
 rw[er] at c0 c1
 have hYg:=hP.own g hgq
 have hne:∀b,Ys i b->b≠g:=fun b hb e=>(hS b hi hb).2.2 (e▸hgq)
 refine⟨vo,va,fun b=>Y1 b∧b<w.heap.size,fun b=>Y2 b∧b<w.heap.size,fun b hb=>⟨(hS b hi (hY1 b hb.1).1).1,fun h=>(hY1 b hb.1).2 h.1,hne b (hY1 b hb.1).1,hb.2⟩,fun b hb=>⟨(hS b hi (hY2 b hb.1)).1,hne b (hY2 b hb.1),hb.2⟩,hYg,hg,hfz,c0,c1,
  hO.wid (fun b h k=>⟨h,k⟩),hA.wid (fun b h k=>⟨h,k⟩),fun w2 v' os hf hO2=>?_,fun w2 v' az hf hA2=>?_⟩
 ·have hs:=hf.size
  have hfc:=Fr.cell1 w2 g (i * 2) v'
  have hrow:=((hP.row.keep hf (fun q hq e=>by rw[hgq] at hq;cases hq;exact hne g (hY1 g e.1).1 rfl)).setAt (i:=i) (j:=0) hP.len h1 (by omega) v')
  have hfa:Fr (fun b=>zcP (.slice (some ⟨g,0,none⟩) ks.length c)=some b∨Ys i b) w (w2.setCell ⟨g,i * 2,none⟩ v'):=((hf.mono (Y:=fun b=>Ys i b) (fun b _ e=>(hY1 b e.1).1)).mono (fun _ _ e=>.inr e)).trans hfc (fun b _ e=>.inl (e▸hgq))
  refine⟨_,_,hP.set (w':=w2.setCell ⟨g,i * 2,none⟩ v') (Y':=fun b=>Y b∨w.heap.size≤b) (x:=⟨os,ks[i].asks⟩) (r:=Raw.put rows[i] 0 v') (Z:=fun b=>(Ys i b∨w.heap.size≤b)∧b<w2.heap.size) zzK hi hrow hfa
   ⟨v',va,fun b=>((Y1 b∧b<w.heap.size)∨w.heap.size≤b)∧b<w2.heap.size,fun b=>Y2 b∧b<w.heap.size,by simp only[Raw.put,er,lz1],fun b hb=>⟨⟨hb.1.imp (fun e=>(hY1 b e.1).1) id,hb.2⟩,fun h=>hb.1.elim (fun e=>(hY1 b e.1).2 h.1) (fun e=>by have:=h.2;omega)⟩,fun b hb=>⟨.inl (hY2 b hb.1),by have:=hb.2;omega⟩,?_,?_⟩ (fun b hb=>⟨Nat.lt_of_lt_of_le hb.2 hfc.size,hb.1⟩) (fun b hb _=>.inl hb) (fun b hb=>hb.1.imp (fun e=>(hS b hi e).1) id)⟩
  ·exact(hO2.keep zzJ hfc (fun b hb _ e=>hb.elim (fun k=>hne b (hY1 b k.1).1 e) (fun k=>by omega))).wid (fun b hb hl=>⟨hb,by simpa[World.setCell] using hl⟩)
  ·exact((hA.wid (fun b h k=>⟨h,k⟩)).keep (zzG _) hf (fun b hb _ e=>(hY1 b e.1).2 hb.1)).keep (zzG _) hfc (fun b hb _ e=>hne b (hY2 b hb.1) e)
 ·have hs:=hf.size
  have hfc:=Fr.cell1 w2 g (i * 2+1) v'
  have hrow:=((hP.row.keep hf (fun q hq e=>by rw[hgq] at hq;cases hq;exact hne g (hY2 g e.1) rfl)).setAt (i:=i) (j:=1) hP.len h1 (by omega) v')
  have hfa:Fr (fun b=>zcP (.slice (some ⟨g,0,none⟩) ks.length c)=some b∨Ys i b) w (w2.setCell ⟨g,i * 2+1,none⟩ v'):=((hf.mono (Y:=fun b=>Ys i b) (fun b _ e=>hY2 b e.1)).mono (fun _ _ e=>.inr e)).trans hfc (fun b _ e=>.inl (e▸hgq))
  refine⟨_,_,hP.set (w':=w2.setCell ⟨g,i * 2+1,none⟩ v') (Y':=fun b=>Y b∨w.heap.size≤b) (x:=⟨ks[i].owns,az⟩) (r:=Raw.put rows[i] 1 v') (Z:=fun b=>(Ys i b∨w.heap.size≤b)∧b<w2.heap.size) zzK hi hrow hfa
   ⟨vo,v',fun b=>Y1 b∧b<w.heap.size,fun b=>((Y2 b∧b<w.heap.size)∨w.heap.size≤b)∧b<w2.heap.size,by simp only[Raw.put,er,lz1,lz2],fun b hb=>⟨⟨.inl (hY1 b hb.1).1,by have:=hb.2;omega⟩,fun h=>h.1.elim (fun e=>(hY1 b hb.1).2 e.1) (fun e=>by have:=hb.2;omega)⟩,fun b hb=>⟨hb.1.imp (fun e=>hY2 b e.1) id,hb.2⟩,?_,?_⟩ (fun b hb=>⟨Nat.lt_of_lt_of_le hb.2 hfc.size,hb.1⟩) (fun b hb _=>.inl hb) (fun b hb=>hb.1.imp (fun e=>(hS b hi e).1) id)⟩
  ·exact((hO.wid (fun b h k=>⟨h,k⟩)).keep zzJ hf (fun b hb _ e=>(hY1 b hb.1).2 e.1)).keep zzJ hfc (fun b hb _ e=>hne b (hY1 b hb.1).1 e)
  ·exact(hA2.keep (zzG _) hfc (fun b hb _ e=>hb.elim (fun k=>hne b (hY2 b k.1) e) (fun k=>by omega))).wid (fun b hb hl=>⟨hb,by simpa[World.setCell] using hl⟩)
def zAN (Y:Nat->Prop) (v:Value) (ks:List Kpr) (w:World) (e:Ending) (w':World):Prop:=e=.returned (.tuple #[])∧zzE w' (fun b=>Y b∨w.heap.size≤b) v ks∧Fr Y w w'
theorem zAO (s:Str) (g n c i:Nat) (ks:List Kpr) (Y:Nat->Prop) (w:World) (h:zzE w Y (.slice (some ⟨g,0,none⟩) n c) ks) (hi:i<ks.length):
  Calls Tryz.prog 170 #[.agg #[.string s],.pointer (some ⟨g,i * 2,none⟩)] w (zAN Y (.slice (some ⟨g,0,none⟩) n c) (ks.set i ⟨ks[i].owns.filter (kCls s),ks[i].asks⟩) w):=by
 obtain⟨vo,va,Y1,Y2,hY1,hY2,hYg,hg,hfz,c0,c1,hO,hA,hset,_⟩:=zAM h hi
 obtain⟨Ao,co,rfl,_,_⟩:=hO.form
 have hw1:Fr No w (w.alloc (.cells #[.string s] 96)):=frc
 have HD:=zAt s w.heap.size Y1 _ ks[i].owns _ (hO.keep zzJ hw1 (fun _ _ _ h=>h)) (Bx.new_ rfl)
 have hYo:=OwnL.blk hO
 have hw0:=hw1.size
 clear hO hA
 go_enter Tryz.func170,Tryz.ntmps170
 go_wp2_with fail
 refine HD.mono ?_
 rintro e w2 ⟨v',rfl,hO2,hv,hf2⟩
 have hfw:Fr Y1 w w2:=(Fr.of0 hw1).trans hf2 (fun b _ e=>(hYo b e).1)
 have hN:=hset w2 v' _ hfw (hO2.wid (fun b hb _=>.inl hb))
 obtain⟨A',c',rfl,_,_⟩:=hO2.form
 have hfr:Fr Y w (w2.setCell ⟨g,i * 2,none⟩ (.slice A' (ks[i].owns.filter (kCls s)).length c')):=(hfw.mono (fun b _ e=>(hY1 b e).1)).trans (Fr.cell1 _ _ _ _) (fun b _ e=>e▸hYg)
 have hfin:=Lib.hid (show zAN Y (.slice (some ⟨g,0,none⟩) n c) (ks.set i ⟨ks[i].owns.filter (kCls s),ks[i].asks⟩) w (.returned (.tuple #[])) (w2.setCell ⟨g,i * 2,none⟩ (.slice A' (ks[i].owns.filter (kCls s)).length c')) from⟨rfl,hN,hfr⟩)
 have z0:=hfw.keep (fun _ h=>h) (fun h=>(hY1 g h).2.2.1 rfl) c0
 have zl:=lt_of_cell z0
 have zf:=fun o=>(hfw.frozenX o hg (fun h=>(hY1 g h).2.2.1 rfl)).trans (hfz o)
 clear c0 c1 hset hO2 hv hf2 hN hfr hfw h HD hYo hY1 hY2 hw1
 go_wp2_with fail
 refine bodyPost_ret (v:=.tuple #[]) (by simp[results,Tryz.results170,go_sem, *]) rfl ?_
 exact hfin.out
theorem zAP (s:Str) (g n c i:Nat) (ks:List Kpr) (Y:Nat->Prop) (w:World) (h:zzE w Y (.slice (some ⟨g,0,none⟩) n c) ks) (hi:i<ks.length):
  Calls Tryz.prog 175 #[.agg #[.string s],.pointer (some ⟨g,i * 2,none⟩)] w (zAN Y (.slice (some ⟨g,0,none⟩) n c) (ks.set i ⟨ks[i].owns,ks[i].asks.filter (kAsk s)⟩) w):=by
 obtain⟨vo,va,Y1,Y2,hY1,hY2,hYg,hg,hfz,c0,c1,hO,hA,_,hset⟩:=zAM h hi
 obtain⟨Aa,ca,rfl,_,_⟩:=hA.form
 have hw1:Fr No w (w.alloc (.cells #[.string s] 97)):=frc
 have HD:=zAx s w.heap.size Y2 _ ks[i].asks _ (hA.keep (zzG _) hw1 (fun _ _ _ h=>h)) (Bx.new_ rfl)
 have hYo:=OwnL.blk hA
 have hw0:=hw1.size
 clear hO hA
 go_enter Tryz.func175,Tryz.ntmps175
 go_wp2_with fail
 refine HD.mono ?_
 rintro e w2 ⟨v',rfl,hA2,hv,hf2⟩
 have hfw:Fr Y2 w w2:=(Fr.of0 hw1).trans hf2 (fun b _ e=>(hYo b e).1)
 have hN:=hset w2 v' _ hfw (hA2.wid (fun b hb _=>.inl hb))
 obtain⟨A',c',rfl,_,_⟩:=hA2.form
 have hfr:Fr Y w (w2.setCell ⟨g,i * 2+1,none⟩ (.slice A' (ks[i].asks.filter (kAsk s)).length c')):=(hfw.mono (fun b _ e=>(hY2 b e).1)).trans (Fr.cell1 _ _ _ _) (fun b _ e=>e▸hYg)
 have hfin:=Lib.hid (show zAN Y (.slice (some ⟨g,0,none⟩) n c) (ks.set i ⟨ks[i].owns,ks[i].asks.filter (kAsk s)⟩) w (.returned (.tuple #[])) (w2.setCell ⟨g,i * 2+1,none⟩ (.slice A' (ks[i].asks.filter (kAsk s)).length c')) from⟨rfl,hN,hfr⟩)
 have z0:=hfw.keep (fun _ h=>h) (fun h=>(hY2 g h).2.1 rfl) c1
 have zl:=lt_of_cell z0
 have zf:=fun o=>(hfw.frozenX o hg (fun h=>(hY2 g h).2.1 rfl)).trans (hfz o)
 clear c0 c1 hset hA2 hv hf2 hN hfr hfw h HD hYo hY1 hY2 hw1
 go_wp2_with fail
 refine bodyPost_ret (v:=.tuple #[]) (by simp[results,Tryz.results175,go_sem, *]) rfl ?_
 exact hfin.out
def clsX (x:Cls) (base:Nat):Value->World->Prop:=fun v W=>∃b cs,v=.slice (some ⟨b,0,none⟩) 1 1∧Bx W b 42 cs.toArray∧ClsO W (fun b=>base≤b) cs x
theorem zAQ (x:Cls) (base:Nat):MonP (clsX x base):=fun _ _ _ ⟨b,cs,h1,h2,h3⟩ hf=>⟨b,cs,h1,h2.keep hf,zzJ _ _ _ _ _ _ h3 hf (fun _ _ _ h=>h)⟩
def clsA (x:Cls) (base:Nat):Value->World->Prop:=fun v W=>∃vf vm,v=.agg #[.string x.name,.string x.super,vf,vm]∧ClsO W (fun b=>base≤b) [.string x.name,.string x.super,vf,vm] x
theorem zAR (x:Cls) (base:Nat):MonP (clsA x base):=fun _ _ _ ⟨vf,vm,h1,h2⟩ hf=>⟨vf,vm,h1,zzJ _ _ _ _ _ _ h2 hf (fun _ _ _ h=>h)⟩
theorem zAS (X:Nat->Prop) (x:Cls) (vf vm:Value) (g n c i:Nat) (ks:List Kpr) (Y:Nat->Prop) (w:World) (h:zzE w Y (.slice (some ⟨g,0,none⟩) n c) ks) (hi:i<ks.length) (hx:ClsC X w [.string x.name,.string x.super,vf,vm] x) (hsm:SmC x) (hXY:∀b,Y b->b<w.heap.size->X b) (hl:ks[i].owns.length≤1000):
  Calls Tryz.prog 169 #[.agg #[.string x.name,.string x.super,vf,vm],.pointer (some ⟨g,i * 2,none⟩)] w (zAN Y (.slice (some ⟨g,0,none⟩) n c) (ks.set i ⟨ks[i].owns.filter (kCls x.name) ++ [x],ks[i].asks⟩) w):=by
 have hx0:=id hx
 obtain⟨_,_,he,_,_,hf1,hm1⟩:=hx0
 simp only[List.cons.injEq,and_true,true_and] at he
 obtain⟨rfl,rfl⟩:=he
 obtain⟨Af,cf,rfl,_,_⟩:=hf1.form
 obtain⟨Am,cm,rfl,_,_⟩:=hm1.form
 clear hf1 hm1
 obtain⟨w1,hw1⟩:∃w1,w1=w.alloc (.cells #[.string x.name,.string x.super,.slice Af x.fields.length cf,.slice Am x.methods.length cm] 92):=⟨_,rfl⟩
 have hF1:Fr No w w1:=hw1▸frc
 have B1:Bx w1 w.heap.size 92 #[.string x.name,.string x.super,.slice Af x.fields.length cf,.slice Am x.methods.length cm]:=hw1▸bxc
 have hs1:w1.heap.size=w.heap.size+1:=by rw[hw1];simp
 replace hw1:=Lib.hid hw1
 have h1:zzE w1 (fun b=>Y b∧b<w.heap.size) _ ks:=(OwnL.wid h (fun b h1 h2=>⟨h1,h2⟩)).keep zzK hF1 (fun _ _ _ h=>h)
 have HT:=zAO x.name g n c i ks _ w1 h1 hi
 have p:=B1.c4
 have pl:=B1.lt
 go_enter Tryz.func169,Tryz.ntmps169
 go_wp2_with fail
 rw[<-hw1.out]
 refine HT.mono ?_
 rintro e w2 ⟨rfl,hT2,hf2⟩
 have hi2:i<(ks.set i ⟨ks[i].owns.filter (kCls x.name),ks[i].asks⟩).length:=by rw[List.length_set];exact hi
 obtain⟨vo,va,Y1,Y2,hY1,hY2,hYg,hg,hfz,c0,c1,hO,hA,hset,_⟩:=zAM hT2 hi2
 simp only[List.getElem_set_self,List.set_set] at hO hset
 have hfl:=List.length_filter_le (kCls x.name) ks[i].owns
 generalize hos:ks[i].owns.filter (kCls x.name)=os at *
 obtain⟨Ao,co,rfl,hco,_⟩:=hO.form
 have B2:=B1.keepX hf2 (by omega)
 have hF2:Fr Y w w2:=(Fr.of0 hF1).trans hf2 (fun b _ e=>e.1)
 have hx2:ClsC X w2 _ x:=hx.keep ((Fr.of0 hF1:Fr (fun b=>Y b∧b<w.heap.size) w w1).same hf2) (fun b e=>hXY b e.1 e.2)
 have HC:=fun W (hW:Fr No w2 W)=>zAC X x _ W (hx2.keep hW zN) hsm
 have K2:=B2.r4
 have KG:=fun W (hW:Fr No w2 W)=>(⟨hW.keep0 c0,fun o=>(hW.frozen (b:=g) o hg).trans (hfz o)⟩:W.cell? ⟨g,i * 2,none⟩=some (.slice Ao os.length co)∧∀o,W.frozen? ⟨g,o,none⟩=false)
 clear p pl h h1 HT hT2 hx hx2 B1 hA
 replace hos:=Lib.hid hos
 go_wp2_with fail
 refine zn0 9 19 [mE (mV (.pointer (some ⟨g,i * 2,none⟩))),mV (.pointer (some ⟨g,i * 2,none⟩)),mV (.pointer (some ⟨g,i * 2,none⟩)),mV (.pointer (some ⟨g,i * 2,none⟩)),mV (.slice Ao os.length co),mV (.pointer (some ⟨w.heap.size,0,none⟩)),mV (.agg #[.string x.name,.string x.super,.slice Af x.fields.length cf,.slice Am x.methods.length cm]),mC (clsA x w2.heap.size) (zAR _ _),mC (clsX x w2.heap.size) (zAQ _ _)] (by kernel_rfl) (by kernel_rfl) (by simp) ?_ ?_
 ·refine hc4 ?_ ?_ ?_ ?_ <| hc4 ?_ ?_ ?_ ?_ <| hopC ?_ <| hopZ
  all_goals (intro a' W hW hoff hdep;have hbs:=hW.size;have H1:=hoff 1 rfl;have H2:=hoff 2 rfl)
  ·exact yE rfl ⟨.pointer (some ⟨g,i * 2,none⟩),fun W=>by simp[execOp,Act.eval,H1,go_sem],rfl,rfl⟩
  ·refine nE rfl ?_;simp[execOp,Act.eval,H1,go_sem,zaa];exact fr1 rfl
  ·have D11:_=_:=hdep 1 11 rfl;refine nE rfl ?_;simp[execOp,Act.eval,D11,go_sem,zaa];exact fr1 rfl
  ·have D12:_=_:=hdep 2 12 rfl;refine nE rfl ?_;simp[execOp,Act.eval,D12,go_sem,zaa];exact fr1 rfl
  ·have D13:_=_:=hdep 3 13 rfl;refine nE rfl ?_;clear hoff hdep;simp[execOp,Act.eval,go_sem,zaa, *];exact fr1 rfl
  ·refine nE rfl ?_;simp[execOp,Act.eval,H2,go_sem,zaa];exact fr1 rfl
  ·have D15:_=_:=hdep 5 15 rfl;refine nE rfl ?_;clear hoff hdep;simp[execOp,Act.eval,go_sem,zaa, *];exact fr1 rfl
  ·have D16:_=_:=hdep 6 16 rfl;refine nE rfl ?_;simp[Act.eval,D16,go_sem,zaa];exact(HC _ hW).mono fun e w' h=>(let ⟨cs,h1,h2,h3⟩:=h;let ⟨vf,vm,_,_,e1,_⟩:=id h2;⟨_,h1,h3,vf,vm,by rw[e1],zzM _ _ _ _ _ (e1▸h2) (fun b hb _=>Nat.le_trans hbs hb)⟩)
  ·obtain⟨vf,vm,D17,hO9⟩:(clsA x w2.heap.size) _ W:=hdep 7 17 rfl;simp at D17;refine nE rfl ?_;simp[execOp,Act.eval,D17,go_sem,zaa];exact⟨(Fr.refl _ _).alloc _,_,_,rfl,Bx.new_ rfl,zzJ _ _ _ _ _ _ hO9 ((Fr.refl No _).alloc _) (fun _ _ _ h=>h)⟩
 intro vs WR hWR hv hne
 obtain⟨vfR7,vmR7,e7,hO9R7⟩:=hv 7 (by omega)
 obtain⟨bR8,csR8,e8,hBR8,hO9R8⟩:=hv 8 (by omega)
 simp only[lz6,List.drop_zero,znM,znL,znK,znR,Nat.zero_add,Nat.reduceAdd,e7,e8]
 simp only[Act.put,lz0,lz1,lz2]
 clear e7 e8 hv
 clear hne HC K2 KG
 obtain⟨hn4,hone⟩:=hO9R8.one
 have hqk:=fun q h=>hY1 q (OwnL.blk hO q h).1
 have hqy:=fun q h=>(OwnL.blk hO q h).1
 obtain⟨rws,Ys,hP⟩:=hO
 have hP:=hP.keep zzJ hWR (fun _ _ _ h=>h)
 refine zqH zAh rfl _ _ rfl (.slice Ao os.length co) os.length rws rfl hP.len.symm hP.row (by omega) bR8 42 csR8 rfl hBR8 hn4 hone ?_
 intro g8 c8 w8 hrow8 hcap8 hgf8 hor8
 simp only[Act.put,lz0,lz1,lz2]
 have hsR:=hWR.size
 have hs8:=hgf8.size
 have hrv:∀q,zcP (.slice (some ⟨g8,0,none⟩) (os.length+1) c8)=some q->q=g8:=fun q h=>by rw[zcQ,if_neg (by omega)] at h;cases h;rfl
 have hN:=hP.snoc (x:=x) (Z:=fun b=>w2.heap.size≤b∧b<WR.heap.size) (Y':=fun b=>Y1 b∨w2.heap.size≤b) zzJ hrow8 hgf8 (fun q h=>by rw[hrv q h];exact hor8.imp id (fun e=>by omega))
  (zzJ _ _ _ _ _ _ (zzM _ _ (fun b=>w2.heap.size≤b∧b<WR.heap.size) _ _ hO9R8 (fun b h1 h2=>⟨h1,h2⟩)) hgf8 (fun b hb _ e=>by have:=(hqk b e).2.2.2;omega))
  (fun b hb=>⟨by omega,fun h=>by have:=(hY1 b h.1).2.2.2;omega,fun e=>by rcases hor8 with h9|h9;have:=(hqk _ h9).2.2.2;have:=hrv b e;omega;have:=hrv b e;omega⟩) (fun b hb _=>.inl hb) (fun b hb=>.inr hb.1) (fun q h _=>by rcases hor8 with h9|h9;rw[hrv q h];exact .inl (hqy _ h9);exact .inr (by rw[hrv q h];omega))
 have hf28:Fr Y1 w2 w8:=(Fr.of0 hWR).trans hgf8 (fun b _ e=>hqy b e)
 have hM:=hset w8 _ _ hf28 ⟨_,_,hN⟩
 have hfr:Fr Y w (w8.setCell ⟨g,i * 2,none⟩ (.slice (some ⟨g8,0,none⟩) (os.length+1) c8)):=(hF2.trans hf28 (fun b hb e=>(hY1 b e).1.elim (fun k=>k.1) (fun k=>by omega))).trans (Fr.cell1 _ _ _ _) (fun b hb e=>by subst e;exact hYg.elim (fun k=>k.1) (fun k=>by omega))
 have hfin:=Lib.hid (show zAN Y (.slice (some ⟨g,0,none⟩) n c) (ks.set i ⟨ks[i].owns.filter (kCls x.name) ++ [x],ks[i].asks⟩) w (.returned (.tuple #[])) (w8.setCell ⟨g,i * 2,none⟩ (.slice (some ⟨g8,0,none⟩) (os.length+1) c8)) from
  ⟨rfl,by rw[hos.out];exact hM.wid (fun b hb _=>hb.elim (fun k=>k.imp (fun k=>k.1) (fun k=>by omega)) (fun k=>.inr (by have:=hF2.size;omega))),hfr⟩)
 have z0:=hf28.keep (fun _ h=>h) (fun h=>(hY1 g h).2.2.1 rfl) c0
 have zl:=lt_of_cell z0
 have zf:=fun o=>(hf28.frozenX o hg (fun h=>(hY1 g h).2.2.1 rfl)).trans (hfz o)
 clear c0 hset hN hM hfr hf28 hP hrow8 hgf8 hor8 hF2 B2 hO9R8 hBR8 hWR hqk hqy hF1
 go_wp2_with fail
 refine bodyPost_ret (v:=.tuple #[]) (by simp[results,Tryz.results169,go_sem, *]) rfl ?_
 exact hfin.out
theorem zAT (x:Ask) (g n c i:Nat) (ks:List Kpr) (Y:Nat->Prop) (w:World) (h:zzE w Y (.slice (some ⟨g,0,none⟩) n c) ks) (hi:i<ks.length) (hsz:x.name.size≤maxLen) (hl:ks[i].asks.length≤1000):
  Calls Tryz.prog 174 #[.agg #[.string x.name,.int .i64 x.keeper],.pointer (some ⟨g,i * 2,none⟩)] w (zAN Y (.slice (some ⟨g,0,none⟩) n c) (ks.set i ⟨ks[i].owns,ks[i].asks.filter (kAsk x.name) ++ [x]⟩) w):=by
 obtain⟨w1,hw1⟩:∃w1,w1=w.alloc (.cells #[.string x.name,.int .i64 x.keeper] 94):=⟨_,rfl⟩
 have hF1:Fr No w w1:=hw1▸frc
 have B1:Bx w1 w.heap.size 94 #[.string x.name,.int .i64 x.keeper]:=hw1▸bxc
 have hs1:w1.heap.size=w.heap.size+1:=by rw[hw1];simp
 replace hw1:=Lib.hid hw1
 have h1:zzE w1 (fun b=>Y b∧b<w.heap.size) _ ks:=(OwnL.wid h (fun b h1 h2=>⟨h1,h2⟩)).keep zzK hF1 (fun _ _ _ h=>h)
 have HT:=zAP x.name g n c i ks _ w1 h1 hi
 have p:=B1.c2
 have pl:=B1.lt
 go_enter Tryz.func174,Tryz.ntmps174
 go_wp2_with fail
 rw[<-hw1.out]
 refine HT.mono ?_
 rintro e w2 ⟨rfl,hT2,hf2⟩
 have hi2:i<(ks.set i ⟨ks[i].owns,ks[i].asks.filter (kAsk x.name)⟩).length:=by rw[List.length_set];exact hi
 obtain⟨vo,va,Y1,Y2,hY1,hY2,hYg,hg,hfz,c0,c1,hO,hA,_,hset⟩:=zAM hT2 hi2
 simp only[List.getElem_set_self,List.set_set] at hA hset
 have hfl:=List.length_filter_le (kAsk x.name) ks[i].asks
 generalize hos:ks[i].asks.filter (kAsk x.name)=os at *
 obtain⟨Ao,co,rfl,hco,_⟩:=hA.form
 have B2:=B1.keepX hf2 (by omega)
 have hF2:Fr Y w w2:=(Fr.of0 hF1).trans hf2 (fun b _ e=>e.1)
 have K2:=B2.r2
 have KG:=fun W (hW:Fr No w2 W)=>(⟨hW.keep0 c1,fun o=>(hW.frozen (b:=g) o hg).trans (hfz o)⟩:W.cell? ⟨g,i * 2+1,none⟩=some (.slice Ao os.length co)∧∀o,W.frozen? ⟨g,o,none⟩=false)
 clear p pl h h1 HT hT2 B1 hO
 replace hos:=Lib.hid hos
 go_wp2_with fail
 refine zn0 8 18 [mE (mV (.pointer (some ⟨g,i * 2,none⟩))),mV (.pointer (some ⟨g,i * 2,none⟩)),mV (.pointer (some ⟨g,i * 2,none⟩)),mV (.pointer (some ⟨g,i * 2+1,none⟩)),mV (.slice Ao os.length co),mV (.pointer (some ⟨w.heap.size,0,none⟩)),mV (.agg #[.string x.name,.int .i64 x.keeper]),mS 86 (#[.string x.name,.int .i64 x.keeper]) 1 w2.heap.size] (by kernel_rfl) (by kernel_rfl) (by simp) ?_ ?_
 ·refine hc4 ?_ ?_ ?_ ?_ <| hc4 ?_ ?_ ?_ ?_ <| hopZ
  all_goals (intro a' W hW hoff hdep;have hbs:=hW.size;have H1:=hoff 1 rfl;have H2:=hoff 2 rfl)
  ·exact yE rfl ⟨.pointer (some ⟨g,i * 2,none⟩),fun W=>by simp[execOp,Act.eval,H1,go_sem],rfl,rfl⟩
  ·refine nE rfl ?_;simp[execOp,Act.eval,H1,go_sem,zaa];exact fr1 rfl
  ·have D11:_=_:=hdep 1 11 rfl;refine nE rfl ?_;simp[execOp,Act.eval,D11,go_sem,zaa];exact fr1 rfl
  ·have D12:_=_:=hdep 2 12 rfl;refine nE rfl ?_;simp[execOp,Act.eval,D12,go_sem,zaa];exact fr1 rfl
  ·have D13:_=_:=hdep 3 13 rfl;refine nE rfl ?_;clear hoff hdep;simp[execOp,Act.eval,go_sem,zaa, *];exact fr1 rfl
  ·refine nE rfl ?_;simp[execOp,Act.eval,H2,go_sem,zaa];exact fr1 rfl
  ·have D15:_=_:=hdep 5 15 rfl;refine nE rfl ?_;clear hoff hdep;simp[execOp,Act.eval,go_sem,zaa, *];exact fr1 rfl
  ·have D16:_=_:=hdep 6 16 rfl;simp at D16;refine nE rfl ?_;simp[execOp,Act.eval,D16,go_sem,zaa];exact⟨(Fr.refl _ _).alloc _,⟨_,rfl,Bx.new_ rfl,hbs⟩,Nat.le_refl _⟩
 intro vs WR hWR hv hne
 obtain⟨b7,e7,hb7,hl7⟩:=hv 7 (by omega)
 simp only[lz6,List.drop_zero,znL,znQ,znK,znR,Nat.zero_add,Nat.reduceAdd,e7]
 simp only[Act.put,lz0,lz1,lz2]
 clear e7 hv
 clear hne K2 KG
 have hqk:=fun q h=>hY2 q (OwnL.blk hA q h).1
 have hqy:=fun q h=>(OwnL.blk hA q h).1
 obtain⟨rws,Ys,hP⟩:=hA
 have hP:=hP.keep (zzG _) hWR (fun _ _ _ h=>h)
 refine zqH zz8 rfl _ _ rfl (.slice Ao os.length co) os.length rws rfl hP.len.symm hP.row (by omega) b7 86 [.string x.name,.int .i64 x.keeper] rfl hb7 rfl (by simp[Value.oneCell']) ?_
 intro g8 c8 w8 hrow8 hcap8 hgf8 hor8
 simp only[Act.put,lz0,lz1,lz2]
 have hsR:=hWR.size
 have hs8:=hgf8.size
 have hrv:∀q,zcP (.slice (some ⟨g8,0,none⟩) (os.length+1) c8)=some q->q=g8:=fun q h=>by rw[zcQ,if_neg (by omega)] at h;cases h;rfl
 have hN:=hP.snoc (x:=x) (Z:=fun _=>False) (Y':=fun b=>Y2 b∨w2.heap.size≤b) (zzG _) hrow8 hgf8 (fun q h=>by rw[hrv q h];exact hor8.imp id (fun e=>by omega))
  ⟨rfl,hsz⟩ (fun b hb=>hb.elim) (fun b hb _=>.inl hb) (fun b hb=>hb.elim) (fun q h _=>by rcases hor8 with h9|h9;rw[hrv q h];exact .inl (hqy _ h9);exact .inr (by rw[hrv q h];omega))
 have hf28:Fr Y2 w2 w8:=(Fr.of0 hWR).trans hgf8 (fun b _ e=>hqy b e)
 have hM:=hset w8 _ _ hf28 ⟨_,_,hN⟩
 have hfr:Fr Y w (w8.setCell ⟨g,i * 2+1,none⟩ (.slice (some ⟨g8,0,none⟩) (os.length+1) c8)):=(hF2.trans hf28 (fun b hb e=>(hY2 b e).1.elim (fun k=>k.1) (fun k=>by omega))).trans (Fr.cell1 _ _ _ _) (fun b hb e=>by subst e;exact hYg.elim (fun k=>k.1) (fun k=>by omega))
 have hfin:=Lib.hid (show zAN Y (.slice (some ⟨g,0,none⟩) n c) (ks.set i ⟨ks[i].owns,ks[i].asks.filter (kAsk x.name) ++ [x]⟩) w (.returned (.tuple #[])) (w8.setCell ⟨g,i * 2+1,none⟩ (.slice (some ⟨g8,0,none⟩) (os.length+1) c8)) from
  ⟨rfl,by rw[hos.out];exact hM.wid (fun b hb _=>hb.elim (fun k=>k.imp (fun k=>k.1) (fun k=>by omega)) (fun k=>.inr (by have:=hF2.size;omega))),hfr⟩)
 have z0:=hf28.keep (fun _ h=>h) (fun h=>(hY2 g h).2.1 rfl) c1
 have zl:=lt_of_cell z0
 have zf:=fun o=>(hf28.frozenX o hg (fun h=>(hY2 g h).2.1 rfl)).trans (hfz o)
 clear c1 hset hN hM hfr hf28 hP hrow8 hgf8 hor8 hF2 B2 hb7 hWR hqk hqy hF1
 go_wp2_with fail
 refine bodyPost_ret (v:=.tuple #[]) (by simp[results,Tryz.results174,go_sem, *]) rfl ?_
 exact hfin.out
end Go.Proofs.YtpghfhjhjlmljaaGreat
