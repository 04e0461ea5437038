/- The program's own machine: what a run has become. -/
import Derived.Test.YtmeaibjmnjcdfaaGreatVHPvn4
import Derived.Test.YtmeaibjmnjcdfaaGreatVG37
set_option maxHeartbeats 4000000
set_option maxRecDepth 100000
namespace Go.Proofs.YtmeaibjmnjcdfaaGreat
open Go.RowKit
abbrev tVSt:TypeId:=34
abbrev zwS:TypeId:=212
def SmS (s:St):Prop:=s.heap.length≤1000∧(∀o∈s.heap,o.fields.length≤1000)∧s.outs.length≤1000∧s.frames.length≤1000∧∀f∈s.frames,f.locals.length≤1000∧f.stack.length≤1000
section
variable {κ β:Type} {L:El κ β} {base:Nat} {W W':World} {v:Value} {xs:List β} {ks:List κ}
def CpR (L:El κ β) (base:Nat) (W:World) (v:Value) (xs:List β) (ks:List κ):Prop:=
 RowV W L.e L.sz v xs.length (ks.flatMap L.C)∧Els L W ks xs∧(∀b∈ks.flatMap L.B,¬zcP v=some b)∧(∀b∈rowB v ++ ks.flatMap L.B,base≤b)
theorem CpR.keepM {X:Nat->Prop} (h:CpR L base W v xs ks) (hf:Fr X W W') (hX:∀b∈rowB v ++ ks.flatMap L.B,¬X b):CpR L base W' v xs ks:=by
 obtain⟨h1,h2,h3,h4⟩:=h
 exact⟨h1.keepB hf (fun b hb=>hX b (List.mem_append_left _ hb)),h2.keep hf (fun b hb=>hX b (List.mem_append_right _ hb)),h3,h4⟩
theorem CpR.keep0 (h:CpR L base W v xs ks) (hf:Fr No W W'):CpR L base W' v xs ks:=h.keepM hf (fun _ _ h=>h)
theorem CpR.lt (h:CpR L base W v xs ks):∀b∈rowB v ++ ks.flatMap L.B,b<W.heap.size:=fun b hb=>(List.mem_append.1 hb).elim (fun hb=>h.1.ltB hb) (fun hb=>h.2.1.lt b hb)
theorem CpR.snoc {k:κ} {x:β} {g' cap':Nat} (h:CpR L base W v xs ks) (hR:L.R W k x) (hff:∀q∈L.B k,base≤q) (hne:∀q∈L.B k,¬zcP v=some q)
  (hrow:RowV W' L.e L.sz (.slice (some ⟨g',0,none⟩) (xs.length+1) cap') (xs.length+1) (ks.flatMap L.C ++ L.C k))
  (hgf:Fr (fun b=>zcP v=some b) W W') (hor:zcP v=some g'∨g'=W.heap.size) (hcap:xs.length+1≤cap') (hbase:base≤W.heap.size):
  CpR L base W' (.slice (some ⟨g',0,none⟩) (xs.length+1) cap') (xs ++ [x]) (ks ++ [k]):=by
 obtain⟨h1,h2,h3,h4⟩:=h
 have hqn:zcP (.slice (some ⟨g',0,none⟩) (xs.length+1) cap')=some g':=zqC (by omega)
 have hqB:rowB (.slice (some ⟨g',0,none⟩) (xs.length+1) cap')=[g']:=by unfold rowB;rw[hqn];rfl
 have hfl:(ks ++ [k]).flatMap L.B=ks.flatMap L.B ++ L.B k:=by rw[List.flatMap_append];simp
 refine⟨?_,?_,?_,?_⟩
 ·rw[List.flatMap_append,List.length_append]
  simpa using hrow
 ·exact(h2.keep hgf h3).snoc (L.keep hR hgf hne)
 ·rw[hqn,hfl]
  intro b hb e
  cases Option.some.inj e
  rcases List.mem_append.1 hb with hb|hb
  ·rcases hor with h9|h9
   ·exact h3 _ hb h9
   ·have:=h2.lt _ hb;omega
  ·rcases hor with h9|h9
   ·exact hne _ hb h9
   ·have:=L.lt hR hb;omega
 ·rw[hqB,hfl]
  intro b hb
  rcases List.mem_append.1 hb with hb|hb
  ·rw[List.mem_singleton] at hb
   subst hb
   rcases hor with h9|h9
   ·exact h4 _ (List.mem_append_left _ (zwv h9))
   ·omega
  ·rcases List.mem_append.1 hb with hb|hb
   ·exact h4 _ (List.mem_append_right _ hb)
   ·exact hff _ hb
end
structure KF where
 m:LMth
 pc:Int
 vl:Value
 vs:Value
def KF.B (k:KF):List Nat:=rowB k.vl ++ rowB k.vs
def calF:El KF Cal where
 e:=zwS
 sz:=6
 C:=fun k=>[.int .i64 k.m.of_.keeper,.string k.m.of_.name,.int .i64 k.m.at_,.int .i64 k.pc,k.vl,k.vs]
 B:=KF.B
 R:=fun W k f=>k.m=f.of_∧k.pc=f.pc∧f.of_.of_.name.size≤maxLen∧zv8 W k.vl f.locals∧zv8 W k.vs f.stack
 len:=fun _=>rfl
 keep:=fun h hf hb=>⟨h.1,h.2.1,h.2.2.1,h.2.2.2.1.keepB hf (fun q hq=>hb q (List.mem_append_left _ hq)),h.2.2.2.2.keepB hf (fun q hq=>hb q (List.mem_append_right _ hq))⟩
 lt:=fun h hb=>(List.mem_append.1 hb).elim (fun hb=>RowV.ltB h.2.2.2.1 hb) (fun hb=>RowV.ltB h.2.2.2.2 hb)
theorem CpR.cals {X:Nat->Prop} {base:Nat} {W:World} {v:Value} {xs:List Cal} {ks:List KF} (h:CpR calF base W v xs ks) (hX:∀b,base≤b->¬X b):Sl X W 6 (CalC X W) v xs:=
 RowV.slW calF.len h.1 h.2.1.length (fun i h1 h2=>by
  obtain⟨e1,e2,e3,e4,e5⟩:=h.2.1.get i h1 h2
  have hm:∀q∈KF.B ks[i],base≤q:=fun q hq=>h.2.2.2 q (List.mem_append_right _ (List.mem_flatMap.2 ⟨_,List.getElem_mem h1,hq⟩))
  exact⟨_,_,by simp only[calF,e1,e2],e3,zv8.sl e4 (fun q hq=>hX q (hm q (List.mem_append_left _ (zwv hq)))),zv8.sl e5 (fun q hq=>hX q (hm q (List.mem_append_right _ (zwv hq))))⟩) (fun q hq=>hX q (h.2.2.2 q (List.mem_append_left _ (zwv hq))))
theorem HpR.objs {X:Nat->Prop} {base:Nat} {W:World} {v:Value} {xs:List Obj} {ks:List KO} (h:HpR base W v xs ks) (hX:∀b,base≤b->¬X b):Sl X W 3 (ObjC X W) v xs:=
 RowV.slW objL.len h.1 h.2.1.length (fun i h1 h2=>by
  obtain⟨e1,e2,e3⟩:=h.2.1.get i h1 h2
  exact⟨_,by simp only[objL,e1],e2,zv8.sl e3 (fun q hq=>hX q (h.2.2.2 q (List.mem_append_right _ (List.mem_flatMap.2 ⟨_,List.getElem_mem h1,zwv hq⟩))))⟩) (fun q hq=>hX q (h.2.2.2 q (List.mem_append_left _ (zwv hq))))
theorem Els.valB {W:World}:∀{ks:List KO} {xs:List Obj},Els objL W ks xs->∀b∈ks.flatMap KO.B,∃cs,Bx W b tVal cs
 | [],[],_,b,hb=>by cases hb
 | k :: ks,x :: xs,h,b,hb=>by
  rw[List.flatMap_cons,List.mem_append] at hb
  rcases hb with hb|hb
  ·exact RowV.box h.1.2.2 (zvT.1 hb)
  ·exact Els.valB h.2 b hb
 | [],_ :: _,h,_,_=>h.elim
 | _ :: _,[],h,_,_=>h.elim
theorem HpR.keepM {X:Nat->Prop} {base:Nat} {W W':World} {v:Value} {xs:List Obj} {ko:List KO} (h:HpR base W v xs ko) (hf:Fr X W W') (hX:∀b∈rowB v ++ ko.flatMap KO.B,¬X b):HpR base W' v xs ko:=by
 obtain⟨h1,h2,h3,h4⟩:=h
 exact⟨h1.keepB hf (fun b hb=>hX b (List.mem_append_left _ hb)),h2.keep hf (fun b hb=>hX b (List.mem_append_right _ hb)),h3,h4⟩
theorem Bx.fill6 {w:World} {g:Nat} {t:TypeId} {x0 x1 x2 x3 x4 x5 c0 c1 c2 c3 c4 c5:Value} (h:Bx w g t #[x0,x1,x2,x3,x4,x5]):
  Bx ((((((w.setCell ⟨g,0,none⟩ c0).setCell ⟨g,1,none⟩ c1).setCell ⟨g,2,none⟩ c2).setCell ⟨g,3,none⟩ c3).setCell ⟨g,4,none⟩ c4).setCell ⟨g,5,none⟩ c5) g t #[c0,c1,c2,c3,c4,c5]:=
 (((((h.setc (i:=0) rfl).setc (i:=1) rfl).setc (i:=2) rfl).setc (i:=3) rfl).setc (i:=4) rfl).setc (i:=5) rfl
theorem zwT:(Tryz.prog.info? zwS).map (fun i=>(i.zero,i.size,i.bytes))=some (some (.agg #[.int .i64 0,.string ⟨#[]⟩,.int .i64 0,.int .i64 0,.slice none 0 0,.slice none 0 0]),6,88):=by kernel_rfl
theorem HpR.ne {base:Nat} {W:World} {v:Value} {xs:List Obj} {ks:List KO} (h:HpR base W v xs ks) {g:Nat} {cs:Array Value} (hb:Bx W g tVSt cs):∀b∈rowB v ++ ks.flatMap KO.B,b≠g:=fun b hx e=>by
 subst e
 rcases List.mem_append.1 hx with hx|hx
 ·exact RowV.ne h.1 hb (by decide) (zvT.1 hx) rfl
 ·obtain⟨cs',hc⟩:=Els.valB h.2.1 b hx
  have:=Option.some.inj (hc.symm.trans hb)
  cases this
def hpP (xs:List Obj) (base:Nat):Value->World->Prop:=fun v W=>∃A c,v=.slice A xs.length c∧zwP base W (.slice A xs.length c) xs
theorem zwU (xs:List Obj) (base:Nat):MonP (hpP xs base):=fun _ _ _ ⟨A,c,h1,ko,h2⟩ hf=>⟨A,c,h1,ko,h2.keep0 hf⟩
def outP (xs:List Int) (base:Nat):Value->World->Prop:=fun v W=>∃A c,v=.slice A xs.length c∧zwc W (.slice A xs.length c) xs∧∀q,zcP (.slice A xs.length c)=some q->base≤q
theorem zwV (xs:List Int) (base:Nat):MonP (outP xs base):=fun _ _ _ ⟨A,c,h1,h2,h3⟩ hf=>⟨A,c,h1,RowV.keep0 h2 hf,h3⟩
def steP (s:St) (base:Nat):Value->World->Prop:=fun v W=>∃A c A2 c2,v=.agg #[.int .i64 s.status,.slice none 0 0,.slice A s.heap.length c,.slice A2 s.outs.length c2,.int .i64 s.back.kind,.int .i64 s.back.n]∧zwP base W (.slice A s.heap.length c) s.heap∧zwc W (.slice A2 s.outs.length c2) s.outs∧∀q,zcP (.slice A2 s.outs.length c2)=some q->base≤q
theorem zwW (s:St) (base:Nat):MonP (steP s base):=fun _ _ _ ⟨A,c,A2,c2,h1,⟨ko,h2⟩,h3,h4⟩ hf=>⟨A,c,A2,c2,h1,⟨ko,h2.keep0 hf⟩,RowV.keep0 h3 hf,h4⟩
def frmP (f:Cal) (base:Nat):Value->World->Prop:=fun v W=>∃A c A2 c2,v=.agg #[.int .i64 f.of_.of_.keeper,.string f.of_.of_.name,.int .i64 f.of_.at_,.int .i64 f.pc,.slice A f.locals.length c,.slice A2 f.stack.length c2]∧zv8 W (.slice A f.locals.length c) f.locals∧(∀q,zcP (.slice A f.locals.length c)=some q->base≤q)∧zv8 W (.slice A2 f.stack.length c2) f.stack∧(∀q,zcP (.slice A2 f.stack.length c2)=some q->base≤q)
theorem zwX (f:Cal) (base:Nat):MonP (frmP f base):=fun _ _ _ ⟨A,c,A2,c2,h1,h2,h3,h4,h5⟩ hf=>⟨A,c,A2,c2,h1,h2.keep0 hf,h3,h4.keep0 hf,h5⟩
def frsP (f:Cal) (base:Nat):Value->World->Prop:=fun v W=>∃k A c A2 c2,v=.slice (some ⟨k,0,none⟩) 1 1∧Bx W k zwS #[.int .i64 f.of_.of_.keeper,.string f.of_.of_.name,.int .i64 f.of_.at_,.int .i64 f.pc,.slice A f.locals.length c,.slice A2 f.stack.length c2]∧zv8 W (.slice A f.locals.length c) f.locals∧(∀q,zcP (.slice A f.locals.length c)=some q->base≤q)∧zv8 W (.slice A2 f.stack.length c2) f.stack∧(∀q,zcP (.slice A2 f.stack.length c2)=some q->base≤q)
theorem zwY (f:Cal) (base:Nat):MonP (frsP f base):=fun _ _ _ ⟨k,A,c,A2,c2,h1,h6,h2,h3,h4,h5⟩ hf=>⟨k,A,c,A2,c2,h1,h6.keep hf,h2.keep0 hf,h3,h4.keep0 hf,h5⟩
theorem zwZ (K:McP) (n:Nat) (s:St) (m:MLay) (w:World) (h:McS K n s m w) (hsm:SmS s):
  Calls Tryz.prog 59 #[.pointer (some ⟨K.mb,0,none⟩)] w (fun e w'=>(∃cs:List Value,e=.returned (.agg cs.toArray)∧StC (fun b=>b<w.heap.size) w' cs s)∧Fr No w w'):=by
 obtain⟨q1,q2,q3,q4,q5⟩:=hsm
 obtain⟨Ac,cc,hvc,_,hcm⟩:=h.crow.form
 obtain⟨Ah,ch,hvh,_,_⟩:=h.hrow.form
 obtain⟨Ao,co,hvo,_,_⟩:=h.orow.form
 obtain⟨wA,hwA⟩:∃wA,wA=w.alloc (.cells #[.int .i64 0,.slice none 0 0,.slice none 0 0,.slice none 0 0,.int .i64 0,.int .i64 0] tVSt):=⟨_,rfl⟩
 have hfA:Fr No w wA:=hwA▸frc
 have BA:=(hwA▸bxc:Bx wA w.heap.size tVSt #[.int .i64 0,.slice none 0 0,.slice none 0 0,.slice none 0 0,.int .i64 0,.int .i64 0])
 have HH:=fun W (hW:Fr No wA W)=>zwR _ s.heap W ((h.heapSl.keep (hfA.trans0 hW) (fun _ h=>h) (fun _ _ _ h=>h.keep (hfA.trans0 hW) (fun _ h=>h)))) q1 q2
 have HO:=fun W (hW:Fr No wA W)=>zwi No m.vo s.outs W ((zwc.sl h.orow (X:=No) (fun _ _ h=>h)).keep (hfA.trans0 hW) (fun _ h=>h) (fun _ _ _ h=>h)) q3
 have KM:=fun W (hW:Fr No wA W)=>h.cells W (hfA.trans0 hW)
 rw[hvc,hvh,hvo] at KM
 rw[hvh] at HH
 rw[hvo] at HO
 go_enter Tryz.func59,Tryz.ntmps59
 go_wp2_with fail
 rw[<-hwA]
 replace hwA:=Lib.hid hwA
 refine zn0 20 25 [mV (.pointer (some ⟨K.mb,0,none⟩)),mV (.pointer (some ⟨K.mb,0,none⟩)),mV (.pointer (some ⟨K.mb,2,none⟩)),mV (.int .i64 s.status),mV (.pointer (some ⟨K.mb,0,none⟩)),mV (.pointer (some ⟨K.mb,0,none⟩)),mV (.pointer (some ⟨K.mb,4,none⟩)),mV (.slice Ah s.heap.length ch),mC (hpP s.heap wA.heap.size) (zwU _ _),mV (.pointer (some ⟨K.mb,0,none⟩)),mV (.pointer (some ⟨K.mb,0,none⟩)),mV (.pointer (some ⟨K.mb,5,none⟩)),mV (.slice Ao s.outs.length co),mC (outP s.outs wA.heap.size) (zwV _ _),mV (.pointer (some ⟨K.mb,0,none⟩)),mV (.pointer (some ⟨K.mb,0,none⟩)),mV (.pointer (some ⟨K.mb,6,none⟩)),mV (.agg #[.int .i64 s.back.kind,.int .i64 s.back.n]),mC (steP s wA.heap.size) (zwW _ _),mB 34 (#[.int .i64 0,.slice none 0 0,.slice none 0 0,.slice none 0 0,.int .i64 0,.int .i64 0]) wA.heap.size] (by kernel_rfl) (by kernel_rfl) (by simp) ?_ ?_
 ·refine hc4 ?_ ?_ ?_ ?_ <| hc4 ?_ ?_ ?_ ?_ <| hc4 ?_ ?_ ?_ ?_ <| hc4 ?_ ?_ ?_ ?_ <| hc4 ?_ ?_ ?_ ?_ <| hopZ
  all_goals (intro a' W hW hoff hdep;have hbs:=hW.size;have H0:=hoff 0 rfl;refine nE rfl ?_)
  ·simp[execOp,Act.eval,H0,go_sem,zaa];exact fr1 rfl
  ·have D6:_=_:=hdep 0 6 rfl;simp[execOp,Act.eval,D6,go_sem,zaa];exact fr1 rfl
  ·have D7:_=_:=hdep 1 7 rfl;simp[execOp,Act.eval,D7,go_sem,zaa];exact fr1 rfl
  ·have D8:_=_:=hdep 2 8 rfl;clear hoff hdep;simp[execOp,Act.eval,go_sem,zaa, *];exact fr1 rfl
  ·simp[execOp,Act.eval,H0,go_sem,zaa];exact fr1 rfl
  ·have D10:_=_:=hdep 4 10 rfl;simp[execOp,Act.eval,D10,go_sem,zaa];exact fr1 rfl
  ·have D11:_=_:=hdep 5 11 rfl;simp[execOp,Act.eval,D11,go_sem,zaa];exact fr1 rfl
  ·have D12:_=_:=hdep 6 12 rfl;clear hoff hdep;simp[execOp,Act.eval,go_sem,zaa, *];exact fr1 rfl
  ·have D13:_=_:=hdep 7 13 rfl;simp[Act.eval,D13,go_sem,zaa];exact(HH _ hW).mono (by intro e w9 h;obtain⟨v,rfl,⟨ko,h3⟩,h4⟩:=h;obtain⟨A,c,rfl,_,_⟩:=h3.1.form;exact⟨_,rfl,h4,A,c,rfl,ko,h3.1,h3.2.1,h3.2.2.1,fun b hb=>Nat.le_trans hbs (h3.2.2.2 b hb)⟩)
  ·simp[execOp,Act.eval,H0,go_sem,zaa];exact fr1 rfl
  ·have D15:_=_:=hdep 9 15 rfl;simp[execOp,Act.eval,D15,go_sem,zaa];exact fr1 rfl
  ·have D16:_=_:=hdep 10 16 rfl;simp[execOp,Act.eval,D16,go_sem,zaa];exact fr1 rfl
  ·have D17:_=_:=hdep 11 17 rfl;clear hoff hdep;simp[execOp,Act.eval,go_sem,zaa, *];exact fr1 rfl
  ·have D18:_=_:=hdep 12 18 rfl;simp[Act.eval,D18,go_sem,zaa];exact(HO _ hW).mono (by intro e w9 h;obtain⟨v,rfl,h3,h5,h4⟩:=h;obtain⟨A,c,rfl,_,_⟩:=h3.form;exact⟨_,rfl,h4,A,c,rfl,h3,fun q hq=>Nat.le_trans hbs (h5 q hq).1⟩)
  ·simp[execOp,Act.eval,H0,go_sem,zaa];exact fr1 rfl
  ·have D20:_=_:=hdep 14 20 rfl;simp[execOp,Act.eval,D20,go_sem,zaa];exact fr1 rfl
  ·have D21:_=_:=hdep 15 21 rfl;simp[execOp,Act.eval,D21,go_sem,zaa];exact fr1 rfl
  ·have D22:_=_:=hdep 16 22 rfl;clear hoff hdep;simp[execOp,Act.eval,go_sem,zaa, *];exact fr1 rfl
  ·have D9:_=_:=hdep 3 9 rfl;obtain⟨A,c,D14,ht⟩:(hpP s.heap wA.heap.size) _ W:=hdep 8 14 rfl;obtain⟨A2,c2,D19,ht2,hq2⟩:(outP s.outs wA.heap.size) _ W:=hdep 13 19 rfl;have D23:_=_:=hdep 17 23 rfl;simp at D9 D14 D19 D23;simp[execOp,Act.eval,D9,D14,D19,D23,go_sem,zaa];exact⟨Fr.refl _ _,A,c,A2,c2,rfl,ht,ht2,hq2⟩
  ·simp[execOp,go_sem,zaa];exact⟨(Fr.refl _ _).alloc _,⟨_,rfl,Bx.new_ rfl,hbs⟩,Nat.le_refl _⟩
 intro vs WR hWR hv hne
 obtain⟨AR8,cR8,e8,htR8⟩:=hv 8 (by omega)
 obtain⟨A2R13,c2R13,e13,ht2R13,hq2R13⟩:=hv 13 (by omega)
 obtain⟨AR18,cR18,A2R18,c2R18,e18,htR18,ht2R18,hq2R18⟩:=hv 18 (by omega)
 obtain⟨b19,e19,hb19,hl19⟩:=hv 19 (by omega)
 simp only[lz6,List.drop_zero,znP,znM,znK,znR,Nat.zero_add,Nat.reduceAdd,e8,e13,e18,e19]
 simp only[Act.put,lz0,lz1,lz2]
 clear e8 e13 e18 e19 hv
 clear hne htR8 ht2R13 hq2R13
 have hwR:=hWR.size
 have hsA:=hfA.size
 have BAl:=BA.lt
 have BAR:=BA.keep hWR
 refine zco rfl tVSt (.tmp 3) (.tmp 24) rfl 6 (by kernel_rfl) b19 tVSt _ [.int .i64 s.status,.slice none 0 0,.slice AR18 s.heap.length cR18,.slice A2R18 s.outs.length c2R18,.int .i64 s.back.kind,.int .i64 s.back.n] rfl rfl hb19 rfl rfl (by simp[Value.oneCell']) ?_
 intro w1 B1 hfE
 simp only[Act.put]
 obtain⟨ko,hK⟩:=htR18
 have hKne:=hK.ne hb19
 have hOne:=fun q (hq:zcP (.slice A2R18 s.outs.length c2R18)=some q)=>RowV.ne ht2R18 hb19 (by decide) hq
 have hKlt:=hK.lt
 have hOlt:=fun q (hq:zcP (.slice A2R18 s.outs.length c2R18)=some q)=>RowV.lt ht2R18 hq
 have hsE:=hfE.size
 have hfw1:Fr No w w1:=(hfA.trans0 hWR).trans hfE (fun b hb e=>by omega)
 have BA1:=BAR.keepX hfE (by omega)
 have B1l:=B1.lt
 have KM1:=h.cells w1 hfw1
 rw[hvc] at KM1
 obtain⟨z0,z1,z2,z3,z4,z5,z6,z7,z8,z9⟩:=KM1
 have hI0:Hid (∃vf ks,Bx w1 b19 tVSt #[.int .i64 s.status,vf,.slice AR18 s.heap.length cR18,.slice A2R18 s.outs.length c2R18,.int .i64 s.back.kind,.int .i64 s.back.n]∧CpR calF w1.heap.size w1 vf (s.frames.take 0) ks∧Fr (fun b=>b=b19∨w1.heap.size≤b) w1 w1):=
  Lib.hid ⟨.slice none 0 0,[],B1,⟨RowV.nil _ _ _,trivial,fun b hb=>by simp at hb,fun b hb=>by simp[rowB,zf2] at hb⟩,Fr.refl _ _⟩
 replace hK:=Lib.hid hK
 replace ht2R18:=Lib.hid ht2R18
 replace BA1:=Lib.hid BA1
 replace h:=Lib.hid h
 have hfE2:=Lib.hid hfE
 unfold maxLen at hcm
 clear hb19 BA BAR B1 hfE HH HO
 go_wp2_with fail
 clear z0 z1 z2 z3 z4 z5 z6 z7 z8 z9
 go_loopw [30] (fun i wr=>∃j:Nat,j≤s.frames.length∧i=.int .i64 j∧Hid (∃vf ks,Bx wr b19 tVSt #[.int .i64 s.status,vf,.slice AR18 s.heap.length cR18,.slice A2R18 s.outs.length c2R18,.int .i64 s.back.kind,.int .i64 s.back.n]∧CpR calF w1.heap.size wr vf (s.frames.take j) ks∧Fr (fun b=>b=b19∨w1.heap.size≤b) w1 wr)) (fun i _=>s.frames.length-(intOf i).toNat)
 case atStart=>exact⟨0,Nat.zero_le _,rfl,hI0⟩
 case round=>
  clear hI0
  obtain⟨j,hj,rfl,hI⟩:=hrel
  obtain⟨vf,ks,hBr,hCp,hfr⟩:=hI.out
  clear hI
  have hsr:=hfr.size
  have hfwr:Fr No w wr:=hfw1.trans hfr (fun b hb e=>by omega)
  have hlj:(s.frames.take j).length=j:=by rw[List.length_take,Nat.min_eq_left hj]
  obtain⟨Av,cv,rfl⟩:∃A c,vf=.slice A j c:=by
   obtain⟨A,c,he,_,_⟩:=hCp.1.form
   rw[hlj] at he
   exact⟨A,c,he⟩
  by_cases hlt:j<s.frames.length
  ·have htk:s.frames.take (j+1)=s.frames.take j ++ [s.frames[j]]:=List.take_succ_eq_append_getElem hlt
   have hcl:=h.out.cels.length
   have hjk:j<m.kc.length:=by omega
   obtain⟨c1,c2,c3,_,c5,_⟩:=h.out.cels.get j hjk hlt
   obtain⟨g,c',cur,hg1,_,_,_,_,_,_⟩:=h.out.crow.at_ (by omega)
   have hcell:∀W,Fr No w W->W.cell? ⟨g,j,none⟩=some (.pointer (some ⟨(m.kc[j]).c,0,none⟩)):=fun W hW=>by
    have h9:=(h.out.crow.keep0 hW).cell hg1 (j:=j) (by omega)
    have h8:=zqB (calL K).len m.kc j hjk 0 (show 0<(calL K).sz from Nat.one_pos)
    simp only[Nat.add_zero] at h8
    have e1:j * (calL K).sz=j:=by show j * 1=j;omega
    rw[e1] at h8
    rw[h9,h8]
    rfl
   rw[hvc] at hg1
   cases hg1
   have hsm:=q5 _ (List.getElem_mem hlt)
   generalize m.kc[j]=k at *
   generalize s.frames[j]=f at *
   obtain⟨⟨⟨fk,fnm⟩,fat⟩,fpc,floc,fstk⟩:=f
   obtain⟨kc,kva,kvc,kvm,kvl,kvs⟩:=k
   dsimp only at c1 c2 c3 c5 hcell hsm
   obtain⟨Al,cl,rfl,_,_⟩:=c2.form
   obtain⟨As,cs',rfl,_,_⟩:=c3.form
   have KC0:∀W,Fr No wr W->W.cell? ⟨kc,0,none⟩=some (.int .i64 fk)∧W.cell? ⟨kc,1,none⟩=some (.string fnm)∧W.cell? ⟨kc,2,none⟩=some (.int .i64 fat)∧W.cell? ⟨kc,11,none⟩=some (.int .i64 fpc)∧W.cell? ⟨kc,12,none⟩=some (.slice Al floc.length cl)∧W.cell? ⟨kc,13,none⟩=some (.slice As fstk.length cs')∧(∀i,W.frozen? ⟨kc,i,none⟩=false)∧kc<W.heap.size:=fun W hW=>by
    have h9:=c1.keep (hfwr.trans0 hW)
    exact⟨h9.cell 0,h9.cell 1,h9.cell 2,h9.cell 11,h9.cell 12,h9.cell 13,fun i=>h9.frozen i,h9.lt⟩
   have KBx:∀W,Fr No wr W->W.cell? ⟨b19,1,none⟩=some (.slice Av j cv)∧(∀i,W.frozen? ⟨b19,i,none⟩=false)∧b19<W.heap.size:=fun W hW=>by
    have h9:=hBr.keep hW
    exact⟨h9.cell 1,fun i=>h9.frozen i,h9.lt⟩
   have HL:=fun W (hW:Fr No wr W)=>zwh No (.slice Al floc.length cl) floc W (zv8.sl (c2.keep0 (hfwr.trans0 hW)) (fun _ _ h=>h)) hsm.1
   have HS:=fun W (hW:Fr No wr W)=>zwh No (.slice As fstk.length cs') fstk W (zv8.sl (c3.keep0 (hfwr.trans0 hW)) (fun _ _ h=>h)) hsm.2
   have hg:=hcell wr hfwr
   have hCpl:=hCp.lt
   replace htk:=Lib.hid htk
   replace hCp:=Lib.hid hCp
   replace hBr:=Lib.hid hBr
   clear c1 c2 c3 hcell
   go_wp2_with fail
   refine zn0 23 57 [mV (.pointer (some ⟨b19,1,none⟩)),mV (.slice Av j cv),mV (.pointer (some ⟨kc,0,none⟩)),mV (.pointer (some ⟨kc,0,none⟩)),mV (.pointer (some ⟨kc,0,none⟩)),mV (.agg #[.int .i64 fk,.string fnm,.int .i64 fat]),mV (.pointer (some ⟨kc,0,none⟩)),mV (.pointer (some ⟨kc,0,none⟩)),mV (.pointer (some ⟨kc,11,none⟩)),mV (.int .i64 fpc),mV (.pointer (some ⟨kc,0,none⟩)),mV (.pointer (some ⟨kc,0,none⟩)),mV (.pointer (some ⟨kc,12,none⟩)),mV (.slice Al floc.length cl),mC (cloW floc wr.heap.size) (zwN _ _),mV (.pointer (some ⟨kc,0,none⟩)),mV (.pointer (some ⟨kc,0,none⟩)),mV (.pointer (some ⟨kc,13,none⟩)),mV (.pointer (some ⟨kc,13,none⟩)),mV (.slice As fstk.length cs'),mC (cloW fstk wr.heap.size) (zwN _ _),mC (frmP ⟨⟨⟨fk,fnm⟩,fat⟩,fpc,floc,fstk⟩ wr.heap.size) (zwX _ _),mC (frsP ⟨⟨⟨fk,fnm⟩,fat⟩,fpc,floc,fstk⟩ wr.heap.size) (zwY _ _)] (by kernel_rfl) (by kernel_rfl) (by simp) ?_ ?_
   ·refine hc4 ?_ ?_ ?_ ?_ <| hc4 ?_ ?_ ?_ ?_ <| hc4 ?_ ?_ ?_ ?_ <| hc4 ?_ ?_ ?_ ?_ <| hc4 ?_ ?_ ?_ ?_ <| hopC ?_ <| hopC ?_ <| hopC ?_ <| hopZ
    all_goals (intro a' W hW hoff hdep;have hbs:=hW.size;have H3:=hoff 3 rfl;have H5:=hoff 5 rfl;refine nE rfl ?_)
    ·simp[execOp,Act.eval,H3,go_sem,zaa];exact fr1 rfl
    ·have D34:_=_:=hdep 0 34 rfl;clear hoff hdep;simp[execOp,Act.eval,go_sem,zaa, *];exact fr1 rfl
    ·simp[execOp,Act.eval,H5,go_sem,zaa];exact fr1 rfl
    ·have D36:_=_:=hdep 2 36 rfl;simp[execOp,Act.eval,D36,go_sem,zaa];exact fr1 rfl
    ·have D37:_=_:=hdep 3 37 rfl;simp[execOp,Act.eval,D37,go_sem,zaa];exact fr1 rfl
    ·have D38:_=_:=hdep 4 38 rfl;clear hoff hdep;simp[execOp,Act.eval,go_sem,zaa, *];exact fr1 rfl
    ·simp[execOp,Act.eval,H5,go_sem,zaa];exact fr1 rfl
    ·have D40:_=_:=hdep 6 40 rfl;simp[execOp,Act.eval,D40,go_sem,zaa];exact fr1 rfl
    ·have D41:_=_:=hdep 7 41 rfl;simp[execOp,Act.eval,D41,go_sem,zaa];exact fr1 rfl
    ·have D42:_=_:=hdep 8 42 rfl;clear hoff hdep;simp[execOp,Act.eval,go_sem,zaa, *];exact fr1 rfl
    ·simp[execOp,Act.eval,H5,go_sem,zaa];exact fr1 rfl
    ·have D44:_=_:=hdep 10 44 rfl;simp[execOp,Act.eval,D44,go_sem,zaa];exact fr1 rfl
    ·have D45:_=_:=hdep 11 45 rfl;simp[execOp,Act.eval,D45,go_sem,zaa];exact fr1 rfl
    ·have D46:_=_:=hdep 12 46 rfl;clear hoff hdep;simp[execOp,Act.eval,go_sem,zaa, *];exact fr1 rfl
    ·have D47:_=_:=hdep 13 47 rfl;simp[Act.eval,D47,go_sem,zaa];exact(HL _ hW).mono (by intro e w9 h;obtain⟨v,rfl,h3,h4⟩:=zwO hbs h;exact⟨v,rfl,h3,h4⟩)
    ·simp[execOp,Act.eval,H5,go_sem,zaa];exact fr1 rfl
    ·have D49:_=_:=hdep 15 49 rfl;simp[execOp,Act.eval,D49,go_sem,zaa];exact fr1 rfl
    ·have D50:_=_:=hdep 16 50 rfl;simp[execOp,Act.eval,D50,go_sem,zaa];exact fr1 rfl
    ·have D51:_=_:=hdep 17 51 rfl;simp[execOp,Act.eval,D51,go_sem,zaa];exact fr1 rfl
    ·have D52:_=_:=hdep 18 52 rfl;clear hoff hdep;simp[execOp,Act.eval,go_sem,zaa, *];exact fr1 rfl
    ·have D53:_=_:=hdep 19 53 rfl;simp[Act.eval,D53,go_sem,zaa];exact(HS _ hW).mono (by intro e w9 h;obtain⟨v,rfl,h3,h4⟩:=zwO hbs h;exact⟨v,rfl,h3,h4⟩)
    ·have D39:_=_:=hdep 5 39 rfl;have D43:_=_:=hdep 9 43 rfl;obtain⟨A,c,D48,ht,hq⟩:(cloW floc wr.heap.size) _ W:=hdep 14 48 rfl;obtain⟨A2,c2,D54,ht2,hq2⟩:(cloW fstk wr.heap.size) _ W:=hdep 20 54 rfl;simp at D39 D43 D48 D54;simp[execOp,Act.eval,D39,D43,D48,D54,go_sem,zaa];exact⟨Fr.refl _ _,A,c,A2,c2,rfl,ht,hq,ht2,hq2⟩
    ·obtain⟨A,c,A2,c2,D55,ht,hq,ht2,hq2⟩:(frmP ⟨⟨⟨fk,fnm⟩,fat⟩,fpc,floc,fstk⟩ wr.heap.size) _ W:=hdep 21 55 rfl;simp at D55;simp[execOp,Act.eval,D55,go_sem,zaa];exact⟨(Fr.refl _ _).alloc _,_,A,c,A2,c2,rfl,Bx.new_ rfl,ht.keep0 frc,hq,ht2.keep0 frc,hq2⟩
   intro vs WR hWR hv hne
   obtain⟨AR14,cR14,e14,htR14,hqR14⟩:=hv 14 (by omega)
   obtain⟨A2R20,c2R20,e20,ht2R20,hq2R20⟩:=hv 20 (by omega)
   obtain⟨AR21,cR21,A2R21,c2R21,e21,htR21,hqR21,ht2R21,hq2R21⟩:=hv 21 (by omega)
   obtain⟨kR22,AR22,cR22,A2R22,c2R22,e22,hkR22,htR22,hqR22,ht2R22,hq2R22⟩:=hv 22 (by omega)
   simp only[lz6,List.drop_zero,znM,znK,znR,Nat.zero_add,Nat.reduceAdd,e14,e20,e21,e22]
   simp only[Act.put,lz0,lz1,lz2]
   clear e14 e20 e21 e22 hv
   clear hne KC0 HL HS htR14 hqR14 ht2R20 hq2R20 htR21 hqR21 ht2R21 hq2R21
   have hwR2:=hWR.size
   have hCR:=hCp.out.keep0 hWR
   have hrowR:=hCR.1
   rw[hlj] at hrowR
   have hsrc:=Lib.hid (Bx.news (cs:=[.int .i64 fk,.string fnm,.int .i64 fat,.int .i64 fpc,.slice AR22 floc.length cR22,.slice A2R22 fstk.length c2R22]) hkR22)
   have hboxR:=hBr.out.keep hWR
   have hneR:∀q,zcP (.slice Av j cv)=some q->q≠b19:=fun q hq=>by have:=hCp.out.2.2.2 q (List.mem_append_left _ (zwv hq));omega
   have hRk:calF.R WR ⟨⟨⟨fk,fnm⟩,fat⟩,fpc,.slice AR22 floc.length cR22,.slice A2R22 fstk.length c2R22⟩ ⟨⟨⟨fk,fnm⟩,fat⟩,fpc,floc,fstk⟩:=⟨rfl,rfl,c5,htR22,ht2R22⟩
   have hnewB:∀q∈calF.B ⟨⟨⟨fk,fnm⟩,fat⟩,fpc,.slice AR22 floc.length cR22,.slice A2R22 fstk.length c2R22⟩,wr.heap.size≤q:=fun q hq=>(List.mem_append.1 hq).elim (fun h=>hqR22 q (zvT.1 h)) (fun h=>hq2R22 q (zvT.1 h))
   have hfin:=fun(g' cap':Nat) (w3:World) (hrow:RowV w3 zwS 6 (.slice (some ⟨g',0,none⟩) (j+1) cap') (j+1) (ks.flatMap calF.C ++ [.int .i64 fk,.string fnm,.int .i64 fat,.int .i64 fpc,.slice AR22 floc.length cR22,.slice A2R22 fstk.length c2R22])) (hgf:Fr (fun b=>zcP (.slice Av j cv)=some b) WR w3) (hor:zcP (.slice Av j cv)=some g'∨g'=WR.heap.size) (hcap:j+1≤cap')=>
    (show ∃vf ks,Bx (w3.setCell ⟨b19,1,none⟩ (.slice (some ⟨g',0,none⟩) (j+1) cap')) b19 tVSt #[.int .i64 s.status,vf,.slice AR18 s.heap.length cR18,.slice A2R18 s.outs.length c2R18,.int .i64 s.back.kind,.int .i64 s.back.n]∧CpR calF w1.heap.size (w3.setCell ⟨b19,1,none⟩ (.slice (some ⟨g',0,none⟩) (j+1) cap')) vf (s.frames.take (j+1)) ks∧Fr (fun b=>b=b19∨w1.heap.size≤b) w1 (w3.setCell ⟨b19,1,none⟩ (.slice (some ⟨g',0,none⟩) (j+1) cap')) from by
     have h9:=hCR.snoc (g':=g') (cap':=cap') (W':=w3) hRk (fun q hq=>by have:=hnewB q hq;omega) (fun q hq e=>by have:=hnewB q hq;have:=hCpl q (List.mem_append_left _ (zwv e));omega) (by rw[hlj];exact hrow) hgf hor (by rw[hlj];exact hcap) (by omega)
     rw[hlj,<-htk.out] at h9
     refine⟨_,_,(hboxR.keepX hgf (fun e=>hneR _ e rfl)).setc (i:=1) rfl,h9.keepM (Fr.one _ _ _ _) (fun b hb e=>by have:=h9.2.2.2 b hb;omega),((hfr.trans0 hWR).trans hgf (fun b hb e=>.inr (hCp.out.2.2.2 b (List.mem_append_left _ (zwv e))))).trans (Fr.one _ _ _ _) (fun b hb e=>.inl e)⟩)
   obtain⟨j0,hj0,hk0,hk1,hk2⟩:=info_parts zwT
   replace hj0:=Lib.hid hj0
   replace hk0:=Lib.hid hk0
   replace hk1:=Lib.hid hk1
   replace hk2:=Lib.hid hk2
   replace hfin:=Lib.hid hfin
   have hadd:IntKind.i64.wrap ((j:Int)+1)=((j+1:Nat):Int):=by rw[IntWalk.i64_in _ (by omega)];simp
   clear hCR hRk hnewB hkR22 htR22 hqR22 ht2R22 hq2R22 KBx
   go_wp2_with (at_builtin;(refine zcS _ rfl _ _ 29 rfl zwS j0 (.agg #[.int .i64 0,.string ⟨#[]⟩,.int .i64 0,.int .i64 0,.slice none 0 0,.slice none 0 0]) 6 88 Tryz.underlying29 hj0.out hk0.out hk1.out hk2.out rfl (by decide) (.slice Av j cv) j (ks.flatMap calF.C) rfl hrowR ⟨kR22,0,none⟩ 1 1 [.int .i64 fk,.string fnm,.int .i64 fat,.int .i64 fpc,.slice AR22 floc.length cR22,.slice A2R22 fstk.length c2R22] rfl rfl hsrc.out (by simp[Value.oneCell']) (by decide) (by unfold maxLen;omega) (by omega) ?_);(intro g2 cap2 w6 hrow6 hcap6 hgf6 hor6);have hbx:=hboxR.keepX hgf6 (fun e=>hneR _ e rfl);have hfi:=Lib.hid (hfin.out _ _ _ hrow6 hgf6 hor6 hcap6);have z3:w6.cell? ⟨b19,1,none⟩=some (.slice Av j cv):=hbx.cell 1;have zf:=(fun i=>hbx.frozen i);have zl:=hbx.lt)
   exact⟨⟨j+1,by omega,by simp,hfi⟩,by simp[intOf];omega⟩
  ·obtain rfl:j=s.frames.length:=by omega
   rw[List.take_length] at hCp
   have hBAr:=BA1.out.keepX hfr (by omega)
   obtain⟨x0,x1,x2,x3,x4,x5⟩:=hBr.c6
   have xf:=fun i=>hBr.frozen i
   have xl:=hBr.lt
   obtain⟨y0,y1,y2,y3,y4,y5⟩:=hBAr.c6
   have yf:=fun i=>hBAr.frozen i
   have yl:=hBAr.lt
   have hne9:¬b19=w.heap.size:=by omega
   replace hCp:=Lib.hid hCp
   go_wp2_with fail
   obtain⟨W7,hW7⟩:∃W7,W7=((((((wr.setCell ⟨w.heap.size,0,none⟩ (.int .i64 s.status)).setCell ⟨w.heap.size,1,none⟩ (.slice Av s.frames.length cv)).setCell ⟨w.heap.size,2,none⟩ (.slice AR18 s.heap.length cR18)).setCell ⟨w.heap.size,3,none⟩ (.slice A2R18 s.outs.length c2R18)).setCell ⟨w.heap.size,4,none⟩ (.int .i64 s.back.kind)).setCell ⟨w.heap.size,5,none⟩ (.int .i64 s.back.n)):=⟨_,rfl⟩
   have B7:Bx W7 w.heap.size tVSt #[.int .i64 s.status,.slice Av s.frames.length cv,.slice AR18 s.heap.length cR18,.slice A2R18 s.outs.length c2R18,.int .i64 s.back.kind,.int .i64 s.back.n]:=hW7▸hBAr.fill6
   have hf7:Fr (fun b=>b=w.heap.size) wr W7:=hW7▸(((((Fr.one _ _ _ _).same (Fr.one _ _ _ _)).same (Fr.one _ _ _ _)).same (Fr.one _ _ _ _)).same (Fr.one _ _ _ _)).same (Fr.one _ _ _ _)
   rw[<-hW7]
   clear hW7
   obtain⟨r0,r1,r2,r3,r4,r5⟩:=B7.c6
   have rl:=B7.lt
   refine bodyPost_ret (v:=.agg #[.int .i64 s.status,.slice Av s.frames.length cv,.slice AR18 s.heap.length cR18,.slice A2R18 s.outs.length c2R18,.int .i64 s.back.kind,.int .i64 s.back.n]) (by simp[results,Tryz.results59,go_sem, *]) rfl ?_
   have hK7:HpR wA.heap.size W7 (.slice AR18 s.heap.length cR18) s.heap ko:=((hK.out.keepM hfE2.out (fun b hb e=>hKne b hb e)).keepM hfr (fun b hb e=>by have:=hKlt b hb;have:=hKne b hb;omega)).keepM hf7 (fun b hb e=>by have:=hK.out.2.2.2 b hb;omega)
   have hO7:zwc W7 (.slice A2R18 s.outs.length c2R18) s.outs:=((ht2R18.out.keepB hfE2.out (fun q hq e=>hOne q (zvT.1 hq) e)).keepB hfr (fun q hq e=>by have:=hOlt q (zvT.1 hq);have:=hOne q (zvT.1 hq);omega)).keepB hf7 (fun q hq e=>by have:=hq2R18 q (zvT.1 hq);omega)
   have hC7:=hCp.out.keepM hf7 (fun b hb e=>by have:=hCp.out.2.2.2 b hb;omega)
   exact⟨⟨[_,_,_,_,_,_],rfl,_,_,_,rfl,hC7.cals (fun b hb e=>by omega),hK7.objs (fun b hb e=>by omega),zwc.sl hO7 (fun q hq e=>by have:=hq2R18 q hq;omega)⟩,hfwr.trans hf7 (fun b hb e=>by omega)⟩
theorem zw0 (X:Nat->Prop) (mn:Str) (a0:Value) (margs:List Knd) (m2 m4 m5:Int) (m3:Str) (m6 m7:Value) (va:Value) (args:List Int) (w:World) (h:Sl X w 2 KndC a0 margs) (hv:Sl X w 1 OutC va args) (hl:margs.length=args.length) (hk:∀t∈margs,t.kind=1) (hl3:margs.length≤100):
  Calls Tryz.prog 53 #[.agg #[.string mn,a0,.int .i64 m2,.string m3,.int .i64 m4,.int .i64 m5,m6,m7],va] w (Gives (.bool true) w):=by
 obtain⟨A,c,rfl,_,_⟩:=h.form
 obtain⟨A2,c2,rfl,_,_⟩:=hv.form
 rw[hl] at h
 rw[hl]
 have hl3:args.length≤100:=by omega
 obtain⟨wA,hwA⟩:∃wA,wA=(w.alloc (.cells #[.string mn,.slice A args.length c,.int .i64 m2,.string m3,.int .i64 m4,.int .i64 m5,m6,m7] 125)):=⟨_,rfl⟩
 have hfA:Fr No w wA:=hwA▸frc
 have hA:=h.k0 hfA
 clear h hv
 have hI0:Hid (Fr No wA wA):=Fr.refl _ _
 go_enter Tryz.func53,Tryz.ntmps53
 go_wp2_with fail
 rw[<-hwA]
 replace hwA:=Lib.hid hwA
 go_loopw [16] (fun i wr=>∃j:Nat,j≤args.length∧i=.int .i64 j∧Hid (Fr No wA wr)) (fun i _=>args.length-(intOf i).toNat)
 case atStart=>exact⟨0,Nat.zero_le _,rfl,hI0⟩
 case round=>
  clear hI0
  obtain⟨j,hj,rfl,hI⟩:=hrel
  have hfr:=hI.out
  clear hI
  by_cases hlt:j<args.length
  ·obtain⟨b,off,rfl,_,k0,k1,_⟩:=(hA.k0 hfr).knd (k:=j) (by omega)
   have hkj:=hk _ (List.getElem_mem (show j<margs.length by omega))
   rw[hkj] at k0
   have hadd:IntKind.i64.wrap ((j:Int)+1)=((j+1:Nat):Int):=by rw[IntWalk.i64_in _ (by omega)];simp
   clear hk hkj
   generalize margs[j]=t at *
   clear hA hl
   go_wp2_with fail
   exact⟨⟨j+1,by omega,by simp,Lib.hid frc⟩,by simp[intOf];omega⟩
  ·clear hl
   obtain rfl:j=args.length:=by omega
   go_wp2_with fail
   refine bodyPost_ret (results_tmp rfl _ _ _) rfl ?_
   exact⟨rfl,hfA.trans0 hfr⟩
theorem zw1 {w w1:World} {l bl n:Nat} {p:Plan} {look:Bool} {mb:Nat} (hlg:Lg w l bl n p) (hmb:w.heap.size≤mb) (hf1:Fr No w w1)
  (hb:Bx w1 mb zwp #[.pointer (some ⟨l,0,none⟩),.bool look,.int .i64 1,.slice none 0 0,.slice none 0 0,.slice none 0 0,.int .i64 0,.int .i64 0]):
  McS ⟨w,l,bl,p,look,mb⟩ n ⟨1,[],[],[],zwj⟩ ⟨.slice none 0 0,.slice none 0 0,.slice none 0 0,[],[]⟩ w1:=by
 have hmc:mcB ⟨w,l,bl,p,look,mb⟩ ⟨.slice none 0 0,.slice none 0 0,.slice none 0 0,[],[]⟩=[mb]:=by
  unfold mcB
  simp[rowB,zf2]
 refine⟨hf1.of0,hlg.keep hf1,hb,RowV.nil _ _ _,trivial,RowV.nil _ _ _,trivial,RowV.nil _ _ _,?_,?_⟩
 ·rw[hmc];simp
 ·rw[hmc];intro b hb;rw[List.mem_singleton] at hb;subst hb;exact hmb
theorem znf {p:Plan} {s:Str}:∀(n:Nat) (k:Int) {r:Ref},zbI p s n k=(r,1)->zbF p r.keeper s<0∧¬zbD p r.keeper s<0∧r.name=s
 | 0,_,_,h=>absurd (Prod.mk.inj h).2 (by decide)
 | n+1,k,r,h=>by
  rw[zbI] at h
  by_cases ha:zbF p k s<0
  ·rw[if_pos ha] at h
   by_cases ho:zbD p k s<0
   ·rw[if_pos ho] at h
    exact absurd (Prod.mk.inj h).2 (by decide)
   ·rw[if_neg ho] at h
    obtain rfl:=(Prod.mk.inj h).1
    exact⟨ha,ho,rfl⟩
  ·rw[if_neg ha] at h
   exact znf n _ h
theorem zng {p:Plan} {n:Nat} {r:Ref} {rs:List Ref} (h:upGo p n r=some rs):rs≠[]:=by
 cases n with
 | zero=>cases h
 | succ n=>
  rw[upGo] at h
  split at h
  ·cases h;simp
  ·split at h
   ·obtain⟨_,_,rfl⟩:=Option.map_eq_some_iff.1 h
    simp
   ·cases h
theorem znh {p:Plan} {k:Int} {kc i:Nat} {s:Str} {pre:List Ref} (h:zmD p k s=(⟨kc,s⟩,1)) (hh:Here p ⟨kc,s⟩ kc i) (hc:chainOf p ⟨kc,s⟩=some pre):zmD p kc s=(⟨kc,s⟩,1):=by
 have h1:zbf p k s=(⟨kc,s⟩,1):=by
  unfold zmD at h
  by_cases h2:(zbf p k s).2=1
  ·rw[if_pos h2] at h
   split at h
   ·rw[<-(Prod.mk.inj h).1,<-h2]
   ·exact absurd (Prod.mk.inj h).2 (by decide)
  ·rw[if_neg h2] at h
   exact absurd (Prod.mk.inj h).2 h2
 have h3:whose p k s=(⟨kc,s⟩,1):=by
  unfold zbf at h1
  split at h1
  ·exact h1
  ·exact absurd (Prod.mk.inj h1).2 (by decide)
 obtain⟨h4,h5,_⟩:=znf 4 k h3
 refine za3 (pre:=pre) ?_ hc
 rw[za2 hh.2.1]
 show zbI p s 4 kc=_
 rw[zbI,if_pos h4,if_neg h5]
theorem zni {p:Plan} {k:Int} {kc i:Nat} {s:Str} {pre:List Ref} (h:zmD p k s=(⟨kc,s⟩,1)) (hh:Here p ⟨kc,s⟩ kc i) (hc:chainOf p ⟨kc,s⟩=some pre):zmF p ⟨kc,s⟩=pre∧canB p ⟨kc,s⟩=zhn p pre:=by
 have h1:zmF p ⟨kc,s⟩=pre:=by
  unfold zmF
  dsimp only
  rw[znh h hh hc,if_pos ⟨rfl,rfl⟩,hc]
  rfl
 refine⟨h1,?_⟩
 unfold canB
 rw[h1]
 cases pre with
 | nil=>exact absurd rfl (zng hc)
 | cons a b=>rfl
def OwnR (p:Plan) (q:Ref):Prop:=zbF p q.keeper q.name<0∧¬zbD p q.keeper q.name<0
theorem zw2 {p:Plan}:∀(n:Nat) {r:Ref} {rs:List Ref},upGo p n r=some rs->OwnR p r->∀q∈rs,OwnR p q∧∃qs,upGo p n q=some qs
 | 0,_,_,h,_,_,_=>by cases h
 | n+1,r,rs,h,h0,q,hq=>by
  have hh:=h
  rw[upGo] at h
  split at h
  ·cases h
   rw[List.mem_singleton] at hq
   subst hq
   exact⟨h0,_,hh⟩
  ·split at h
   ·rename_i h1
    obtain⟨rs',h2,rfl⟩:=Option.map_eq_some_iff.1 h
    rcases List.mem_cons.1 hq with rfl|hq
    ·exact⟨h0,_,hh⟩
    ·obtain⟨h3,h4,h5⟩:=znf 4 r.keeper (p:=p) (s:=(zbG p r).super) (r:=(whose p r.keeper (zbG p r).super).1) (Prod.ext rfl h1)
     obtain⟨h6,qs,h7⟩:=zw2 n h2 ⟨by rw[h5];exact h3,by rw[h5];exact h4⟩ q hq
     exact⟨h6,qs,zjx h7 (Nat.le_succ n)⟩
   ·cases h
theorem zw3 {p:Plan} {k:Int} {s:Str} {r:Ref} (h:zmD p k s=(r,1)):whose p k s=(r,1):=by
 have h1:zbf p k s=(r,1):=by
  unfold zmD at h
  by_cases h2:(zbf p k s).2=1
  ·rw[if_pos h2] at h
   split at h
   ·rw[<-(Prod.mk.inj h).1,<-h2]
   ·exact absurd (Prod.mk.inj h).2 (by decide)
  ·rw[if_neg h2] at h
   exact absurd (Prod.mk.inj h).2 h2
 unfold zbf at h1
 split at h1
 ·exact h1
 ·exact absurd (Prod.mk.inj h1).2 (by decide)
theorem zw4 {p:Plan} (hp:lodB p=true) {k:Int} {kc i:Nat} {s:Str} {pre:List Ref} (h:zmD p k s=(⟨kc,s⟩,1)) (hh:Here p ⟨kc,s⟩ kc i) (hc:chainOf p ⟨kc,s⟩=some pre) {q:Ref} (hq:q∈pre):zmD p q.keeper q.name=(q,1):=by
 obtain⟨h1,h2,_⟩:=znf 4 k (zw3 h)
 obtain⟨⟨h3,h4⟩,qs,h5⟩:=zw2 6 hc ⟨h1,h2⟩ q hq
 obtain⟨_,k',i',hh'⟩:=zhf hp hh hc q hq
 obtain⟨qk,qn⟩:=q
 obtain⟨rfl,hk,_⟩:=hh'
 refine za3 (pre:=qs) ?_ h5
 rw[za2 hk]
 show zbI p qn 4 k'=_
 rw[zbI,if_pos h3,if_neg h4]
theorem zw5 {p:Plan} {s:Str} {q:Ref} {i:Int}:∀(rs:List Ref),zho p s rs=some (q,i)->q∈rs
 | [],h=>by cases h
 | r :: rs,h=>by
  rw[zho] at h
  split at h
  ·exact List.mem_cons_of_mem _ (zw5 rs h)
  ·cases h;exact List.mem_cons_self
theorem zw6 {p:Plan} {k:Int} {s m:Str} {r:Ref} (hc:zwk p k s=some r) (h:(zd4 p k s m).2=1):zhp p r m=some (zd4 p k s m).1:=by
 unfold zwk at hc
 unfold zd4 zd3 zdS zdR at h ⊢
 split at hc
 ·rename_i h1
  split at hc
  ·rename_i h2
   obtain rfl:=Option.some.inj hc
   cases hm:namB m
   ·rw[hm] at h;cases h
   ·simp only[hm,if_true,h1,h2] at h ⊢
    cases hq:zhp p (zmD p k s).1 m with
    | none=>rw[hq] at h;cases h
    | some q=>
     obtain⟨q,a⟩:=q
     rw[hq] at h
     dsimp only at h ⊢
     split at h
     ·rename_i h3;rw[if_pos h3]
     ·cases h
  ·cases hc
 ·cases hc
theorem zw7 {p:Plan} {k:Int} {h:List Obj}:∀(ks:List Knd) (args:List Int),(∀t∈ks,t.kind=1)->((args.map fun x=>(⟨1,x⟩:Val)).zip ks).all (fun x=>hasB p k h x.1 x.2)=true
 | [],args,_=>by simp
 | t :: ks,[],_=>by simp
 | t :: ks,x :: args,ht=>by
  rw[List.map_cons,List.zip_cons_cons,List.all_cons,zw7 ks args (fun u hu=>ht u (by simp[hu])),Bool.and_true]
  have:=ht t (by simp)
  unfold hasB
  rw[if_pos this]
  rfl
theorem zw8 {p:Plan} (hp:lodB p=true) {k:Int} {s mb:Str} {r:Ref} (hc:zwk p k s=some r) {q:Ref} {a:Nat} (hq:zhp p r mb=some (q,(a:Int))) (ha:a<(zbG p q).methods.length) {args:List Int} (hs:zwn ((zbG p q).methods[a]) args=true):
  zwm p ⟨q,a⟩ [⟨r,zwl p r⟩] (⟨2,0⟩ :: args.map (⟨1,·⟩))=true:=by
 have hf:zmD p k s=(r,1):=by
  unfold zwk at hc
  split at hc
  ·rename_i h1
   split at hc
   ·exact Prod.ext (Option.some.inj hc) h1
   ·cases hc
  ·cases hc
 obtain⟨kc,i,pre,hf',hh,hch⟩:=zmH hp (k:=k) (s:=s) (by rw[hf])
 obtain rfl:r=⟨kc,s⟩:=by rw[hf] at hf';exact(Prod.mk.inj hf').1
 have hcK:=(zni hf hh hch).1
 unfold zhp at hq
 split at hq
 ·rw[hcK] at hq
  have hm:=zw5 _ hq
  have hfo:=zw4 hp hf hh hch hm
  unfold zwn at hs
  rw[lz5,List.all_eq_true] at hs
  have hmo:zo3 p ⟨q,a⟩=(zbG p q).methods[a]:=by unfold zo3;simp[List.getD,lz8 ha]
  unfold zwm
  rw[List.zip_cons_cons,List.all_cons,lz5]
  refine⟨?_,?_⟩
  ·unfold hasB
   dsimp only
   rw[if_neg (by decide),if_neg (by decide),if_pos rfl,hfo]
   dsimp only
   rw[lz5]
   refine⟨by simp,?_⟩
   unfold zem
   rw[List.any_eq_true]
   refine⟨q,?_,by unfold zjt;simp⟩
   show q∈zmF p ((([(⟨⟨kc,s⟩,zwl p ⟨kc,s⟩⟩:Obj)]:List Obj).getD 0 zv2).of_)
   rw[List.getD_cons_zero,hcK]
   exact hm
  ·rw[hmo]
   exact zw7 _ _ (fun t ht=>by simpa using hs.2 t ht)
 ·cases hq
theorem zw9 {p:Plan} (hp:lodB p=true) (r:Ref):(layB p r).length≤1000:=by
 unfold layB layK layL
 split
 ·simp only[zjJ]
  have h1:=zjM hp (rs:=(zmF p r).reverse) (fun x hx=>zhj hp r x (by simpa using hx))
  have h2:=zhk hp r
  simp at h1 ⊢
  omega
 ·simp
def zxa (p:Plan) (k:Int) (s mb:Str) (args:List Int):Bool:=(zwk p k s).isSome&&(decide ((zd4 p k s mb).2=1)&&zwn (zcG p (zd4 p k s mb).1) args)
def zxb (p:Plan) (s mb:Str) (args:List Int):Int:=if namB s&&namB mb&&args.all numB then (if zxa p 0 s mb args then 1 else 4) else 0
theorem zxc (p:Plan) (s mb:Str) (args:List Int):zxb p s mb args=0∨zxb p s mb args=1∨zxb p s mb args=4:=by
 unfold zxb
 split
 ·split
  ·exact .inr (.inl rfl)
  ·exact .inr (.inr rfl)
 ·exact .inl rfl
theorem zxd {p:Plan} {s mb:Str} {args more:List Int} (h:zxb p s mb args=1) (hn:more.all numB=true) (hl:more.length≠args.length):zxb p s mb more=4:=by
 unfold zxb at h ⊢
 split at h
 ·rename_i h1
  split at h
  ·rename_i h2
   rw[lz5] at h1
   rw[hn,if_pos (by rw[h1.1];rfl),if_neg]
   intro h3
   unfold zxa zwn at h2 h3
   simp only[lz5,decide_eq_true_eq] at h2 h3
   have a:=h2.2.2.1
   have b:=h3.2.2.1
   exact hl (by omega)
  ·cases h
 ·cases h
theorem zxe {p:Plan} {s mb:Str} {args:List Int} (h:zxb p s mb args=1):args.all numB=true:=by
 unfold zxb at h
 split at h
 ·rename_i h1
  rw[lz5] at h1
  exact h1.2
 ·cases h
def zxf (k:Knd):List Value:=[.int .i64 k.kind,.string k.name]
theorem zxg (k:Knd):(zxf k).length=2:=rfl
theorem Sl.knds {X:Nat->Prop} {w:World} {v:Value} {xs:List Knd} (h:Sl X w 2 KndC v xs):∀x∈xs,x.name.size≤maxLen:=by
 intro x hx
 obtain⟨A,cap,rfl,_⟩:=h.form
 obtain⟨k,hk,rfl⟩:=List.mem_iff_getElem.1 hx
 obtain⟨b,off,cs,_,_,hR,_⟩:=h.cells hk
 exact hR.2
theorem RowV.newOne (w:World) (e:TypeId) (sz:Nat) (cs:List Value) (h:cs.length=sz):RowV (w.alloc (.cells cs.toArray e)) e sz (.slice (some ⟨w.heap.size,0,none⟩) 1 1) 1 cs:=
 .inl ⟨by simp[h],.inr ⟨w.heap.size,1,cs.toArray,rfl,Nat.zero_le _,Bx.new w e _,Nat.le_refl _,by unfold maxLen;decide,by simp[h],by simp[<-h]⟩⟩
theorem zxh {w:World} {g n c:Nat} {T:List Knd} (h:RowV w 121 2 (.slice (some ⟨g,0,none⟩) n c) T.length (T.flatMap zxf)) (hn:n=T.length) {j:Nat} (hj:j<T.length):n≤c∧c≤maxLen∧∀W,Fr No w W->W.cell? ⟨g,j * 2,none⟩=some (.int .i64 T[j].kind)∧W.cell? ⟨g,j * 2+1,none⟩=some (.string T[j].name)∧g<W.heap.size:=by
 subst hn
 obtain⟨g',c',cur,he,h1,h2,hb,_,_,_⟩:=h.at_ (by omega)
 cases he
 have c0:=(h.cell rfl (j:=j * 2+0) (by omega)).trans (zqB zxg T j hj 0 (by decide))
 have c1:=(h.cell rfl (j:=j * 2+1) (by omega)).trans (zqB zxg T j hj 1 (by decide))
 exact⟨h1,h2,fun W hW=>⟨hW.keep0 c0,hW.keep0 c1,(hb.keep hW).lt⟩⟩
theorem zxi {K:McP} {n:Nat} {s:St} {m:MLay} {W:World} (h:McS K n s m W) {k:Int} {x:Val} {t:Knd} (hx:x.kind=2->∃j:Nat,x.n=j∧j<s.heap.length) (ht:t.name.size≤maxLen):
  Calls Tryz.prog 104 #[.pointer (some ⟨K.l,0,none⟩),.int .i64 k,m.vh,.agg #[.int .i64 x.kind,.int .i64 x.n],.agg #[.int .i64 t.kind,.string t.name]] W (zgm (hasB K.p k s.heap x t) W):=by
 obtain⟨gg,hg1,_⟩:=h.lg
 exact zwD No K.l K.bl n K.p gg k m.vh s.heap x t W hg1 h.heapSl hx ht
theorem zxj:(Tryz.prog.info? 203).map (fun i=>(i.zero,i.size,i.bytes))=some (some (.pointer none),1,8):=by kernel_rfl
theorem zxk:(madeCells (Value.agg #[.int .i64 0,.int .i64 0]).cells (1 * 2)).toList=(List.replicate 1 zwj).flatMap zv7:=by kernel_rfl
theorem zxl:(madeCells (Value.agg #[.int .i64 0,.int .i64 0]).cells (2 * 2)).toList=(List.replicate 2 zwj).flatMap zv7:=by kernel_rfl
theorem zxm:(madeCells (Value.agg #[.int .i64 0,.int .i64 0]).cells (3 * 2)).toList=(List.replicate 3 zwj).flatMap zv7:=by kernel_rfl
theorem zxn:(madeCells (Value.agg #[.int .i64 0,.int .i64 0]).cells (4 * 2)).toList=(List.replicate 4 zwj).flatMap zv7:=by kernel_rfl
theorem zxo:(madeCells (Value.agg #[.int .i64 0,.int .i64 0]).cells (5 * 2)).toList=(List.replicate 5 zwj).flatMap zv7:=by kernel_rfl
theorem zxp:(madeCells (Value.agg #[.int .i64 0,.int .i64 0]).cells (6 * 2)).toList=(List.replicate 6 zwj).flatMap zv7:=by kernel_rfl
theorem zxq {N:Nat} (h1:1≤N) (h6:N≤6):(madeCells (Value.agg #[.int .i64 0,.int .i64 0]).cells (N * 2)).toList=(List.replicate N zwj).flatMap zv7:=by
 have h:N=1∨N=2∨N=3∨N=4∨N=5∨N=6:=by omega
 rcases h with rfl|rfl|rfl|rfl|rfl|rfl
 ·exact zxk
 ·exact zxl
 ·exact zxm
 ·exact zxn
 ·exact zxo
 ·exact zxp
def ptrP (base:Nat) (cells:Array Value):Value->World->Prop:=fun v W=>∃g b,v=.slice (some ⟨g,0,none⟩) 1 1∧Bx W g tPtr #[.pointer (some ⟨b,0,none⟩)]∧base≤g∧Bx W b zwo cells∧base≤b∧g≠b
theorem ptrP.mono {base:Nat} {cells:Array Value}:MonP (ptrP base cells):=fun _ _ _ ⟨g,b,h1,h2,h3,h4,h5⟩ hf=>⟨g,b,h1,h2.keep hf,h3,h4.keep hf,h5⟩
theorem zxr:(Tryz.prog.info? 121).map (fun i=>(i.zero,i.size,i.bytes))=some (some (.agg #[.int .i64 0,.string ⟨#[]⟩]),2,24):=by kernel_rfl
theorem zxs {p:Plan} {k a:Nat} {s:Str} (ha:a<(zbG p ⟨k,s⟩).methods.length):zo3 p ⟨⟨k,s⟩,a⟩=(zbG p ⟨k,s⟩).methods[a]:=zv3 ha zo2
theorem zxt (ty:TypeId) (w:World) (g:Nat) (xs:List Value) (hrow:RowV w 121 2 (.slice (some ⟨g,0,none⟩) 1 1) 1 xs) (X:Nat->Prop) (A:Option Addr) (c:Nat) (ks:List Knd) (hk:Sl X w 2 KndC (.slice A ks.length c) ks) (hl:ks.length≤100):
  ∃g' cap' w',(Builtin.append_ #[119,119] ty #[.slice (some ⟨g,0,none⟩) 1 1,.slice A ks.length c]).run Tryz.prog w=.ok (.slice (some ⟨g',0,none⟩) (1+ks.length) cap') w'∧RowV w' 121 2 (.slice (some ⟨g',0,none⟩) (1+ks.length) cap') (1+ks.length) (xs ++ ks.flatMap zxf)∧1+ks.length≤cap' ∧
   Fr (fun b=>zcP (.slice (some ⟨g,0,none⟩) 1 1)=some b) w w'∧(zcP (.slice (some ⟨g,0,none⟩) 1 1)=some g'∨g'=w.heap.size):=by
 obtain⟨i0,hi,hz0,hz1,hz2⟩:=info_parts zxr
 rcases Nat.eq_zero_or_pos ks.length with h0|h0
 ·obtain rfl:=List.eq_nil_of_length_eq_zero h0
  exact⟨g,1,w,zty w _ ty _ i0 Tryz.underlying119 hi _ A 1 1 c (by decide),by simpa using hrow,by decide,Fr.refl _ _,.inl (zqC (by decide))⟩
 ·obtain⟨b,off,_,hA,_,_,_⟩:=hk.cells (k:=0) h0
  subst hA
  exact zcR (P:=Tryz.prog) w 119 ty 121 i0 (.agg #[.int .i64 0,.string ⟨#[]⟩]) 2 24 Tryz.underlying119 hi hz0 hz1 hz2 rfl (by decide) _ 1 xs hrow ⟨b,off,none⟩ ks.length c (ks.flatMap zxf) (zqA zxg ks) (hk.newsW (C:=zxf) (by decide) zxg (fun _ _ h=>h.1))
   (by intro u hu;obtain⟨t,_,ht⟩:=List.mem_flatMap.1 hu;simp only[zxf,List.mem_cons,List.not_mem_nil,or_false] at ht;rcases ht with rfl|rfl<;>rfl) h0 (by unfold maxLen;omega) (by omega)
theorem zxu {w:World} {ops:Array Oper} {rest:List Oper} {o:Oper} {a:Act} {Q:Exit->Act->World->Prop} (hgd:o.guard=none) (s x:Operand) (ho:o.op=.call { callee:=.builtin .append,args:=#[s,x],argTypes:=#[119,119] })
  (g:Nat) (xs:List Value) (hs:a.eval s=.slice (some ⟨g,0,none⟩) 1 1) (hrow:RowV w 121 2 (.slice (some ⟨g,0,none⟩) 1 1) 1 xs) (X:Nat->Prop) (A:Option Addr) (c:Nat) (ks:List Knd) (hx:a.eval x=.slice A ks.length c) (hk:Sl X w 2 KndC (.slice A ks.length c) ks) (hl:ks.length≤100)
  (h:∀g' cap' w',RowV w' 121 2 (.slice (some ⟨g',0,none⟩) (1+ks.length) cap') (1+ks.length) (xs ++ ks.flatMap zxf)->1+ks.length≤cap'->Fr (fun b=>zcP (.slice (some ⟨g,0,none⟩) 1 1)=some b) w w'->(zcP (.slice (some ⟨g,0,none⟩) 1 1)=some g'∨g'=w.heap.size)->wpList Tryz.prog ops Q rest (a.put o.dst (.slice (some ⟨g',0,none⟩) (1+ks.length) cap')) w'):wpList Tryz.prog ops Q (o :: rest) a w:=
 wpList_plain hgd fun K hK=>by
  obtain⟨g',cap',w',hr,h2,h3,h4,h5⟩:=zxt o.type w g xs hrow X A c ks hk hl
  unfold Oper.wp execOp
  simp only[ho,resolve,invoke,builtin,Sem.run_bind,Sem.run_pure,Result.andThen_ok,List.map_toArray,List.map_cons,List.map_nil,hs,hx,hr]
  exact hK _ _ (h g' cap' w' h2 h3 h4 h5)
theorem zxv (K:McP) (E:McE K) (hlk:K.look=false) (n:Nat) (s:St) (m:MLay) (w:World) (hM0:McS K n s m w) (hgo:s.status=1) (hfl:s.frames.length<8) (_:s.heap.length≤100)
  (kk ix a:Nat) (nm:Str) (hh:Here K.p ⟨kk,nm⟩ kk ix) (hs:nm.size≤maxLen) (ha:a<(zbG K.p ⟨kk,nm⟩).methods.length)
  (v:Value) (ys:List Val) (hv:zv8 w v ys) (hvn:∀q,zcP v=some q->K.w0.heap.size≤q∧q∉mcB K m) (hv0:0<ys.length) (hvl:ys.length≤(zbG K.p ⟨kk,nm⟩).methods[a].args.length+1) (hvL:(ys.length:Int)≤(zbG K.p ⟨kk,nm⟩).methods[a].locals) (hL:(zbG K.p ⟨kk,nm⟩).methods[a].locals≤6)
  (hargl:(zbG K.p ⟨kk,nm⟩).methods[a].args.length≤100) (hvr:∀x∈ys,x.kind=2->∃j:Nat,x.n=j∧j<s.heap.length) (hty:zwm K.p ⟨⟨kk,nm⟩,a⟩ s.heap ys=true):
  Calls Tryz.prog 58 #[.pointer (some ⟨K.mb,0,none⟩),.agg #[.int .i64 (kk:Int),.string nm,.int .i64 (a:Int)],v] w (zwu K (n+34) (s.goes (s.frames ++ [⟨⟨⟨kk,nm⟩,a⟩,0,ys ++ List.replicate ((zbG K.p ⟨kk,nm⟩).methods[a].locals.toNat-ys.length) zwj,[]⟩])) m w):=by
 obtain⟨gv,cv,rfl⟩:=zv8.pos hv hv0
 have hMlt:=Lib.hid (fun b (hb:b∈mcB K m)=>hM0.lt hb)
 obtain⟨RES,hRES⟩:∃R:St,R=s.goes (s.frames ++ [⟨⟨⟨kk,nm⟩,a⟩,0,ys ++ List.replicate ((zbG K.p ⟨kk,nm⟩).methods[a].locals.toNat-ys.length) zwj,[]⟩]):=⟨_,rfl⟩
 rw[<-hRES]
 replace hRES:=Lib.hid hRES
 have hRetn:(zbG K.p ⟨kk,nm⟩).methods[a]=(zbG K.p ⟨kk,nm⟩).methods[a]:=rfl
 obtain⟨wA,hwA⟩:∃wA,wA=(w.alloc (.cells #[.int .i64 (kk:Int),.string nm,.int .i64 (a:Int)] 113)):=⟨_,rfl⟩
 have hfA:Fr No w wA:=hwA▸frc
 have B0:=(hwA▸bxc:Bx wA w.heap.size 113 #[.int .i64 (kk:Int),.string nm,.int .i64 (a:Int)])
 have hbl:=E.bl_lt
 have hw0:=hM0.anchor.size
 have hlg:=hM0.lg
 have hmb0:=hM0.new _ (zwt.2 (.inl rfl))
 obtain⟨Ac,cc,hvc,hc1,hc2⟩:=hM0.crow.form
 unfold maxLen at hc2
 have KMw:=hM0.cells w (Fr.refl _ _)
 rw[hvc] at KMw
 obtain⟨_,_,_,z3,_,_,_,_,_,zl⟩:=KMw
 have hMA:=hM0.keep E hfA
 have KM:=hMA.cells
 have hne0:K.mb<w.heap.size:=hM0.lt (zwt.2 (.inl rfl))
 replace hvc:=Lib.hid hvc
 replace hM0:=Lib.hid hM0
 replace hMA:=Lib.hid hMA
 ·rw[hlk] at KM
  go_enter Tryz.func58,Tryz.ntmps58
  go_wp2_with fail
  rw[<-hwA]
  replace hwA:=Lib.hid hwA
  (refine zgc (X:=No) (by kernel_rfl) (by kernel_rfl) ?_)
  (repeat((first|go_big_quiet_skip|(go_big_quiet_want;(apply Exists.intro;refine⟨fun W hW=>?_,?_⟩);(focus (exact fqc));go_big_quiet_on));(try simp only[Act.put,lz0,lz1,lz2])));refine wpQuiet_nil ?_
  intro w3 hf3
  have hf3b:Fr (fun b=>b=K.bl) wA w3:=hf3.of0
  have hl3:Lg w3 K.l K.bl (n+34) K.p:=((hlg.keep hfA).keep hf3).mono (by omega)
  clear hf3 KM z3 zl
  go_wp2_with fail
  have hM3:McS K (n+34) s m w3:=(hM0.out.keep E hfA).lodge E hl3 hf3b
  have B3:=B0.keepX hf3b (by omega)
  obtain⟨mcs,⟨va,vcd,vmp,rfl,_,hretn,hA1,hA2,hA3⟩,HMv⟩:=zc9 (E.lodgeX hM3.anchor) hh hs ha
  have hcode:=hA2.back hM3.anchor
  obtain⟨Aa,ca,rfl,_,hal2⟩:=hA1.form
  obtain⟨Ad,cd,rfl,_,_⟩:=hA2.form
  obtain⟨Ap,cp,rfl,_,_⟩:=hA3.form
  have hMth:Hid (zo3 K.p ⟨⟨kk,nm⟩,a⟩=(zbG K.p ⟨kk,nm⟩).methods[a]):=Lib.hid (zxs ha)
  generalize hMm:(zbG K.p ⟨kk,nm⟩).methods[a]=M at *
  have hfw3:Fr (fun b=>b=K.bl) w w3:=(hfA.of0).trans hf3b (fun _ _ h=>h)
  have KM3:=hM3.cells
  have K3:=B3.r3
  replace hMm:=Lib.hid hMm
  replace hM3:=Lib.hid hM3
  replace hcode:=Lib.hid hcode
  replace hretn:=Lib.hid hretn
  obtain⟨i0,hi,hz0,hz1,hz2⟩:=info_parts zxr
  replace hi:=Lib.hid hi
  replace hz0:=Lib.hid hz0
  replace hz1:=Lib.hid hz1
  replace hz2:=Lib.hid hz2
  refine zn0 7 37 [mV (.pointer (some ⟨K.mb,0,none⟩)),mV (.pointer (some ⟨K.mb,0,none⟩)),mV (.pointer (some ⟨K.mb,0,none⟩)),mV (.pointer (some ⟨K.l,0,none⟩)),mV (.agg #[.int .i64 (kk:Int),.string nm,.int .i64 (a:Int)]),mV (.agg #[.string M.name,.slice Aa M.args.length ca,.int .i64 M.ret.kind,.string M.ret.name,.int .i64 M.locals,.int .i64 M.stack,.slice Ad M.code.length cd,.slice Ap M.maps.length cp]),mB 125 (#[.string ⟨#[]⟩,.slice none 0 0,.int .i64 0,.string ⟨#[]⟩,.int .i64 0,.int .i64 0,.slice none 0 0,.slice none 0 0]) w3.heap.size] (by kernel_rfl) (by kernel_rfl) (by simp) ?_ ?_
  ·refine hc4 ?_ ?_ ?_ ?_ <| hopC ?_ <| hopC ?_ <| hopC ?_ <| hopZ
   all_goals (intro a' W hW hoff hdep;have hbs:=hW.size;have H0:=hoff 0 rfl;have H4:=hoff 4 rfl;refine nE rfl ?_)
   ·simp[execOp,Act.eval,H0,go_sem,zaa];exact fr1 rfl
   ·have D31:_=_:=hdep 0 31 rfl;simp[execOp,Act.eval,D31,go_sem,zaa];exact fr1 rfl
   ·have D32:_=_:=hdep 1 32 rfl;simp[execOp,Act.eval,D32,go_sem,zaa];exact fr1 rfl
   ·have D33:_=_:=hdep 2 33 rfl;clear hoff hdep;simp[execOp,Act.eval,go_sem,zaa, *];exact fr1 rfl
   ·exact gx0
   ·have D34:_=_:=hdep 3 34 rfl;have D35:_=_:=hdep 4 35 rfl;simp[Act.eval,D34,D35,go_sem,zaa];exact(HMv _ hW).mono fun e w' h=>⟨_,h.1,h.2,rfl⟩
   ·simp[execOp,go_sem,zaa];exact⟨(Fr.refl _ _).alloc _,⟨_,rfl,Bx.new_ rfl,hbs⟩,Nat.le_refl _⟩
  intro vs WR hWR hv hne
  obtain⟨b6,e6,hb6,hl6⟩:=hv 6 (by omega)
  simp only[lz6,List.drop_zero,znP,znK,znR,Nat.zero_add,Nat.reduceAdd,e6]
  simp only[Act.put,lz0,lz1,lz2]
  clear e6 hv
  have hwl3:w.heap.size<w3.heap.size:=B3.lt
  have B0R:=B3.keep hWR
  clear KM3 K3 HMv hne
  refine zco rfl 125 (.tmp 7) (.tmp 36) rfl 8 (by kernel_rfl) b6 125 _ [.string M.name,.slice Aa M.args.length ca,.int .i64 M.ret.kind,.string M.ret.name,.int .i64 M.locals,.int .i64 M.stack,.slice Ad M.code.length cd,.slice Ap M.maps.length cp] rfl rfl hb6 rfl rfl (by simp[Value.oneCell']) ?_
  intro wB BB hfB
  have B0B:=B0R.keepX hfB (by omega)
  have hlB:=BB.lt
  obtain⟨x0,x1,x2⟩:=B0B.c3
  have xl:=B0B.lt
  obtain⟨y0,y1,y2,y3,y4,y5,y6,y7⟩:=Bx.c8 BB
  have hfC:Fr No wB (wB.alloc (.cells #[.int .i64 2,.string nm] 121)):=(Fr.refl No wB).alloc _
  have hlw3:K.w0.heap.size≤w3.heap.size:=Nat.le_trans hw0 (Nat.le_of_lt hwl3)
  have hA1C:=((hA1.k0 hWR).keep (R':=KndC) hfB (fun b hb=>.inr (by omega)) (fun _ _ _ h=>h)).k0 hfC
  have hsmT:=hA1C.knds
  have hrow0:RowV (wB.alloc (.cells #[.int .i64 2,.string nm] 121)) 121 2 (.slice (some ⟨wB.heap.size,0,none⟩) 1 1) 1 [.int .i64 2,.string nm]:=RowV.newOne wB _ 2 [.int .i64 2,.string nm] rfl
  have hfw3B:Fr (fun b=>w.heap.size≤b) w3 (wB.alloc (.cells #[.int .i64 2,.string nm] 121)):=((hWR.of0 (X:=fun b=>w.heap.size≤b)).trans hfB (fun b hb e=>by omega)).trans0 hfC
  have hlBC:=hfC.size
  have hbB:w3.heap.size≤wB.heap.size:=by have:=hWR.size;have:=hfB.size;omega
  replace BB:=Lib.hid BB
  replace B0B:=Lib.hid B0B
  replace hb6:=Lib.hid hb6
  replace hA1:=Lib.hid hA1
  replace hA1C:=Lib.hid hA1C
  replace hal2:=Lib.hid hal2
  clear hWR
  go_wp2_with (at_builtin;(refine zxu rfl _ _ rfl wB.heap.size [.int .i64 2,.string nm] rfl hrow0 _ Aa ca M.args rfl hA1C (by omega) ?_);(intro g' cap' w4 hrowT hcapT hgfT horT))
  clear x0 x1 x2 xl y0 y1 y2 y3 y4 y5 y6 y7
  have hT:RowV w4 121 2 (.slice (some ⟨g',0,none⟩) (1+M.args.length) cap') ((⟨2,nm⟩ :: M.args).length) (((⟨2,nm⟩:Knd) :: M.args).flatMap zxf):=by
   have e1:(((⟨2,nm⟩:Knd) :: M.args).length)=1+M.args.length:=by simp;omega
   have e2:(((⟨2,nm⟩:Knd) :: M.args).flatMap zxf)=[.int .i64 2,.string nm] ++ M.args.flatMap zxf:=rfl
   rw[e1,e2]
   exact hrowT
  have hg'n:wB.heap.size≤g':=by
   rcases horT with h9|h9
   ·rw[zqC (by decide)] at h9
    have:=Option.some.inj h9
    omega
   ·omega
  have hf34:Fr (fun b=>w.heap.size≤b) w3 w4:=hfw3B.trans hgfT (fun b hb e=>by rw[zqC (by decide)] at e;have:=Option.some.inj e;omega)
  have hfw4:Fr (fun b=>b=K.bl∨w.heap.size≤b) w w4:=(hfw3.mono (fun _ _ h=>.inl h)).trans hf34 (fun b _ h=>.inr h)
  have hM4:McS K (n+34) s m w4:=hM3.out.far E hf34 (fun b hb=>⟨by omega,fun hx=>by have:=hMlt.out b hx;omega⟩)
  have hgfTn:∀b,zcP (.slice (some ⟨wB.heap.size,0,none⟩) 1 1)=some b->b=wB.heap.size:=fun b e=>by rw[zqC (by decide)] at e;exact(Option.some.inj e).symm
  have B04:=(B0B.out.keep hfC).keepX hgfT (fun e=>by have:=hgfTn _ e;have:=B0B.out.lt;omega)
  have BM4:=(BB.out.keep hfC).keepX hgfT (fun e=>by have:=hgfTn _ e;have:=hlB;omega)
  have hv4:zv8 w4 (.slice (some ⟨gv,0,none⟩) ys.length cv) ys:=hv.keepB hfw4 (fun q hq hx=>by
   have h9:=hvn q (zvT.1 hq)
   have:=RowV.ltB hv hq
   rcases hx with hx|hx<;>omega)
  have hTsz:∀x∈(⟨2,nm⟩ :: M.args:List Knd),x.name.size≤maxLen:=fun x hx=>by
   rcases List.mem_cons.1 hx with rfl|hx
   ·exact hs
   ·exact hsmT x hx
  obtain⟨T,hTe⟩:∃T,T=((⟨2,nm⟩:Knd) :: M.args):=⟨_,rfl⟩
  rw[<-hTe] at hT hTsz
  have hTl:T.length=1+M.args.length:=by rw[hTe];simp;omega
  have HH:=Lib.hid (fun(j:Nat) (hj:j<ys.length) (hjT:j<T.length) W (hW:Fr No w4 W)=>zxi (hM4.keep E hW) (k:=(kk:Int)) (x:=ys[j]) (t:=T[j]) (hvr _ (List.getElem_mem hj)) (hTsz _ (List.getElem_mem hjT)))
  have KV:=Lib.hid (fun(j:Nat) (hj:j<ys.length)=>(hv4.at2 hj).2.2.2)
  have KT:=Lib.hid (fun(j:Nat) (hj:j<T.length)=>zxh hT (hTl.symm) hj)
  have hcv:=(hv4.at2 (j:=0) hv0).2
  have hTy:Hid (∀(j:Nat) (hj:j<ys.length) (hjT:j<T.length),hasB K.p (kk:Int) s.heap ys[j] T[j]=true):=Lib.hid (fun j hj hjT=>by
   have h9:=hty
   unfold zwm at h9
   rw[hMth.out,<-hTe] at h9
   have hz:j<(ys.zip T).length:=by rw[List.length_zip];omega
   have h8:=List.all_eq_true.1 h9 _ (List.getElem_mem hz)
   rw[List.getElem_zip] at h8
   exact h8)
  have hI0:Hid (Fr No w4 w4):=Lib.hid (Fr.refl _ _)
  replace hv4:=Lib.hid hv4
  replace hT:=Lib.hid hT
  replace hM4:=Lib.hid hM4
  replace B04:=Lib.hid B04
  replace BM4:=Lib.hid BM4
  replace hTe:=Lib.hid hTe
  replace hcv:=Lib.hid hcv
  clear hrowT hrow0 hgfT horT hfw3B hM3 hf34 hgfTn
  go_loopw [47] (fun i wr=>∃j:Nat,j≤ys.length∧i=.int .i64 (j:Int)∧Hid (Fr No w4 wr)) (fun i _=>ys.length-(intOf i).toNat)
  case atStart=>exact⟨0,Nat.zero_le _,rfl,hI0⟩
  case round=>
   clear hI0
   obtain⟨j,hj,rfl,hI⟩:=hrel
   have hfr:=hI.out
   clear hI
   by_cases hlt:j<ys.length
   ·have hjT:j<T.length:=by omega
    have HHj:=fun W (hW:Fr No wr W)=>HH.out j hlt hjT W (hfr.trans0 hW)
    have KVj:=fun W (hW:Fr No wr W)=>KV.out j hlt W (hfr.trans0 hW)
    obtain⟨t1,t2,KTj0⟩:=KT.out j hjT
    have KTj:=fun W (hW:Fr No wr W)=>KTj0 W (hfr.trans0 hW)
    have hbv:=hTy.out j hlt hjT
    have KMr:=(hM4.out.keep E hfr).cells
    have K0r:=fun W (hW:Fr No wr W)=>(B04.out.keep (hfr.trans0 hW)).c3
    have K0l:=fun W (hW:Fr No wr W)=>(B04.out.keep (hfr.trans0 hW)).lt
    obtain⟨v0,v1,vf,vl⟩:=KVj wr (Fr.refl _ _)
    have hadd:IntKind.i64.wrap ((j:Int)+1)=((j+1:Nat):Int):=by rw[IntWalk.i64_in _ (by omega)];simp
    obtain⟨hcv1,hcv2⟩:=hcv.out
    unfold maxLen at hcv2 t2
    have hTl2:=Lib.hid hTl
    generalize T[j]=ty at *
    generalize ys[j]=x at *
    obtain⟨xk,xn⟩:=x
    obtain⟨tk,tn⟩:=ty
    dsimp only at *
    generalize hasB K.p (kk:Int) s.heap ⟨xk,xn⟩ ⟨tk,tn⟩=bv at *
    replace hadd:=Lib.hid hadd
    clear KTj0 KV KT HH hTl hTy
    subst hbv
    ·skip
     go_wp2_with fail
     obtain⟨wD,hwD⟩:∃wD,wD=wr.alloc (.cells #[.int .i64 xk,.int .i64 xn] 32):=⟨_,rfl⟩
     rw[<-hwD]
     have hfD:Fr No wr wD:=hwD▸(Fr.refl No wr).alloc _
     have KX:=(hwD▸Bx.new_ rfl:Bx wD wr.heap.size 32 #[.int .i64 xk,.int .i64 xn]).r2
     have HHD:=fun W (hW:Fr No wD W)=>HHj W (hfD.trans0 hW)
     have KTD:=fun W (hW:Fr No wD W)=>KTj W (hfD.trans0 hW)
     have KMD:=fun W (hW:Fr No wD W)=>KMr W (hfD.trans0 hW)
     have K0D:=fun W (hW:Fr No wD W)=>K0r W (hfD.trans0 hW)
     have K0Dl:=fun W (hW:Fr No wD W)=>K0l W (hfD.trans0 hW)
     replace hwD:=Lib.hid hwD
     clear HHj KTj KMr K0r K0l KVj v0 v1 vf vl
     (refine zgc (X:=No) (by kernel_rfl) (by kernel_rfl) ?_)
     (repeat((first|go_big_quiet_skip|(go_big_quiet_want;(apply Exists.intro;refine⟨fun W hW=>?_,?_⟩);(focus (first|exact fqc|(go_simp;first|(go_at_call 104;exact(HHD W hW).mono (fun _ _ h=>⟨h.1,hW.trans0 h.2⟩)))));go_big_quiet_on));(try simp only[Act.put,lz0,lz1,lz2])));refine wpQuiet_nil ?_
     intro wE hfE
     clear HHD KTD KMD K0D K0Dl KX
     go_wp2_with fail
     exact⟨⟨j+1,by omega,by simp,Lib.hid (hfr.trans0 (hfD.trans0 hfE))⟩,by simp[intOf];omega⟩
   ·obtain rfl:j=ys.length:=by omega
    have hR:=hRES
    clear hRES
    obtain⟨N,hN⟩:∃N:Nat,M.locals=(N:Int):=⟨M.locals.toNat,by omega⟩
    have hNl:M.locals.toNat=N:=by omega
    have hN1:1≤N∧N≤6∧ys.length≤N:=by omega
    obtain⟨MC,hMC⟩:∃MC,MC=madeCells (Value.agg #[.int .i64 0,.int .i64 0]).cells (N * 2):=⟨_,rfl⟩
    have hMCs:MC.size=N * 2:=by rw[hMC,size_madeCells]
    have hMCl:MC.toList=(List.replicate N zwj).flatMap zv7:=by rw[hMC];exact zxq hN1.1 hN1.2.1
    have hmk:∀W,(Instr.makeSlice 132 (.int .i64 M.locals) (.int .i64 M.locals)).run Tryz.prog W=.ok (.slice (some ⟨W.heap.size,0,none⟩) N N) (W.alloc (.cells MC tVal)):=fun W=>by
     rw[hMC,hN];exact zgo (P:=Tryz.prog) 132 tVal _ 2 16 Tryz.underlying132 zwd N (by omega) (by omega) W
    have BMr:=BM4.out.keep hfr
    obtain⟨y0,y1,y2,y3,y4,y5,y6,y7⟩:=Bx.c8 BMr
    have yl:=BMr.lt
    have hfF:Fr No wr (wr.alloc (.cells MC tVal)):=(Fr.refl No wr).alloc _
    have BF:Bx (wr.alloc (.cells MC tVal)) wr.heap.size tVal MC:=Bx.new_ rfl
    have hvF:Sl No (wr.alloc (.cells MC tVal)) 2 ValC (.slice (some ⟨gv,0,none⟩) ys.length cv) ys:=(zv8.sl (X:=No) (hv4.out.keep0 (hfr.trans0 hfF)) (fun _ _ h=>h))
    have hsrcV:=Lib.hid (hvF.newsW (C:=zv7) (by decide) zv9 (fun _ _ h=>h))
    have hlenV:=zqA zv9 ys
    have hNM:=Lib.hid (And.intro hN hNl)
    have hMC3:=Lib.hid (And.intro hMC hMCl)
    have hcvB:=hcv.out
    unfold maxLen at hcvB
    replace hMth:=hMth
    clear hN hNl hMC hMCl hj KV KT HH
    replace BMr:=Lib.hid BMr
    go_wp2_with ((refine zvW rfl (.tmp 74) (.tmp 75) 132 132 rfl tVal 2 Tryz.underlying132 (by kernel_rfl) wr.heap.size N N ⟨gv,0,none⟩ ys.length cv rfl rfl hN1.2.2 MC tVal BF (ys.flatMap zv7) hlenV hsrcV.out (by omega) (by intro u hu;obtain⟨t,_,ht⟩:=List.mem_flatMap.1 hu;simp only[zv7,List.mem_cons,List.not_mem_nil,or_false] at ht;rcases ht with rfl|rfl<;>rfl) ?_);(intro wG hBG hfG))
    clear y0 y1 y2 y3 y4 y5 y6 y7 yl hmk
    have hvG:zv8 wG (.slice (some ⟨wr.heap.size,0,none⟩) N N) (ys ++ List.replicate (N-ys.length) zwj):=by
     have e1:(ys ++ List.replicate (N-ys.length) zwj).length=N:=by simp;omega
     have e2:List.replicate N zwj=List.replicate ys.length zwj ++ List.replicate (N-ys.length) zwj:=by rw[List.replicate_append_replicate];congr 1;omega
     have e3:MC.toList.drop (ys.flatMap zv7).length=(List.replicate (N-ys.length) zwj).flatMap zv7:=by
      have hz:=zqA zv9 (List.replicate ys.length zwj)
      rw[List.length_replicate] at hz
      rw[hMC3.out.2,e2,List.flatMap_append,hlenV,<-hz,List.drop_left]
     refine .inl ⟨by rw[zqA zv9],.inr ⟨wr.heap.size,N,_,by rw[e1],Nat.zero_le _,hBG,by rw[e1];exact Nat.le_refl _,by unfold maxLen;omega,?_,?_⟩⟩
     ·simp only[List.size_toArray,List.length_append,List.length_drop,Array.length_toList,hMCs]
      omega
     ·rw[e3,e1,<-List.flatMap_append]
      have:=zqA zv9 (ys ++ List.replicate (N-ys.length) zwj)
      rw[e1] at this
      rw[<-this]
      show List.take _ (List.flatMap zv7 (ys ++ List.replicate (N-ys.length) zwj))=_
      exact List.take_length
    have hgr:zcP (.slice (some ⟨wr.heap.size,0,none⟩) N N)=some wr.heap.size:=zqC (by omega)
    have hwr4:=hfr.size
    have hlw4:w.heap.size<w4.heap.size:=B04.out.lt
    have hfwG:Fr (fun b=>b=K.bl∨w.heap.size≤b) w wG:=((hfw4.trans0 hfr).trans0 hfF).trans hfG (fun b _ e=>.inr (by omega))
    have hMG:McS K (n+34) s m wG:=(hM4.out.keep E (hfr.trans0 hfF)).far E hfG (fun b hb=>⟨by omega,fun hx=>by have:=hMlt.out b hx;omega⟩)
    have KMG:=hMG.cells
    rw[hvc.out] at KMG
    have B0G:=((B04.out.keep (hfr.trans0 hfF)).keepX hfG (by omega))
    have BMG:=((BMr.out.keep hfF).keepX hfG (by have:=BMr.out.lt;omega))
    have K0G:=fun W (hW:Fr No wG W)=>(B0G.keep hW).c3
    have K0Gl:=fun W (hW:Fr No wG W)=>(B0G.keep hW).lt
    have KBG:=fun W (hW:Fr No wG W)=>Bx.c8 (BMG.keep hW)
    have KBGl:=fun W (hW:Fr No wG W)=>(BMG.keep hW).lt
    replace hBG:=Lib.hid hBG
    replace hvG:=Lib.hid hvG
    replace hMG:=Lib.hid hMG
    replace B0G:=Lib.hid B0G
    replace BMG:=Lib.hid BMG
    replace hvF:=Lib.hid hvF
    replace hlenV:=Lib.hid hlenV
    obtain⟨j0,hj0,hk0,hk1,hk2⟩:=info_parts zxj
    replace hj0:=Lib.hid hj0
    replace hk0:=Lib.hid hk0
    replace hk1:=Lib.hid hk1
    replace hk2:=Lib.hid hk2
    try simp only[Act.put,lz0,lz1,lz2]
    try go_wp2_with fail
    refine zn0 14 91 [mE (mV (.pointer (some ⟨K.mb,0,none⟩))),mV (.pointer (some ⟨K.mb,0,none⟩)),mV (.pointer (some ⟨K.mb,0,none⟩)),mV (.pointer (some ⟨K.mb,3,none⟩)),mV (.slice Ac s.frames.length cc),mV (.agg #[.int .i64 (kk:Int),.string nm,.int .i64 (a:Int)]),mV (.agg #[.string M.name,.slice Aa M.args.length ca,.int .i64 M.ret.kind,.string M.ret.name,.int .i64 M.locals,.int .i64 M.stack,.slice Ad M.code.length cd,.slice Ap M.maps.length cp]),mV (.slice (some ⟨wr.heap.size,0,none⟩) N N),mV (.pointer (some ⟨b6,5,none⟩)),mV (.int .i64 M.stack),mV (.agg #[.slice none 0 0,.int .i64 M.stack]),mV (.agg #[.int .i64 (kk:Int),.string nm,.int .i64 (a:Int),.string M.name,.slice Aa M.args.length ca,.int .i64 M.ret.kind,.string M.ret.name,.int .i64 M.locals,.int .i64 M.stack,.slice Ad M.code.length cd,.slice Ap M.maps.length cp,.int .i64 0,.slice (some ⟨wr.heap.size,0,none⟩) N N,.slice none 0 0,.int .i64 M.stack]),mB 207 (#[.int .i64 (kk:Int),.string nm,.int .i64 (a:Int),.string M.name,.slice Aa M.args.length ca,.int .i64 M.ret.kind,.string M.ret.name,.int .i64 M.locals,.int .i64 M.stack,.slice Ad M.code.length cd,.slice Ap M.maps.length cp,.int .i64 0,.slice (some ⟨wr.heap.size,0,none⟩) N N,.slice none 0 0,.int .i64 M.stack]) wG.heap.size,mC (ptrP wG.heap.size #[.int .i64 (kk:Int),.string nm,.int .i64 (a:Int),.string M.name,.slice Aa M.args.length ca,.int .i64 M.ret.kind,.string M.ret.name,.int .i64 M.locals,.int .i64 M.stack,.slice Ad M.code.length cd,.slice Ap M.maps.length cp,.int .i64 0,.slice (some ⟨wr.heap.size,0,none⟩) N N,.slice none 0 0,.int .i64 M.stack]) (ptrP.mono)] (by kernel_rfl) (by kernel_rfl) (by simp) ?_ ?_
    ·refine hc4 ?_ ?_ ?_ ?_ <| hc4 ?_ ?_ ?_ ?_ <| hc4 ?_ ?_ ?_ ?_ <| hopC ?_ <| hopC ?_ <| hopZ
     all_goals (intro a' W hW hoff hdep;have hbs:=hW.size;have H0:=hoff 0 rfl;have H4:=hoff 4 rfl;have H7:=hoff 7 rfl;have H11:=hoff 11 rfl)
     ·exact yE rfl ⟨.pointer (some ⟨K.mb,0,none⟩),fun W=>by simp[execOp,Act.eval,H0,go_sem],rfl,rfl⟩
     ·refine nE rfl ?_;simp[execOp,Act.eval,H0,go_sem,zaa];exact fr1 rfl
     ·have D78:_=_:=hdep 1 78 rfl;refine nE rfl ?_;simp[execOp,Act.eval,D78,go_sem,zaa];exact fr1 rfl
     ·have D79:_=_:=hdep 2 79 rfl;refine nE rfl ?_;simp[execOp,Act.eval,D79,go_sem,zaa];exact fr1 rfl
     ·have D80:_=_:=hdep 3 80 rfl;refine nE rfl ?_;clear hoff hdep;simp[execOp,Act.eval,go_sem,zaa, *];exact fr1 rfl
     ·exact nE rfl gx0
     ·exact nE rfl gx0
     ·refine nE rfl ?_;simp[execOp,Act.eval,H11,go_sem,zaa];exact fr1 rfl
     ·refine nE rfl ?_;simp[execOp,Act.eval,H7,go_sem,zaa];exact fr1 rfl
     ·have D85:_=_:=hdep 8 85 rfl;refine nE rfl ?_;clear hoff hdep;simp[execOp,Act.eval,go_sem,zaa, *];exact fr1 rfl
     ·have D86:_=_:=hdep 9 86 rfl;simp at D86;refine nE rfl ?_;simp[execOp,Act.eval,D86,go_sem,zaa];exact fr1 rfl
     ·have D82:_=_:=hdep 5 82 rfl;have D83:_=_:=hdep 6 83 rfl;have D84:_=_:=hdep 7 84 rfl;have D87:_=_:=hdep 10 87 rfl;simp at D82 D83 D84 D87;refine nE rfl ?_;simp[execOp,Act.eval,D82,D83,D84,D87,go_sem,zaa];exact fr1 rfl
     ·have D88:_=_:=hdep 11 88 rfl;refine nE rfl ?_;simp[execOp,D88,go_sem,zaa];exact⟨(Fr.refl _ _).alloc _,⟨_,rfl,Bx.new_ rfl,hbs⟩,Nat.le_refl _⟩
     ·obtain⟨b,D89,hb,hl⟩:(atB 207 #[.int .i64 (kk:Int),.string nm,.int .i64 (a:Int),.string M.name,.slice Aa M.args.length ca,.int .i64 M.ret.kind,.string M.ret.name,.int .i64 M.locals,.int .i64 M.stack,.slice Ad M.code.length cd,.slice Ap M.maps.length cp,.int .i64 0,.slice (some ⟨wr.heap.size,0,none⟩) N N,.slice none 0 0,.int .i64 M.stack] wG.heap.size) _ W:=hdep 12 89 rfl;simp at D89;refine nE rfl ?_;simp[execOp,Act.eval,D89,go_sem,zaa];exact⟨(Fr.refl _ _).alloc _,_,b,rfl,Bx.new_ rfl,hbs,hb.alloc _,hl,by have:=hb.lt;omega⟩
    intro vs WR hWR hv hne
    obtain⟨b12,e12,hb12,hl12⟩:=hv 12 (by omega)
    obtain⟨gpR13,bpR13,e13,hgpR13,hglR13,hbpR13,hbl9R13,hgbR13⟩:=hv 13 (by omega)
    simp only[lz6,List.drop_zero,znP,znM,znL,znK,znR,Nat.zero_add,Nat.reduceAdd,e12,e13]
    simp only[Act.put,lz0,lz1,lz2]
    clear e12 e13 hv
    have hR0:=hMG.out.keep E hWR
    have hwGs:wr.heap.size<wG.heap.size:=hBG.out.lt
    have hk0m:∀q,zcP (.slice (some ⟨wr.heap.size,0,none⟩) N N)=some q->q=wr.heap.size:=fun q hq=>by rw[hgr] at hq;exact(Option.some.inj hq).symm
    have hCR:CalR K WR ⟨bpR13,.slice Aa M.args.length ca,.slice Ad M.code.length cd,.slice Ap M.maps.length cp,.slice (some ⟨wr.heap.size,0,none⟩) N N,.slice none 0 0⟩ ⟨⟨⟨kk,nm⟩,a⟩,0,ys ++ List.replicate (N-ys.length) zwj,[]⟩:=by
     refine⟨?_,hvG.out.keep0 hWR,RowV.nil _ _ _,?_,hs,?_⟩
     ·rw[hMth.out];exact hbpR13
     ·rw[hMth.out];exact hcode.out
     ·rw[hMth.out];exact hretn.out
    have hkB:∀b∈(⟨bpR13,.slice Aa M.args.length ca,.slice Ad M.code.length cd,.slice Ap M.maps.length cp,.slice (some ⟨wr.heap.size,0,none⟩) N N,.slice none 0 0⟩:KC).B,w.heap.size≤b:=fun b hb=>by
     rcases KC.mem_B.1 hb with h9|h9|h9
     ·dsimp only at h9;omega
     ·have:=hk0m _ (zvT.1 h9);omega
     ·cases h9
    have hkn:∀b∈(⟨bpR13,.slice Aa M.args.length ca,.slice Ad M.code.length cd,.slice Ap M.maps.length cp,.slice (some ⟨wr.heap.size,0,none⟩) N N,.slice none 0 0⟩:KC).B,b∉mcB K m∧K.w0.heap.size≤b:=fun b hb=>⟨fun hx=>by have:=hMlt.out b hx;have:=hkB b hb;omega,by have:=hkB b hb;omega⟩
    have hnd:(⟨bpR13,.slice Aa M.args.length ca,.slice Ad M.code.length cd,.slice Ap M.maps.length cp,.slice (some ⟨wr.heap.size,0,none⟩) N N,.slice none 0 0⟩:KC).B.Nodup:=KC.nodup_iff.2 ⟨fun q hq=>by have:=hk0m _ hq;dsimp only;omega,(fun q hq=>by cases hq),(fun q _ hq=>by cases hq)⟩
    have hrowR:RowV WR tPtr 1 (.slice Ac s.frames.length cc) s.frames.length (m.kc.flatMap (calL K).C):=by
     have:=hR0.crow
     rw[hvc.out] at this
     exact this
    have hsrcP:=Lib.hid (Bx.news (cs:=[Value.pointer (some ⟨bpR13,0,none⟩)]) hgpR13)
    have hboxR:=hR0.box
    have hneR:∀q,zcP (.slice Ac s.frames.length cc)=some q->q≠K.mb:=fun q hq=>hR0.out3.1 q (by rw[hvc.out];exact zwv hq)
    have hfin:=fun {g' cap':Nat} {w3:World} (hrow:RowV w3 tPtr 1 (.slice (some ⟨g',0,none⟩) (s.frames.length+1) cap') (s.frames.length+1) (m.kc.flatMap (calL K).C ++ [.pointer (some ⟨bpR13,0,none⟩)])) (hgf:Fr (fun b=>zcP (.slice Ac s.frames.length cc)=some b) WR w3) (hor:zcP (.slice Ac s.frames.length cc)=some g'∨g'=WR.heap.size) (hcap:s.frames.length+1≤cap')=>
     hR0.newCall E hCR hkn hnd hrow (by rw[hvc.out];exact hgf) (by rw[hvc.out];exact hor) hcap
    have hfwR:=Lib.hid (hfwG.trans0 hWR)
    have hkB2:=Lib.hid hkB
    have hWRs:Hid (w.heap.size≤WR.heap.size):=Lib.hid (by have:=hWR.size;omega)
    clear KMG K0G K0Gl KBG KBGl hkB hkn hnd hCR hne hb12 hbpR13 hgpR13
    replace hR0:=Lib.hid hR0
    go_wp2_with (at_builtin;(refine zcS _ rfl _ _ 128 rfl tPtr j0 (.pointer none) 1 8 Tryz.underlying128 hj0.out hk0.out hk1.out hk2.out rfl (by decide) (.slice Ac s.frames.length cc) s.frames.length (m.kc.flatMap (calL K).C) rfl hrowR ⟨gpR13,0,none⟩ 1 1 [Value.pointer (some ⟨bpR13,0,none⟩)] rfl rfl hsrcP.out (by simp[Value.oneCell']) (by decide) (by unfold maxLen;omega) (by omega) ?_);(intro g2 cap2 w6 hrow6 hcap6 hgf6 hor6);have hbx:=hboxR.keepX hgf6 (fun e=>hneR _ e rfl);(obtain⟨m3,hS3,hB3,hf3⟩:=hfin hrow6 hgf6 hor6 hcap6);have z3:w6.cell? ⟨K.mb,3,none⟩=some m.vc:=hbx.cell 3;have zf:=(fun i=>hbx.frozen i);have zl:=hbx.lt;replace hf3:=Lib.hid hf3;replace hB3:=Lib.hid hB3;replace hS3:=Lib.hid hS3)
    go_ret
    have hS3:=hS3.out
    rw[hgo] at hS3
    rw[hR.out,hNM.out.2]
    refine⟨rfl,_,m3,hS3,fun _=>rfl,fun b hb=>?_,?_⟩
    ·rcases hB3.out b hb with h9|h9|h9
     ·exact .inl h9
     ·exact .inr (hkB2.out b h9)
     ·exact .inr (Nat.le_trans hWRs.out h9)
    ·exact(hfwR.out.mono (fun b hb hx=>hx.imp id (fun h=>absurd h (by omega)))).trans hf3.out (fun b _ hx=>.inr hx)
end Go.Proofs.YtmeaibjmnjcdfaaGreat
