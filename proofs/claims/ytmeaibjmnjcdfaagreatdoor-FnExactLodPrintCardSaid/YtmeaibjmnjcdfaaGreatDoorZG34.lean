/- What is new is not frozen: it may be written. -/
import Derived.Test.YtmeaibjmnjcdfaaGreatDoorZG1
namespace Go.Proofs.YtmeaibjmnjcdfaaGreatDoor
open Go.RowKit
structure NF (w w':World):Prop where
 size:w.heap.size≤w'.heap.size
 free:∀b o,w.heap.size≤b->w'.frozen? ⟨b,o,none⟩=false
section
variable {a w w':World}
theorem zcg {w:World} {b o:Nat} (h:w.heap.size≤b):w.frozen? ⟨b,o,none⟩=false:=by
 simp[World.frozen?,Array.getElem?_eq_none h]
theorem NF.refl (w:World):NF w w:=⟨Nat.le_refl _,fun _ _ h=>zcg h⟩
theorem NF.alloc (h:NF a w) (cs:Array Value) (t:TypeId):NF a (w.alloc (.cells cs t)):=by
 refine⟨Nat.le_trans h.size (by simp),fun b o hb=>?_⟩
 by_cases hn:b=w.heap.size
 ·subst hn
  exact(Bx.new w t cs).frozen o
 ·have e:(w.alloc (.cells cs t)).frozen? ⟨b,o,none⟩=w.frozen? ⟨b,o,none⟩:=by
   simp only[World.alloc,World.frozen?,Array.getElem?_push]
   simp[hn]
  rw[e]
  exact h.free b o hb
theorem NF.setCell (h:NF a w) (p:Addr) (u:Value):NF a (w.setCell p u):=
 ⟨by simpa[World.setCell] using h.size,fun b o hb=>by rw[World.frozen?_setCell];exact h.free b o hb⟩
theorem NF.drew (h:NF a w):NF a w.drew:=⟨h.size,h.free⟩
theorem NF.transO (h2:NF w w') (hf:Fr No w w') (h:NF a w):NF a w':=by
 refine⟨Nat.le_trans h.size h2.size,fun b o hb=>?_⟩
 by_cases hn:b<w.heap.size
 ·rw[hf.frozen o hn];exact h.free b o hb
 ·exact h2.free b o (by omega)
end
def zch (v:Value) (w:World) (e:Ending) (w':World):Prop:=e=.returned v∧Fr No w w'∧NF w w'
theorem zch.mk {v u:Value} {w w':World} (h:v=u) (hf:Fr No w w') (hn:NF w w'):zch u w (.returned v) w':=⟨by rw[h],hf,hn⟩
def zci {α:Type} (R:(Nat->Prop)->World->List Value->α->Prop) (x:α) (w:World) (e:Ending) (w':World):Prop:=
 ∃cs,e=.returned (.agg cs.toArray)∧R (fun b=>b<w.heap.size) w' cs x∧Fr No w w'∧NF w w'
def zcj {α:Type} (sz:Nat) (R:(Nat->Prop)->World->List Value->α->Prop) (xs:List α) (w:World) (e:Ending) (w':World):Prop:=
 ∃v,e=.returned v∧Sl (fun b=>b<w.heap.size) w' sz (R (fun b=>b<w.heap.size) w') v xs∧Fr No w w'∧NF w w'
theorem nfc {a w:World} (h:NF a w:=by(repeat(first|(with_reducible assumption)|(with_reducible exact NF.refl _)|(with_reducible refine NF.alloc ?_ _ _)|(with_reducible refine NF.drew ?_)|(with_reducible refine NF.setCell ?_ _ _)|(with_reducible refine NF.transO (by assumption) (by assumption) ?_)))):NF a w:=h
def LkV (v v':Value):Prop:=v'=v∨(∃k k',v=.int .i64 k∧v'=.int .i64 k')∨(∃s s',v=.string s∧v'=.string s')
theorem LkV.refl (v:Value):LkV v v:=.inl rfl
theorem LkV.trans {a b c:Value} (h:LkV a b) (k:LkV b c):LkV a c:=by
 rcases h with rfl | ⟨x,y,rfl,rfl⟩ | ⟨x,y,rfl,rfl⟩
 ·exact k
 ·rcases k with rfl | ⟨x',y',h1,rfl⟩ | ⟨x',y',h1,rfl⟩
  ·exact .inr (.inl ⟨_,_,rfl,rfl⟩)
  ·exact .inr (.inl ⟨_,_,rfl,rfl⟩)
  ·cases h1
 ·rcases k with rfl | ⟨x',y',h1,rfl⟩ | ⟨x',y',h1,rfl⟩
  ·exact .inr (.inr ⟨_,_,rfl,rfl⟩)
  ·cases h1
  ·exact .inr (.inr ⟨_,_,rfl,rfl⟩)
theorem LkV.int {k:Int} {v:Value} (h:LkV (.int .i64 k) v):∃k',v=.int .i64 k':=by
 rcases h with rfl | ⟨x,y,_,rfl⟩ | ⟨x,y,h1,_⟩
 ·exact⟨_,rfl⟩
 ·exact⟨_,rfl⟩
 ·cases h1
theorem LkV.str {s:Str} {v:Value} (h:LkV (.string s) v):∃s',v=.string s':=by
 rcases h with rfl | ⟨x,y,h1,_⟩ | ⟨x,y,_,rfl⟩
 ·exact⟨_,rfl⟩
 ·cases h1
 ·exact⟨_,rfl⟩
theorem LkV.sl {A:Option Addr} {n c:Nat} {v:Value} (h:LkV (.slice A n c) v):v=.slice A n c:=by
 rcases h with rfl | ⟨x,y,h1,_⟩ | ⟨x,y,h1,_⟩
 ·rfl
 ·cases h1
 ·cases h1
structure Tw (X:Nat->Prop) (w w':World):Prop where
 fr:Fr X w w'
 like:∀b o v,w.cell? ⟨b,o,none⟩=some v->∃v',w'.cell? ⟨b,o,none⟩=some v'∧LkV v v'
 froz:∀b o,b<w.heap.size->w'.frozen? ⟨b,o,none⟩=w.frozen? ⟨b,o,none⟩
section
variable {X:Nat->Prop} {a w w':World}
theorem Tw.refl (X:Nat->Prop) (w:World):Tw X w w:=⟨Fr.refl X w,fun _ _ v h=>⟨v,h,.refl v⟩,fun _ _ _=>rfl⟩
theorem Tw.of0 (h:Fr No w w'):Tw X w w':=⟨h.of0,fun _ _ v hc=>⟨v,h.keep0 hc,.refl v⟩,fun _ o hb=>h.frozen o hb⟩
theorem Tw.trans (h:Tw X a w) (k:Tw X w w'):Tw X a w':=by
 refine⟨h.fr.same k.fr,fun b o v hc=>?_,fun b o hb=>?_⟩
 ·obtain⟨v1,h1,h2⟩:=h.like b o v hc
  obtain⟨v2,h3,h4⟩:=k.like b o v1 h1
  exact⟨v2,h3,h2.trans h4⟩
 ·rw[k.froz b o (Nat.lt_of_lt_of_le hb h.fr.size),h.froz b o hb]
theorem Tw.set {b o:Nat} {v u:Value} (hc:w.cell? ⟨b,o,none⟩=some v) (hl:LkV v u) (hX:X b):Tw X w (w.setCell ⟨b,o,none⟩ u):=by
 refine⟨Fr.setCellX (p:=⟨b,o,none⟩) (Fr.refl X w) hX u,fun b' o' v' hc'=>?_,fun b' o' _=>by rw[World.frozen?_setCell]⟩
 by_cases h:b'=b∧o'=o
 ·obtain⟨rfl,rfl⟩:=h
  rw[hc] at hc'
  cases hc'
  exact⟨u,World.cell?_setCell_same _ _ _ hc,hl⟩
 ·exact⟨v',by
   have e:=World.cell?_setCell_other w ⟨b,o,none⟩ ⟨b',o',none⟩ u (by intro e;cases e;exact h ⟨rfl,rfl⟩)
   rw[e];exact hc',.refl v'⟩
theorem Tw.int {b o:Nat} {k k':Int} (h:Tw X a w) (hc:w.cell? ⟨b,o,none⟩=some (.int .i64 k)) (hX:X b):Tw X a (w.setCell ⟨b,o,none⟩ (.int .i64 k')):=h.trans (.set hc (.inr (.inl ⟨_,_,rfl,rfl⟩)) hX)
theorem Tw.str {b o:Nat} {s s':Str} (h:Tw X a w) (hc:w.cell? ⟨b,o,none⟩=some (.string s)) (hX:X b):Tw X a (w.setCell ⟨b,o,none⟩ (.string s')):=h.trans (.set hc (.inr (.inr ⟨_,_,rfl,rfl⟩)) hX)
end
theorem Tw.stepI {X:Nat->Prop} {a w:World} {b o:Nat} {k':Int} (h:Tw X a w) (hc:∀W,Tw X a W->∃x,W.cell? ⟨b,o,none⟩=some (.int .i64 x)) (hX:X b):Tw X a (w.setCell ⟨b,o,none⟩ (.int .i64 k')):=
 let ⟨_,hx⟩:=hc w h;h.int hx hX
theorem Tw.stepS {X:Nat->Prop} {a w:World} {b o:Nat} {s':Str} (h:Tw X a w) (hc:∀W,Tw X a W->∃x,W.cell? ⟨b,o,none⟩=some (.string x)) (hX:X b):Tw X a (w.setCell ⟨b,o,none⟩ (.string s')):=
 let ⟨_,hx⟩:=hc w h;h.str hx hX
structure Unf (lo hi:Nat) (w:World):Prop where
 le:hi≤w.heap.size
 free:∀b o,lo≤b->b<hi->w.frozen? ⟨b,o,none⟩=false
theorem Unf.tw {lo hi:Nat} {X:Nat->Prop} {w w':World} (h:Unf lo hi w) (ht:Tw X w w'):Unf lo hi w':=
 ⟨Nat.le_trans h.le ht.fr.size,fun b o h1 h2=>by rw[ht.froz b o (Nat.lt_of_lt_of_le h2 h.le)];exact h.free b o h1 h2⟩
theorem Unf.at_ {lo hi b:Nat} {X:Nat->Prop} {w w':World} (h:Unf lo hi w) (ht:Tw X w w') (hb:lo≤b∧b<hi):(∀o,w'.frozen? ⟨b,o,none⟩=false)∧b<w'.heap.size:=
 ⟨fun o=>(h.tw ht).free b o hb.1 hb.2,Nat.lt_of_lt_of_le hb.2 (h.tw ht).le⟩
def zot (lo hi:Nat) (n:Int) (w:World) (e:Ending) (w':World):Prop:=e=.returned (.int .i64 n)∧Tw (fun b=>lo≤b∧b<hi) w w'
theorem Sl.tw {α:Type} {X Z:Nat->Prop} {w w':World} {sz:Nat} {R R':List Value->α->Prop} {v:Value} {xs:List α} (h:Sl X w sz R v xs) (ht:Tw Z w w')
  (hR:∀(cs cs':List Value) x,x∈xs->R cs x->cs'.length=cs.length->(∀(j:Nat) (u:Value),cs[j]? =some u->∃u',cs'[j]? =some u'∧LkV u u')->R' cs' x):Sl X w' sz R' v xs:=by
 obtain⟨A,cap,rfl,h1,h2,h3⟩:=h
 refine⟨A,cap,rfl,h1,h2,fun h0=>?_⟩
 obtain⟨b,off,rfl,hX,hc⟩:=h3 h0
 refine⟨b,off,rfl,hX,fun k hk=>?_⟩
 obtain⟨cs,hRc,hl,hcs⟩:=hc k hk
 have hex:∀j,j<sz->∃u u',cs[j]? =some u∧w'.cell? ⟨b,off+k * sz+j,none⟩=some u'∧LkV u u':=fun j hj=>by
  have hv:cs[j]? =some (cs[j]'(by omega)):=lz8 (by omega)
  obtain⟨u',h4,h5⟩:=ht.like _ _ _ ((hcs j hj).trans hv)
  exact⟨_,u',hv,h4,h5⟩
 have hw:∀j,j<sz->w'.cell? ⟨b,off+k * sz+j,none⟩=((List.range sz).map fun j=>(w'.cell? ⟨b,off+k * sz+j,none⟩).getD undef)[j]?:=fun j hj=>by
  obtain⟨u,u',_,h4,_⟩:=hex j hj
  rw[List.getElem?_map,List.getElem?_range hj]
  simp[h4]
 refine⟨(List.range sz).map fun j=>(w'.cell? ⟨b,off+k * sz+j,none⟩).getD undef,hR cs _ _ (List.getElem_mem hk) hRc (by simp[hl]) (fun j u hu=>?_),by simp,hw⟩
 have hj:j<sz:=by
  have:=(List.getElem?_eq_some_iff.1 hu).1
  omega
 obtain⟨u1,u',h6,h4,h5⟩:=hex j hj
 rw[hu] at h6
 cases h6
 exact⟨u',by rw[<-hw j hj];exact h4,h5⟩
theorem Sl.map_ {α β:Type} {X:Nat->Prop} {w:World} {sz:Nat} {R:List Value->α->Prop} {R':List Value->β->Prop} {v:Value} {xs:List α} (f:α->β) (h:Sl X w sz R v xs) (hR:∀cs x,x∈xs->R cs x->R' cs (f x)):Sl X w sz R' v (xs.map f):=by
 obtain⟨A,cap,rfl,h1,h2,h3⟩:=h
 refine⟨A,cap,by simp,by simpa using h1,by simpa using h2,fun h0=>?_⟩
 obtain⟨b,off,rfl,hX,hc⟩:=h3 (by simpa using h0)
 refine⟨b,off,rfl,hX,fun k hk=>?_⟩
 have hk':k<xs.length:=by simpa using hk
 obtain⟨cs,hRc,hl,hcs⟩:=hc k hk'
 exact⟨cs,by rw[List.getElem_map];exact hR cs _ (List.getElem_mem hk') hRc,hl,hcs⟩
end Go.Proofs.YtmeaibjmnjcdfaaGreatDoor
