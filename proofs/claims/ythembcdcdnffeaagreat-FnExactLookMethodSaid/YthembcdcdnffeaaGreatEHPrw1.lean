/- What is new is not frozen: it may be written. -/
import Derived.Test.YthembcdcdnffeaaGreatRows
import Derived.Test.YthembcdcdnffeaaGreatEG4
import Derived.WalkSpells
import Derived.WalkLawsBesides
import Derived.Deep.RegionWith
import Derived.Laws.IdiomStrings
set_option maxHeartbeats 4000000
set_option maxRecDepth 100000
namespace Go.Proofs.YthembcdcdnffeaaGreat
open Go.RowKit
structure NF (w w':World):Prop where
 size:w.heap.size≤w'.heap.size
 free:∀b o,w.heap.size≤b->w'.frozen? ⟨b,o,none⟩=false
section
variable {a w w':World}
theorem zcg {w:World} {b o:Nat} (h:w.heap.size≤b):w.frozen? ⟨b,o,none⟩=false:=by
 simp[World.frozen?,Array.getElem?_eq_none h]
theorem NF.refl (w:World):NF w w:=⟨Nat.le_refl _,fun _ _ h=>zcg h⟩
theorem NF.alloc (h:NF a w) (cs:Array Value) (t:TypeId):NF a (w.alloc (.cells cs t)):=by
 refine⟨Nat.le_trans h.size (by simp),fun b o hb=>?_⟩
 by_cases hn:b=w.heap.size
 ·subst hn
  exact(Bx.new w t cs).frozen o
 ·have e:(w.alloc (.cells cs t)).frozen? ⟨b,o,none⟩=w.frozen? ⟨b,o,none⟩:=by
   simp only[World.alloc,World.frozen?,Array.getElem?_push]
   simp[hn]
  rw[e]
  exact h.free b o hb
theorem NF.setCell (h:NF a w) (p:Addr) (u:Value):NF a (w.setCell p u):=
 ⟨by simpa[World.setCell] using h.size,fun b o hb=>by rw[World.frozen?_setCell];exact h.free b o hb⟩
theorem NF.drew (h:NF a w):NF a w.drew:=⟨h.size,h.free⟩
theorem NF.transO (h2:NF w w') (hf:Fr No w w') (h:NF a w):NF a w':=by
 refine⟨Nat.le_trans h.size h2.size,fun b o hb=>?_⟩
 by_cases hn:b<w.heap.size
 ·rw[hf.frozen o hn];exact h.free b o hb
 ·exact h2.free b o (by omega)
end
def zch (v:Value) (w:World) (e:Ending) (w':World):Prop:=e=.returned v∧Fr No w w'∧NF w w'
theorem zch.mk {v u:Value} {w w':World} (h:v=u) (hf:Fr No w w') (hn:NF w w'):zch u w (.returned v) w':=⟨by rw[h],hf,hn⟩
def zci {α:Type} (R:(Nat->Prop)->World->List Value->α->Prop) (x:α) (w:World) (e:Ending) (w':World):Prop:=
 ∃cs,e=.returned (.agg cs.toArray)∧R (fun b=>b<w.heap.size) w' cs x∧Fr No w w'∧NF w w'
def zcj {α:Type} (sz:Nat) (R:(Nat->Prop)->World->List Value->α->Prop) (xs:List α) (w:World) (e:Ending) (w':World):Prop:=
 ∃v,e=.returned v∧Sl (fun b=>b<w.heap.size) w' sz (R (fun b=>b<w.heap.size) w') v xs∧Fr No w w'∧NF w w'
theorem nfc {a w:World} (h:NF a w:=by(repeat(first|(with_reducible assumption)|(with_reducible exact NF.refl _)|(with_reducible refine NF.alloc ?_ _ _)|(with_reducible refine NF.drew ?_)|(with_reducible refine NF.setCell ?_ _ _)|(with_reducible refine NF.transO (by assumption) (by assumption) ?_)))):NF a w:=h
def LkV (v v':Value):Prop:=v'=v∨(∃k k',v=.int .i64 k∧v'=.int .i64 k')∨(∃s s',v=.string s∧v'=.string s')
theorem LkV.refl (v:Value):LkV v v:=.inl rfl
theorem LkV.trans {a b c:Value} (h:LkV a b) (k:LkV b c):LkV a c:=by
 rcases h with rfl | ⟨x,y,rfl,rfl⟩ | ⟨x,y,rfl,rfl⟩
 ·exact k
 ·rcases k with rfl | ⟨x',y',h1,rfl⟩ | ⟨x',y',h1,rfl⟩
  ·exact .inr (.inl ⟨_,_,rfl,rfl⟩)
  ·exact .inr (.inl ⟨_,_,rfl,rfl⟩)
  ·cases h1
 ·rcases k with rfl | ⟨x',y',h1,rfl⟩ | ⟨x',y',h1,rfl⟩
  ·exact .inr (.inr ⟨_,_,rfl,rfl⟩)
  ·cases h1
  ·exact .inr (.inr ⟨_,_,rfl,rfl⟩)
theorem LkV.int {k:Int} {v:Value} (h:LkV (.int .i64 k) v):∃k',v=.int .i64 k':=by
 rcases h with rfl | ⟨x,y,_,rfl⟩ | ⟨x,y,h1,_⟩
 ·exact⟨_,rfl⟩
 ·exact⟨_,rfl⟩
 ·cases h1
theorem LkV.str {s:Str} {v:Value} (h:LkV (.string s) v):∃s',v=.string s':=by
 rcases h with rfl | ⟨x,y,h1,_⟩ | ⟨x,y,_,rfl⟩
 ·exact⟨_,rfl⟩
 ·cases h1
 ·exact⟨_,rfl⟩
theorem LkV.sl {A:Option Addr} {n c:Nat} {v:Value} (h:LkV (.slice A n c) v):v=.slice A n c:=by
 rcases h with rfl | ⟨x,y,h1,_⟩ | ⟨x,y,h1,_⟩
 ·rfl
 ·cases h1
 ·cases h1
structure Tw (X:Nat->Prop) (w w':World):Prop where
 fr:Fr X w w'
 like:∀b o v,w.cell? ⟨b,o,none⟩=some v->∃v',w'.cell? ⟨b,o,none⟩=some v'∧LkV v v'
 froz:∀b o,b<w.heap.size->w'.frozen? ⟨b,o,none⟩=w.frozen? ⟨b,o,none⟩
section
variable {X:Nat->Prop} {a w w':World}
theorem Tw.refl (X:Nat->Prop) (w:World):Tw X w w:=⟨Fr.refl X w,fun _ _ v h=>⟨v,h,.refl v⟩,fun _ _ _=>rfl⟩
theorem Tw.of0 (h:Fr No w w'):Tw X w w':=⟨h.of0,fun _ _ v hc=>⟨v,h.keep0 hc,.refl v⟩,fun _ o hb=>h.frozen o hb⟩
theorem Tw.trans (h:Tw X a w) (k:Tw X w w'):Tw X a w':=by
 refine⟨h.fr.same k.fr,fun b o v hc=>?_,fun b o hb=>?_⟩
 ·obtain⟨v1,h1,h2⟩:=h.like b o v hc
  obtain⟨v2,h3,h4⟩:=k.like b o v1 h1
  exact⟨v2,h3,h2.trans h4⟩
 ·rw[k.froz b o (Nat.lt_of_lt_of_le hb h.fr.size),h.froz b o hb]
theorem Tw.set {b o:Nat} {v u:Value} (hc:w.cell? ⟨b,o,none⟩=some v) (hl:LkV v u) (hX:X b):Tw X w (w.setCell ⟨b,o,none⟩ u):=by
 refine⟨Fr.setCellX (p:=⟨b,o,none⟩) (Fr.refl X w) hX u,fun b' o' v' hc'=>?_,fun b' o' _=>by rw[World.frozen?_setCell]⟩
 by_cases h:b'=b∧o'=o
 ·obtain⟨rfl,rfl⟩:=h
  rw[hc] at hc'
  cases hc'
  exact⟨u,World.cell?_setCell_same _ _ _ hc,hl⟩
 ·exact⟨v',by
   have e:=World.cell?_setCell_other w ⟨b,o,none⟩ ⟨b',o',none⟩ u (by intro e;cases e;exact h ⟨rfl,rfl⟩)
   rw[e];exact hc',.refl v'⟩
theorem Tw.int {b o:Nat} {k k':Int} (h:Tw X a w) (hc:w.cell? ⟨b,o,none⟩=some (.int .i64 k)) (hX:X b):Tw X a (w.setCell ⟨b,o,none⟩ (.int .i64 k')):=h.trans (.set hc (.inr (.inl ⟨_,_,rfl,rfl⟩)) hX)
theorem Tw.str {b o:Nat} {s s':Str} (h:Tw X a w) (hc:w.cell? ⟨b,o,none⟩=some (.string s)) (hX:X b):Tw X a (w.setCell ⟨b,o,none⟩ (.string s')):=h.trans (.set hc (.inr (.inr ⟨_,_,rfl,rfl⟩)) hX)
end
theorem Tw.stepI {X:Nat->Prop} {a w:World} {b o:Nat} {k':Int} (h:Tw X a w) (hc:∀W,Tw X a W->∃x,W.cell? ⟨b,o,none⟩=some (.int .i64 x)) (hX:X b):Tw X a (w.setCell ⟨b,o,none⟩ (.int .i64 k')):=
 let ⟨_,hx⟩:=hc w h;h.int hx hX
theorem Tw.stepS {X:Nat->Prop} {a w:World} {b o:Nat} {s':Str} (h:Tw X a w) (hc:∀W,Tw X a W->∃x,W.cell? ⟨b,o,none⟩=some (.string x)) (hX:X b):Tw X a (w.setCell ⟨b,o,none⟩ (.string s')):=
 let ⟨_,hx⟩:=hc w h;h.str hx hX
structure Unf (lo hi:Nat) (w:World):Prop where
 le:hi≤w.heap.size
 free:∀b o,lo≤b->b<hi->w.frozen? ⟨b,o,none⟩=false
theorem Unf.tw {lo hi:Nat} {X:Nat->Prop} {w w':World} (h:Unf lo hi w) (ht:Tw X w w'):Unf lo hi w':=
 ⟨Nat.le_trans h.le ht.fr.size,fun b o h1 h2=>by rw[ht.froz b o (Nat.lt_of_lt_of_le h2 h.le)];exact h.free b o h1 h2⟩
theorem Unf.at_ {lo hi b:Nat} {X:Nat->Prop} {w w':World} (h:Unf lo hi w) (ht:Tw X w w') (hb:lo≤b∧b<hi):(∀o,w'.frozen? ⟨b,o,none⟩=false)∧b<w'.heap.size:=
 ⟨fun o=>(h.tw ht).free b o hb.1 hb.2,Nat.lt_of_lt_of_le hb.2 (h.tw ht).le⟩
def zot (lo hi:Nat) (n:Int) (w:World) (e:Ending) (w':World):Prop:=e=.returned (.int .i64 n)∧Tw (fun b=>lo≤b∧b<hi) w w'
theorem Sl.tw {α:Type} {X Z:Nat->Prop} {w w':World} {sz:Nat} {R R':List Value->α->Prop} {v:Value} {xs:List α} (h:Sl X w sz R v xs) (ht:Tw Z w w')
  (hR:∀(cs cs':List Value) x,x∈xs->R cs x->cs'.length=cs.length->(∀(j:Nat) (u:Value),cs[j]? =some u->∃u',cs'[j]? =some u'∧LkV u u')->R' cs' x):Sl X w' sz R' v xs:=by
 obtain⟨A,cap,rfl,h1,h2,h3⟩:=h
 refine⟨A,cap,rfl,h1,h2,fun h0=>?_⟩
 obtain⟨b,off,rfl,hX,hc⟩:=h3 h0
 refine⟨b,off,rfl,hX,fun k hk=>?_⟩
 obtain⟨cs,hRc,hl,hcs⟩:=hc k hk
 have hex:∀j,j<sz->∃u u',cs[j]? =some u∧w'.cell? ⟨b,off+k * sz+j,none⟩=some u'∧LkV u u':=fun j hj=>by
  have hv:cs[j]? =some (cs[j]'(by omega)):=lz8 (by omega)
  obtain⟨u',h4,h5⟩:=ht.like _ _ _ ((hcs j hj).trans hv)
  exact⟨_,u',hv,h4,h5⟩
 have hw:∀j,j<sz->w'.cell? ⟨b,off+k * sz+j,none⟩=((List.range sz).map fun j=>(w'.cell? ⟨b,off+k * sz+j,none⟩).getD undef)[j]?:=fun j hj=>by
  obtain⟨u,u',_,h4,_⟩:=hex j hj
  rw[List.getElem?_map,List.getElem?_range hj]
  simp[h4]
 refine⟨(List.range sz).map fun j=>(w'.cell? ⟨b,off+k * sz+j,none⟩).getD undef,hR cs _ _ (List.getElem_mem hk) hRc (by simp[hl]) (fun j u hu=>?_),by simp,hw⟩
 have hj:j<sz:=by
  have:=(List.getElem?_eq_some_iff.1 hu).1
  omega
 obtain⟨u1,u',h6,h4,h5⟩:=hex j hj
 rw[hu] at h6
 cases h6
 exact⟨u',by rw[<-hw j hj];exact h4,h5⟩
theorem Sl.map_ {α β:Type} {X:Nat->Prop} {w:World} {sz:Nat} {R:List Value->α->Prop} {R':List Value->β->Prop} {v:Value} {xs:List α} (f:α->β) (h:Sl X w sz R v xs) (hR:∀cs x,x∈xs->R cs x->R' cs (f x)):Sl X w sz R' v (xs.map f):=by
 obtain⟨A,cap,rfl,h1,h2,h3⟩:=h
 refine⟨A,cap,by simp,by simpa using h1,by simpa using h2,fun h0=>?_⟩
 obtain⟨b,off,rfl,hX,hc⟩:=h3 (by simpa using h0)
 refine⟨b,off,rfl,hX,fun k hk=>?_⟩
 have hk':k<xs.length:=by simpa using hk
 obtain⟨cs,hRc,hl,hcs⟩:=hc k hk'
 exact⟨cs,by rw[List.getElem_map];exact hR cs _ (List.getElem_mem hk') hRc,hl,hcs⟩
def zhz (b:Nat) (left:Int) (w:World) (e:Ending) (w':World):Prop:=∃n:Int,e=.returned (.int .i64 n)∧Hid ((0≤n∧n=left-b)∨(n=-1∧left<b))∧Fr No w w'
theorem zhz.mk {b:Nat} {left:Int} {w w':World} (n:Int) (h:(0≤n∧n=left-b)∨(n=-1∧left<b)) (hf:Fr No w w'):zhz b left w (.returned (.int .i64 n)) w':=⟨n,rfl,h,hf⟩
def zhA (x:Knd):Nat:=x.name.size
theorem zhB (x:Knd) (cs:List Value) (left:Int) (w:World) (h:KndC cs x) (h0:0≤left) (h1:left≤1048576):
  Calls Tryz.prog 200 #[.agg cs.toArray,.int .i64 left] w (zhz (zhA x) left w):=by
 obtain⟨rfl,hz0⟩:=h
 unfold maxLen at hz0
 go_enter Tryz.func200,Tryz.ntmps200
 go_wp2
 all_goals go_ret
 all_goals refine zhz.mk _ ?_ (by exact frc)
 all_goals ((try unfold zhA at *);(try unfold Hid at *);omega)
theorem zhC (X:Nat->Prop) (v:Value) (xs:List Knd) (left:Int) (w:World) (h:Sl X w 2 KndC v xs) (h0:0≤left) (h1:left≤1048576):
  Calls Tryz.prog 201 #[v,.int .i64 left] w (zhz (szL zhA xs) left w):=by
 obtain⟨A,cap,rfl,hcap,hlen⟩:=h.form
 unfold maxLen at hlen
 have hsl:=zgj zhA xs
 have hsum:szL zhA xs=xs.length+sumL zhA xs:=rfl
 have hsl:=Lib.hid hsl
 have hsum:=Lib.hid hsum
 go_enter Tryz.func201,Tryz.ntmps201
 by_cases hl0:(xs.length:Int)≤left
 ·go_wp2
  go_loopw [5,1,4] (fun i l r wr=>∃(k:Nat) (n:Int),k≤xs.length∧i=.int .i64 k∧l=.int .i64 n∧r=.int .i64 0∧0≤n∧n≤1048576∧Hid (n=left-xs.length-sumL zhA (xs.take k))∧Fr No w wr) (fun i _ _ _=>xs.length-(intOf i).toNat)
  case atStart=>exact⟨0,left-xs.length,Nat.zero_le _,rfl,rfl,rfl,by omega,by omega,by simp[Hid,sumL],Fr.refl _ _⟩
  case round=>
   obtain⟨k,n,hk,rfl,rfl,rfl,hn0,hn1,hn,hf⟩:=hrel
   by_cases hlt:k<xs.length
   ·obtain⟨b,off,rfl,hX,c0,c1,z0⟩:=(h.k0 hf).knd hlt
    clear h
    have H:=fun W l (h:Fr No wr W)=>zhB xs[k] _ l W ⟨rfl,z0⟩
    have hst:=Lib.hid (zgg zhA xs k hlt)
    have hle:=Lib.hid (zgh zhA xs (k+1))
    generalize xs[k]=x at *
    go_wp2_with (go_at_call 200;refine(H _ _ ?_ ?_ ?_).mono ?_;(focus (exact frc));omega;omega;rintro e w1 ⟨n1,rfl,hn1',hf1⟩)
    ·go_ret
     refine zhz.mk _ ?_ (by exact frc)
     ((try unfold Hid at *);(try unfold Hid at *);omega)
    ·go_roundw
     case rel=>exact⟨k+1,n1,by omega,by go_num,rfl,rfl,by omega,by(simp only[Hid] at *;omega),by(simp only[Hid] at *;omega),by exact frc⟩
     case measure=>simp[intOf];omega
   ·clear h
    have hst:Hid (sumL zhA (xs.take k)=sumL zhA xs):=by rw[List.take_of_length_le (by omega)];exact rfl
    go_wp2
    go_ret
    refine zhz.mk _ ?_ (by exact frc)
    ((try unfold Hid at *);(try unfold Hid at *);omega)
 ·go_wp2
  go_ret
  refine zhz.mk _ ?_ (by exact frc)
  ((try unfold Hid at *);(try unfold Hid at *);omega)
def zhD (x:Tag):Nat:=x.name.size
theorem zhE (x:Tag) (cs:List Value) (left:Int) (w:World) (h:TagC cs x) (h0:0≤left) (h1:left≤1048576):
  Calls Tryz.prog 229 #[.agg cs.toArray,.int .i64 left] w (zhz (zhD x) left w):=by
 obtain⟨rfl,hz0⟩:=h
 unfold maxLen at hz0
 go_enter Tryz.func229,Tryz.ntmps229
 go_wp2
 all_goals go_ret
 all_goals refine zhz.mk _ ?_ (by exact frc)
 all_goals ((try unfold zhD at *);(try unfold Hid at *);omega)
theorem zhF (X:Nat->Prop) (v:Value) (xs:List Tag) (left:Int) (w:World) (h:Sl X w 2 TagC v xs) (h0:0≤left) (h1:left≤1048576):
  Calls Tryz.prog 227 #[v,.int .i64 left] w (zhz (szL zhD xs) left w):=by
 obtain⟨A,cap,rfl,hcap,hlen⟩:=h.form
 unfold maxLen at hlen
 have hsl:=zgj zhD xs
 have hsum:szL zhD xs=xs.length+sumL zhD xs:=rfl
 have hsl:=Lib.hid hsl
 have hsum:=Lib.hid hsum
 go_enter Tryz.func227,Tryz.ntmps227
 by_cases hl0:(xs.length:Int)≤left
 ·go_wp2
  go_loopw [5,1,4] (fun i l r wr=>∃(k:Nat) (n:Int),k≤xs.length∧i=.int .i64 k∧l=.int .i64 n∧r=.int .i64 0∧0≤n∧n≤1048576∧Hid (n=left-xs.length-sumL zhD (xs.take k))∧Fr No w wr) (fun i _ _ _=>xs.length-(intOf i).toNat)
  case atStart=>exact⟨0,left-xs.length,Nat.zero_le _,rfl,rfl,rfl,by omega,by omega,by simp[Hid,sumL],Fr.refl _ _⟩
  case round=>
   obtain⟨k,n,hk,rfl,rfl,rfl,hn0,hn1,hn,hf⟩:=hrel
   by_cases hlt:k<xs.length
   ·obtain⟨b,off,rfl,hX,c0,c1,z0⟩:=(h.k0 hf).tag hlt
    clear h
    have H:=fun W l (h:Fr No wr W)=>zhE xs[k] _ l W ⟨rfl,z0⟩
    have hst:=Lib.hid (zgg zhD xs k hlt)
    have hle:=Lib.hid (zgh zhD xs (k+1))
    generalize xs[k]=x at *
    go_wp2_with (go_at_call 229;refine(H _ _ ?_ ?_ ?_).mono ?_;(focus (exact frc));omega;omega;rintro e w1 ⟨n1,rfl,hn1',hf1⟩)
    ·go_ret
     refine zhz.mk _ ?_ (by exact frc)
     ((try unfold Hid at *);(try unfold Hid at *);omega)
    ·go_roundw
     case rel=>exact⟨k+1,n1,by omega,by go_num,rfl,rfl,by omega,by(simp only[Hid] at *;omega),by(simp only[Hid] at *;omega),by exact frc⟩
     case measure=>simp[intOf];omega
   ·clear h
    have hst:Hid (sumL zhD (xs.take k)=sumL zhD xs):=by rw[List.take_of_length_le (by omega)];exact rfl
    go_wp2
    go_ret
    refine zhz.mk _ ?_ (by exact frc)
    ((try unfold Hid at *);(try unfold Hid at *);omega)
 ·go_wp2
  go_ret
  refine zhz.mk _ ?_ (by exact frc)
  ((try unfold Hid at *);(try unfold Hid at *);omega)
def zhG (x:Ins):Nat:=x.name.size+x.member.size
theorem zhH (x:Ins) (cs:List Value) (left:Int) (w:World) (h:InsC cs x) (h0:0≤left) (h1:left≤1048576):
  Calls Tryz.prog 219 #[.agg cs.toArray,.int .i64 left] w (zhz (zhG x) left w):=by
 obtain⟨rfl,hz0,hz1⟩:=h
 unfold maxLen at hz0
 unfold maxLen at hz1
 go_enter Tryz.func219,Tryz.ntmps219
 go_wp2
 all_goals go_ret
 all_goals refine zhz.mk _ ?_ (by exact frc)
 all_goals ((try unfold zhG at *);(try unfold Hid at *);omega)
theorem zhI (X:Nat->Prop) (v:Value) (xs:List Ins) (left:Int) (w:World) (h:Sl X w 4 InsC v xs) (h0:0≤left) (h1:left≤1048576):
  Calls Tryz.prog 202 #[v,.int .i64 left] w (zhz (szL zhG xs) left w):=by
 obtain⟨A,cap,rfl,hcap,hlen⟩:=h.form
 unfold maxLen at hlen
 have hsl:=zgj zhG xs
 have hsum:szL zhG xs=xs.length+sumL zhG xs:=rfl
 have hsl:=Lib.hid hsl
 have hsum:=Lib.hid hsum
 go_enter Tryz.func202,Tryz.ntmps202
 by_cases hl0:(xs.length:Int)≤left
 ·go_wp2
  go_loopw [5,1,4] (fun i l r wr=>∃(k:Nat) (n:Int),k≤xs.length∧i=.int .i64 k∧l=.int .i64 n∧r=.int .i64 0∧0≤n∧n≤1048576∧Hid (n=left-xs.length-sumL zhG (xs.take k))∧Fr No w wr) (fun i _ _ _=>xs.length-(intOf i).toNat)
  case atStart=>exact⟨0,left-xs.length,Nat.zero_le _,rfl,rfl,rfl,by omega,by omega,by simp[Hid,sumL],Fr.refl _ _⟩
  case round=>
   obtain⟨k,n,hk,rfl,rfl,rfl,hn0,hn1,hn,hf⟩:=hrel
   by_cases hlt:k<xs.length
   ·obtain⟨b,off,rfl,hX,c0,c1,c2,c3,z0,z1⟩:=(h.k0 hf).ins hlt
    clear h
    have H:=fun W l (h:Fr No wr W)=>zhH xs[k] _ l W ⟨rfl,z0,z1⟩
    have hst:=Lib.hid (zgg zhG xs k hlt)
    have hle:=Lib.hid (zgh zhG xs (k+1))
    generalize xs[k]=x at *
    go_wp2_with (go_at_call 219;refine(H _ _ ?_ ?_ ?_).mono ?_;(focus (exact frc));omega;omega;rintro e w1 ⟨n1,rfl,hn1',hf1⟩)
    ·go_ret
     refine zhz.mk _ ?_ (by exact frc)
     ((try unfold Hid at *);(try unfold Hid at *);omega)
    ·go_roundw
     case rel=>exact⟨k+1,n1,by omega,by go_num,rfl,rfl,by omega,by(simp only[Hid] at *;omega),by(simp only[Hid] at *;omega),by exact frc⟩
     case measure=>simp[intOf];omega
   ·clear h
    have hst:Hid (sumL zhG (xs.take k)=sumL zhG xs):=by rw[List.take_of_length_le (by omega)];exact rfl
    go_wp2
    go_ret
    refine zhz.mk _ ?_ (by exact frc)
    ((try unfold Hid at *);(try unfold Hid at *);omega)
 ·go_wp2
  go_ret
  refine zhz.mk _ ?_ (by exact frc)
  ((try unfold Hid at *);(try unfold Hid at *);omega)
def zhJ (x:Fld):Nat:=x.name.size+zhA x.kind
theorem zhK (x:Fld) (cs:List Value) (left:Int) (w:World) (h:FldC cs x) (h0:0≤left) (h1:left≤1048576):
  Calls Tryz.prog 181 #[.agg cs.toArray,.int .i64 left] w (zhz (zhJ x) left w):=by
 obtain⟨rfl,hz0,hz1⟩:=h
 unfold maxLen at hz0
 unfold maxLen at hz1
 have H_kind:=fun W l (_:Fr No w W)=>zhB x.kind _ l W ⟨rfl,(by unfold maxLen;exact hz1)⟩
 go_enter Tryz.func181,Tryz.ntmps181
 have hB:=Bx.new w 250 #[.string x.name,.int .i64 x.kind.kind,.string x.kind.name]
 go_wp2_with (first
  | (go_at_call 200;refine(H_kind _ _ ?_ ?_ ?_).mono ?_;(focus (exact frc));omega;omega;rintro e w0 ⟨n0,rfl,hn0,hf0⟩;have hnb0:n0≤1048576:=(by have:=hn0.out;omega);have hb0:=Bx.keepTo w0 hB (by exact frc);obtain⟨e0_0,e0_1,e0_2⟩:=hb0.c3;have hl0:=hb0.lt;have hw0:Fr No w w0:=(by exact frc)))
 all_goals go_ret
 all_goals refine zhz.mk _ ?_ (by exact frc)
 all_goals ((try unfold zhJ at *);(try unfold Hid at *);omega)
theorem zhL (X:Nat->Prop) (v:Value) (xs:List Fld) (left:Int) (w:World) (h:Sl X w 3 FldC v xs) (h0:0≤left) (h1:left≤1048576):
  Calls Tryz.prog 154 #[v,.int .i64 left] w (zhz (szL zhJ xs) left w):=by
 obtain⟨A,cap,rfl,hcap,hlen⟩:=h.form
 unfold maxLen at hlen
 have hsl:=zgj zhJ xs
 have hsum:szL zhJ xs=xs.length+sumL zhJ xs:=rfl
 have hsl:=Lib.hid hsl
 have hsum:=Lib.hid hsum
 go_enter Tryz.func154,Tryz.ntmps154
 by_cases hl0:(xs.length:Int)≤left
 ·go_wp2
  go_loopw [5,1,4] (fun i l r wr=>∃(k:Nat) (n:Int),k≤xs.length∧i=.int .i64 k∧l=.int .i64 n∧r=.int .i64 0∧0≤n∧n≤1048576∧Hid (n=left-xs.length-sumL zhJ (xs.take k))∧Fr No w wr) (fun i _ _ _=>xs.length-(intOf i).toNat)
  case atStart=>exact⟨0,left-xs.length,Nat.zero_le _,rfl,rfl,rfl,by omega,by omega,by simp[Hid,sumL],Fr.refl _ _⟩
  case round=>
   obtain⟨k,n,hk,rfl,rfl,rfl,hn0,hn1,hn,hf⟩:=hrel
   by_cases hlt:k<xs.length
   ·obtain⟨b,off,rfl,hX,c0,c1,c2,z0,z1⟩:=(h.k0 hf).fld hlt
    clear h
    have H:=fun W l (h:Fr No wr W)=>zhK xs[k] _ l W ⟨rfl,z0,z1⟩
    have hst:=Lib.hid (zgg zhJ xs k hlt)
    have hle:=Lib.hid (zgh zhJ xs (k+1))
    generalize xs[k]=x at *
    go_wp2_with (go_at_call 181;refine(H _ _ ?_ ?_ ?_).mono ?_;(focus (exact frc));omega;omega;rintro e w1 ⟨n1,rfl,hn1',hf1⟩)
    ·go_ret
     refine zhz.mk _ ?_ (by exact frc)
     ((try unfold Hid at *);(try unfold Hid at *);omega)
    ·go_roundw
     case rel=>exact⟨k+1,n1,by omega,by go_num,rfl,rfl,by omega,by(simp only[Hid] at *;omega),by(simp only[Hid] at *;omega),by exact frc⟩
     case measure=>simp[intOf];omega
   ·clear h
    have hst:Hid (sumL zhJ (xs.take k)=sumL zhJ xs):=by rw[List.take_of_length_le (by omega)];exact rfl
    go_wp2
    go_ret
    refine zhz.mk _ ?_ (by exact frc)
    ((try unfold Hid at *);(try unfold Hid at *);omega)
 ·go_wp2
  go_ret
  refine zhz.mk _ ?_ (by exact frc)
  ((try unfold Hid at *);(try unfold Hid at *);omega)
def szMp (x:Mp):Nat:=szL zhD x.locals+szL zhD x.stack
theorem zhM (X:Nat->Prop) (x:Mp) (cs:List Value) (left:Int) (w:World) (h:MapC X w cs x) (h0:0≤left) (h1:left≤1048576):
  Calls Tryz.prog 220 #[.agg cs.toArray,.int .i64 left] w (zhz (szMp x) left w):=by
 obtain⟨v_locals,v_stack,rfl,h_locals,h_stack⟩:=h
 have H_locals:=fun W l (h:Fr No w W)=>zhF X _ x.locals l W (h_locals.k0 h)
 have H_stack:=fun W l (h:Fr No w W)=>zhF X _ x.stack l W (h_stack.k0 h)
 obtain⟨A_locals,c_locals,rfl,p_locals,q_locals⟩:=h_locals.form
 obtain⟨A_stack,c_stack,rfl,p_stack,q_stack⟩:=h_stack.form
 clear h_locals
 clear h_stack
 go_enter Tryz.func220,Tryz.ntmps220
 have hB:=Bx.new w 295 #[.int .i64 x.at_,.slice A_locals x.locals.length c_locals,.slice A_stack x.stack.length c_stack]
 go_wp2_with (first
  | (go_at_call_of 227 (Value.slice A_locals x.locals.length c_locals);refine(H_locals _ _ ?_ ?_ ?_).mono ?_;(focus (exact frc));omega;omega;rintro e w0 ⟨n0,rfl,hn0,hf0⟩;have hnb0:n0≤1048576:=(by have:=hn0.out;omega);have hb0:=Bx.keepTo w0 hB (by exact frc);obtain⟨e0_0,e0_1,e0_2⟩:=hb0.c3;have hl0:=hb0.lt;have hw0:Fr No w w0:=(by exact frc))
  | (go_at_call_of 227 (Value.slice A_stack x.stack.length c_stack);refine(H_stack _ _ ?_ ?_ ?_).mono ?_;(focus (exact frc));omega;omega;rintro e w1 ⟨n1,rfl,hn1,hf1⟩;have hnb1:n1≤1048576:=(by have:=hn1.out;omega);have hb1:=Bx.keepTo w1 hb0 (by exact frc);obtain⟨e1_0,e1_1,e1_2⟩:=hb1.c3;have hl1:=hb1.lt;have hw1:Fr No w w1:=(by exact frc)))
 all_goals go_ret
 all_goals refine zhz.mk _ ?_ (by exact frc)
 all_goals ((try unfold szMp at *);(try unfold Hid at *);omega)
theorem zhN (X:Nat->Prop) (v:Value) (xs:List Mp) (left:Int) (w:World) (h:Sl X w 3 (MapC X w) v xs) (h0:0≤left) (h1:left≤1048576):
  Calls Tryz.prog 203 #[v,.int .i64 left] w (zhz (szL szMp xs) left w):=by
 obtain⟨A,cap,rfl,hcap,hlen⟩:=h.form
 unfold maxLen at hlen
 have hsl:=zgj szMp xs
 have hsum:szL szMp xs=xs.length+sumL szMp xs:=rfl
 have hsl:=Lib.hid hsl
 have hsum:=Lib.hid hsum
 go_enter Tryz.func203,Tryz.ntmps203
 by_cases hl0:(xs.length:Int)≤left
 ·go_wp2
  go_loopw [5,1,4] (fun i l r wr=>∃(k:Nat) (n:Int),k≤xs.length∧i=.int .i64 k∧l=.int .i64 n∧r=.int .i64 0∧0≤n∧n≤1048576∧Hid (n=left-xs.length-sumL szMp (xs.take k))∧Fr No w wr) (fun i _ _ _=>xs.length-(intOf i).toNat)
  case atStart=>exact⟨0,left-xs.length,Nat.zero_le _,rfl,rfl,rfl,by omega,by omega,by simp[Hid,sumL],Fr.refl _ _⟩
  case round=>
   obtain⟨k,n,hk,rfl,rfl,rfl,hn0,hn1,hn,hf⟩:=hrel
   by_cases hlt:k<xs.length
   ·obtain⟨b,off,A_locals,c_locals,A_stack,c_stack,rfl,hX,c0,c1,c2,h_locals,h_stack,_,_,_,_⟩:=(h.keep hf zN (fun _ _ _ h9=>h9.keep hf zN)).map hlt
    have hR:MapC X wr [.int .i64 xs[k].at_,.slice A_locals xs[k].locals.length c_locals,.slice A_stack xs[k].stack.length c_stack] xs[k]:=⟨_,_,rfl,h_locals,h_stack⟩
    clear h
    have H:=fun W l (h:Fr No wr W)=>zhM X xs[k] _ l W (hR.keep h zN)
    clear hR
    clear h_locals
    clear h_stack
    have hst:=Lib.hid (zgg szMp xs k hlt)
    have hle:=Lib.hid (zgh szMp xs (k+1))
    generalize xs[k]=x at *
    go_wp2_with (go_at_call 220;refine(H _ _ ?_ ?_ ?_).mono ?_;(focus (exact frc));omega;omega;rintro e w1 ⟨n1,rfl,hn1',hf1⟩)
    ·go_ret
     refine zhz.mk _ ?_ (by exact frc)
     ((try unfold Hid at *);(try unfold Hid at *);omega)
    ·go_roundw
     case rel=>exact⟨k+1,n1,by omega,by go_num,rfl,rfl,by omega,by(simp only[Hid] at *;omega),by(simp only[Hid] at *;omega),by exact frc⟩
     case measure=>simp[intOf];omega
   ·clear h
    have hst:Hid (sumL szMp (xs.take k)=sumL szMp xs):=by rw[List.take_of_length_le (by omega)];exact rfl
    go_wp2
    go_ret
    refine zhz.mk _ ?_ (by exact frc)
    ((try unfold Hid at *);(try unfold Hid at *);omega)
 ·go_wp2
  go_ret
  refine zhz.mk _ ?_ (by exact frc)
  ((try unfold Hid at *);(try unfold Hid at *);omega)
def zhO (x:Mth):Nat:=x.name.size+szL zhA x.args+zhA x.ret+szL zhG x.code+szL szMp x.maps
theorem zhP (X:Nat->Prop) (x:Mth) (cs:List Value) (left:Int) (w:World) (h:MthC X w cs x) (h0:0≤left) (h1:left≤1048576):
  Calls Tryz.prog 182 #[.agg cs.toArray,.int .i64 left] w (zhz (zhO x) left w):=by
 obtain⟨v_args,v_code,v_maps,rfl,hz0,hz1,h_args,h_code,h_maps⟩:=h
 unfold maxLen at hz0
 unfold maxLen at hz1
 have H_args:=fun W l (h:Fr No w W)=>zhC X _ x.args l W (h_args.k0 h)
 have H_ret:=fun W l (_:Fr No w W)=>zhB x.ret _ l W ⟨rfl,(by unfold maxLen;exact hz1)⟩
 have H_code:=fun W l (h:Fr No w W)=>zhI X _ x.code l W (h_code.k0 h)
 have H_maps:=fun W l (h:Fr No w W)=>zhN X _ x.maps l W (h_maps.keep h zN (fun _ _ _ h9=>h9.keep h zN))
 obtain⟨A_args,c_args,rfl,p_args,q_args⟩:=h_args.form
 obtain⟨A_code,c_code,rfl,p_code,q_code⟩:=h_code.form
 obtain⟨A_maps,c_maps,rfl,p_maps,q_maps⟩:=h_maps.form
 clear h_args
 clear h_code
 clear h_maps
 go_enter Tryz.func182,Tryz.ntmps182
 have hB:=Bx.new w 256 #[.string x.name,.slice A_args x.args.length c_args,.int .i64 x.ret.kind,.string x.ret.name,.int .i64 x.locals,.int .i64 x.stack,.slice A_code x.code.length c_code,.slice A_maps x.maps.length c_maps]
 go_wp2_with (first
  | (go_at_call_of 201 (Value.slice A_args x.args.length c_args);refine(H_args _ _ ?_ ?_ ?_).mono ?_;(focus (exact frc));omega;omega;rintro e w0 ⟨n0,rfl,hn0,hf0⟩;have hnb0:n0≤1048576:=(by have:=hn0.out;omega);have hb0:=Bx.keepTo w0 hB (by exact frc);obtain⟨e0_0,e0_1,e0_2,e0_3,e0_4,e0_5,e0_6,e0_7⟩:=hb0.c8;have hl0:=hb0.lt;have hw0:Fr No w w0:=(by exact frc))
  | (go_at_call 200;refine(H_ret _ _ ?_ ?_ ?_).mono ?_;(focus (exact frc));omega;omega;rintro e w1 ⟨n1,rfl,hn1,hf1⟩;have hnb1:n1≤1048576:=(by have:=hn1.out;omega);have hb1:=Bx.keepTo w1 hb0 (by exact frc);obtain⟨e1_0,e1_1,e1_2,e1_3,e1_4,e1_5,e1_6,e1_7⟩:=hb1.c8;have hl1:=hb1.lt;have hw1:Fr No w w1:=(by exact frc))
  | (go_at_call_of 202 (Value.slice A_code x.code.length c_code);refine(H_code _ _ ?_ ?_ ?_).mono ?_;(focus (exact frc));omega;omega;rintro e w2 ⟨n2,rfl,hn2,hf2⟩;have hnb2:n2≤1048576:=(by have:=hn2.out;omega);have hb2:=Bx.keepTo w2 hb1 (by exact frc);obtain⟨e2_0,e2_1,e2_2,e2_3,e2_4,e2_5,e2_6,e2_7⟩:=hb2.c8;have hl2:=hb2.lt;have hw2:Fr No w w2:=(by exact frc))
  | (go_at_call_of 203 (Value.slice A_maps x.maps.length c_maps);refine(H_maps _ _ ?_ ?_ ?_).mono ?_;(focus (exact frc));omega;omega;rintro e w3 ⟨n3,rfl,hn3,hf3⟩;have hnb3:n3≤1048576:=(by have:=hn3.out;omega);have hb3:=Bx.keepTo w3 hb2 (by exact frc);obtain⟨e3_0,e3_1,e3_2,e3_3,e3_4,e3_5,e3_6,e3_7⟩:=hb3.c8;have hl3:=hb3.lt;have hw3:Fr No w w3:=(by exact frc)))
 all_goals go_ret
 all_goals refine zhz.mk _ ?_ (by exact frc)
 all_goals ((try unfold zhO at *);(try unfold Hid at *);omega)
theorem zhQ (X:Nat->Prop) (v:Value) (xs:List Mth) (left:Int) (w:World) (h:Sl X w 8 (MthC X w) v xs) (h0:0≤left) (h1:left≤1048576):
  Calls Tryz.prog 155 #[v,.int .i64 left] w (zhz (szL zhO xs) left w):=by
 obtain⟨A,cap,rfl,hcap,hlen⟩:=h.form
 unfold maxLen at hlen
 have hsl:=zgj zhO xs
 have hsum:szL zhO xs=xs.length+sumL zhO xs:=rfl
 have hsl:=Lib.hid hsl
 have hsum:=Lib.hid hsum
 go_enter Tryz.func155,Tryz.ntmps155
 by_cases hl0:(xs.length:Int)≤left
 ·go_wp2
  go_loopw [5,1,4] (fun i l r wr=>∃(k:Nat) (n:Int),k≤xs.length∧i=.int .i64 k∧l=.int .i64 n∧r=.int .i64 0∧0≤n∧n≤1048576∧Hid (n=left-xs.length-sumL zhO (xs.take k))∧Fr No w wr) (fun i _ _ _=>xs.length-(intOf i).toNat)
  case atStart=>exact⟨0,left-xs.length,Nat.zero_le _,rfl,rfl,rfl,by omega,by omega,by simp[Hid,sumL],Fr.refl _ _⟩
  case round=>
   obtain⟨k,n,hk,rfl,rfl,rfl,hn0,hn1,hn,hf⟩:=hrel
   by_cases hlt:k<xs.length
   ·obtain⟨b,off,A_args,c_args,A_code,c_code,A_maps,c_maps,rfl,hX,c0,c1,c2,c3,c4,c5,c6,c7,z0,z1,h_args,h_code,h_maps,_,_,_,_,_,_⟩:=(h.keep hf zN (fun _ _ _ h9=>h9.keep hf zN)).mth hlt
    have hR:MthC X wr [.string xs[k].name,.slice A_args xs[k].args.length c_args,.int .i64 xs[k].ret.kind,.string xs[k].ret.name,.int .i64 xs[k].locals,.int .i64 xs[k].stack,.slice A_code xs[k].code.length c_code,.slice A_maps xs[k].maps.length c_maps] xs[k]:=⟨_,_,_,rfl,z0,z1,h_args,h_code,h_maps⟩
    clear h
    have H:=fun W l (h:Fr No wr W)=>zhP X xs[k] _ l W (hR.keep h zN)
    clear hR
    clear h_args
    clear h_code
    clear h_maps
    have hst:=Lib.hid (zgg zhO xs k hlt)
    have hle:=Lib.hid (zgh zhO xs (k+1))
    generalize xs[k]=x at *
    go_wp2_with (go_at_call 182;refine(H _ _ ?_ ?_ ?_).mono ?_;(focus (exact frc));omega;omega;rintro e w1 ⟨n1,rfl,hn1',hf1⟩)
    ·go_ret
     refine zhz.mk _ ?_ (by exact frc)
     ((try unfold Hid at *);(try unfold Hid at *);omega)
    ·go_roundw
     case rel=>exact⟨k+1,n1,by omega,by go_num,rfl,rfl,by omega,by(simp only[Hid] at *;omega),by(simp only[Hid] at *;omega),by exact frc⟩
     case measure=>simp[intOf];omega
   ·clear h
    have hst:Hid (sumL zhO (xs.take k)=sumL zhO xs):=by rw[List.take_of_length_le (by omega)];exact rfl
    go_wp2
    go_ret
    refine zhz.mk _ ?_ (by exact frc)
    ((try unfold Hid at *);(try unfold Hid at *);omega)
 ·go_wp2
  go_ret
  refine zhz.mk _ ?_ (by exact frc)
  ((try unfold Hid at *);(try unfold Hid at *);omega)
def zhR (x:Cls):Nat:=x.name.size+x.super.size+szL zhJ x.fields+szL zhO x.methods
theorem zhS (X:Nat->Prop) (x:Cls) (cs:List Value) (left:Int) (w:World) (h:ClsC X w cs x) (h0:0≤left) (h1:left≤1048576):
  Calls Tryz.prog 112 #[.agg cs.toArray,.int .i64 left] w (zhz (zhR x) left w):=by
 obtain⟨v_fields,v_methods,rfl,hz0,hz1,h_fields,h_methods⟩:=h
 unfold maxLen at hz0
 unfold maxLen at hz1
 have H_fields:=fun W l (h:Fr No w W)=>zhL X _ x.fields l W (h_fields.k0 h)
 have H_methods:=fun W l (h:Fr No w W)=>zhQ X _ x.methods l W (h_methods.keep h zN (fun _ _ _ h9=>h9.keep h zN))
 obtain⟨A_fields,c_fields,rfl,p_fields,q_fields⟩:=h_fields.form
 obtain⟨A_methods,c_methods,rfl,p_methods,q_methods⟩:=h_methods.form
 clear h_fields
 clear h_methods
 go_enter Tryz.func112,Tryz.ntmps112
 have hB:=Bx.new w 162 #[.string x.name,.string x.super,.slice A_fields x.fields.length c_fields,.slice A_methods x.methods.length c_methods]
 go_wp2_with (first
  | (go_at_call_of 154 (Value.slice A_fields x.fields.length c_fields);refine(H_fields _ _ ?_ ?_ ?_).mono ?_;(focus (exact frc));omega;omega;rintro e w0 ⟨n0,rfl,hn0,hf0⟩;have hnb0:n0≤1048576:=(by have:=hn0.out;omega);have hb0:=Bx.keepTo w0 hB (by exact frc);obtain⟨e0_0,e0_1,e0_2,e0_3⟩:=hb0.c4;have hl0:=hb0.lt;have hw0:Fr No w w0:=(by exact frc))
  | (go_at_call_of 155 (Value.slice A_methods x.methods.length c_methods);refine(H_methods _ _ ?_ ?_ ?_).mono ?_;(focus (exact frc));omega;omega;rintro e w1 ⟨n1,rfl,hn1,hf1⟩;have hnb1:n1≤1048576:=(by have:=hn1.out;omega);have hb1:=Bx.keepTo w1 hb0 (by exact frc);obtain⟨e1_0,e1_1,e1_2,e1_3⟩:=hb1.c4;have hl1:=hb1.lt;have hw1:Fr No w w1:=(by exact frc)))
 all_goals go_ret
 all_goals refine zhz.mk _ ?_ (by exact frc)
 all_goals ((try unfold zhR at *);(try unfold Hid at *);omega)
def sumN:List Nat->Nat
 | []=>0
 | x :: xs=>x+sumN xs
theorem zou {α:Type} (f:α->Nat):∀xs:List α,sumN (xs.map f)=sumL f xs
 | []=>rfl
 | x :: xs=>by rw[List.map_cons,sumN,sumL,zou f xs]
theorem zov (xs:List Nat) (k:Nat) (h:k<xs.length):sumN (xs.take (k+1))=sumN (xs.take k)+xs[k]:=by
 have h1:=zgg (fun x=>x) xs k h
 have e:∀ys:List Nat,sumL (fun x=>x) ys=sumN ys:=fun ys=>by
  induction ys with
  | nil=>rfl
  | cons y ys ih=>rw[sumL,sumN,ih]
 rw[e,e] at h1
 exact h1
theorem zow (xs:List Nat) (k:Nat):sumN (xs.take k)≤sumN xs:=by
 induction xs generalizing k with
 | nil=>simp[sumN]
 | cons x xs ih=>
  cases k with
  | zero=>simp[sumN]
  | succ k=>have:=ih k;simp[sumN];omega
theorem zox {α:Type} {f g:α->Nat} {c:Nat} (h:∀x,f x≤c * (1+g x)):∀xs:List α,sumL f xs≤c * szL g xs
 | []=>by simp[sumL]
 | x :: xs=>by
  have h1:=h x
  have h2:=zox h xs
  unfold szL at h2 ⊢
  simp only[sumL,List.length_cons]
  have e:c * (xs.length+1+(g x+sumL g xs))=c * (xs.length+sumL g xs)+c * (1+g x):=by rw[<-Nat.mul_add];congr 1;omega
  omega
def KndW (cs:List Value) (m:Nat):Prop:=m=2∧∃k s,cs=[.int .i64 k,.string s]
def TagW (cs:List Value) (m:Nat):Prop:=m=2∧∃k s,cs=[.int .i64 k,.string s]
def InsW (cs:List Value) (m:Nat):Prop:=m=4∧∃k a s t,cs=[.int .i64 k,.int .i64 a,.string s,.string t]
def FldW (cs:List Value) (m:Nat):Prop:=m=3∧∃s k t,cs=[.string s,.int .i64 k,.string t]
def AskW (cs:List Value) (m:Nat):Prop:=m=2∧∃s k,cs=[.string s,.int .i64 k]
def MapW (X:Nat->Prop) (w:World) (cs:List Value) (m:Nat):Prop:=
 ∃a vl vs ml ms,cs=[.int .i64 a,vl,vs]∧Sl X w 2 TagW vl ml∧Sl X w 2 TagW vs ms∧m=1+sumN ml+sumN ms
def MthW (X:Nat->Prop) (w:World) (cs:List Value) (m:Nat):Prop:=
 ∃s va k t l st vc vm ma mc mm,cs=[.string s,va,.int .i64 k,.string t,.int .i64 l,.int .i64 st,vc,vm]∧Sl X w 2 KndW va ma∧Sl X w 4 InsW vc mc∧Sl X w 3 (MapW X w) vm mm∧m=1+sumN ma+4+sumN mc+sumN mm
def ClsW (X:Nat->Prop) (w:World) (cs:List Value) (m:Nat):Prop:=
 ∃s t vf vm mf mm,cs=[.string s,.string t,vf,vm]∧Sl X w 3 FldW vf mf∧Sl X w 8 (MthW X w) vm mm∧m=2+sumN mf+sumN mm
def KprW (X:Nat->Prop) (w:World) (cs:List Value) (m:Nat):Prop:=
 ∃vo va mo ma,cs=[vo,va]∧Sl X w 4 (ClsW X w) vo mo∧Sl X w 2 AskW va ma∧m=sumN mo+sumN ma
theorem zoy {l:List Value} {a b:Value} (hl:l.length=2) (h0:l[0]? =some a) (h1:l[1]? =some b):l=[a,b]:=by
 match l,hl with
 | [x,y],_=>simp at h0 h1;rw[h0,h1]
theorem zoz {l:List Value} {a b c:Value} (hl:l.length=3) (h0:l[0]? =some a) (h1:l[1]? =some b) (h2:l[2]? =some c):l=[a,b,c]:=by
 match l,hl with
 | [x,y,z],_=>simp at h0 h1 h2;rw[h0,h1,h2]
theorem zoA {l:List Value} {a b c d:Value} (hl:l.length=4) (h0:l[0]? =some a) (h1:l[1]? =some b) (h2:l[2]? =some c) (h3:l[3]? =some d):l=[a,b,c,d]:=by
 match l,hl with
 | [x,y,z,u],_=>simp at h0 h1 h2 h3;rw[h0,h1,h2,h3]
theorem zoB {l:List Value} {a b c d e f g i:Value} (hl:l.length=8) (h0:l[0]? =some a) (h1:l[1]? =some b) (h2:l[2]? =some c) (h3:l[3]? =some d) (h4:l[4]? =some e) (h5:l[5]? =some f) (h6:l[6]? =some g) (h7:l[7]? =some i):l=[a,b,c,d,e,f,g,i]:=by
 match l,hl with
 | [x,y,z,u,v,s,t,r],_=>simp at h0 h1 h2 h3 h4 h5 h6 h7;rw[h0,h1,h2,h3,h4,h5,h6,h7]
section
variable {X Z:Nat->Prop} {w w':World}
theorem KndW.lk {cs cs':List Value} {m:Nat} (h:KndW cs m) (hl:cs'.length=cs.length) (hk:∀(j:Nat) (u:Value),cs[j]? =some u->∃u',cs'[j]? =some u'∧LkV u u'):KndW cs' m:=by
 obtain⟨rfl,k,s,rfl⟩:=h
 obtain⟨_,a1,a2⟩:=hk 0 _ rfl
 obtain⟨_,b1,b2⟩:=hk 1 _ rfl
 obtain⟨k',rfl⟩:=a2.int
 obtain⟨s',rfl⟩:=b2.str
 exact⟨rfl,k',s',zoy hl a1 b1⟩
theorem TagW.lk {cs cs':List Value} {m:Nat} (h:TagW cs m) (hl:cs'.length=cs.length) (hk:∀(j:Nat) (u:Value),cs[j]? =some u->∃u',cs'[j]? =some u'∧LkV u u'):TagW cs' m:=KndW.lk h hl hk
theorem InsW.lk {cs cs':List Value} {m:Nat} (h:InsW cs m) (hl:cs'.length=cs.length) (hk:∀(j:Nat) (u:Value),cs[j]? =some u->∃u',cs'[j]? =some u'∧LkV u u'):InsW cs' m:=by
 obtain⟨rfl,k,a,s,t,rfl⟩:=h
 obtain⟨_,a1,a2⟩:=hk 0 _ rfl
 obtain⟨_,b1,b2⟩:=hk 1 _ rfl
 obtain⟨_,c1,c2⟩:=hk 2 _ rfl
 obtain⟨_,d1,d2⟩:=hk 3 _ rfl
 obtain⟨k',rfl⟩:=a2.int
 obtain⟨a',rfl⟩:=b2.int
 obtain⟨s',rfl⟩:=c2.str
 obtain⟨t',rfl⟩:=d2.str
 exact⟨rfl,k',a',s',t',zoA hl a1 b1 c1 d1⟩
theorem FldW.lk {cs cs':List Value} {m:Nat} (h:FldW cs m) (hl:cs'.length=cs.length) (hk:∀(j:Nat) (u:Value),cs[j]? =some u->∃u',cs'[j]? =some u'∧LkV u u'):FldW cs' m:=by
 obtain⟨rfl,s,k,t,rfl⟩:=h
 obtain⟨_,a1,a2⟩:=hk 0 _ rfl
 obtain⟨_,b1,b2⟩:=hk 1 _ rfl
 obtain⟨_,c1,c2⟩:=hk 2 _ rfl
 obtain⟨s',rfl⟩:=a2.str
 obtain⟨k',rfl⟩:=b2.int
 obtain⟨t',rfl⟩:=c2.str
 exact⟨rfl,s',k',t',zoz hl a1 b1 c1⟩
theorem AskW.lk {cs cs':List Value} {m:Nat} (h:AskW cs m) (hl:cs'.length=cs.length) (hk:∀(j:Nat) (u:Value),cs[j]? =some u->∃u',cs'[j]? =some u'∧LkV u u'):AskW cs' m:=by
 obtain⟨rfl,s,k,rfl⟩:=h
 obtain⟨_,a1,a2⟩:=hk 0 _ rfl
 obtain⟨_,b1,b2⟩:=hk 1 _ rfl
 obtain⟨s',rfl⟩:=a2.str
 obtain⟨k',rfl⟩:=b2.int
 exact⟨rfl,s',k',zoy hl a1 b1⟩
theorem slv {A:Option Addr} {n c:Nat} {v v':Value} (hv:v=.slice A n c) (h:LkV v v'):v'=v:=by subst hv;exact h.sl
theorem MapW.lk {cs cs':List Value} {m:Nat} (h:MapW X w cs m) (ht:Tw Z w w') (hl:cs'.length=cs.length) (hk:∀(j:Nat) (u:Value),cs[j]? =some u->∃u',cs'[j]? =some u'∧LkV u u'):MapW X w' cs' m:=by
 obtain⟨a,vl,vs,ml,ms,rfl,h1,h2,rfl⟩:=h
 obtain⟨_,a1,a2⟩:=hk 0 _ rfl
 obtain⟨_,b1,b2⟩:=hk 1 _ rfl
 obtain⟨_,c1,c2⟩:=hk 2 _ rfl
 obtain⟨a',rfl⟩:=a2.int
 obtain⟨A1,n1,e1,_⟩:=h1.form
 obtain⟨A2,n2,e2,_⟩:=h2.form
 obtain rfl:=slv e1 b2
 obtain rfl:=slv e2 c2
 exact⟨a',_,_,ml,ms,zoz hl a1 b1 c1,h1.tw ht (fun _ _ _ _ h a b=>h.lk a b),h2.tw ht (fun _ _ _ _ h a b=>h.lk a b),rfl⟩
theorem MthW.lk {cs cs':List Value} {m:Nat} (h:MthW X w cs m) (ht:Tw Z w w') (hl:cs'.length=cs.length) (hk:∀(j:Nat) (u:Value),cs[j]? =some u->∃u',cs'[j]? =some u'∧LkV u u'):MthW X w' cs' m:=by
 obtain⟨s,va,k,t,l,st,vc,vm,ma,mc,mm,rfl,h1,h2,h3,rfl⟩:=h
 obtain⟨_,a1,a2⟩:=hk 0 _ rfl
 obtain⟨_,b1,b2⟩:=hk 1 _ rfl
 obtain⟨_,c1,c2⟩:=hk 2 _ rfl
 obtain⟨_,d1,d2⟩:=hk 3 _ rfl
 obtain⟨_,f1,f2⟩:=hk 4 _ rfl
 obtain⟨_,g1,g2⟩:=hk 5 _ rfl
 obtain⟨_,i1,i2⟩:=hk 6 _ rfl
 obtain⟨_,j1,j2⟩:=hk 7 _ rfl
 obtain⟨s',rfl⟩:=a2.str
 obtain⟨k',rfl⟩:=c2.int
 obtain⟨t',rfl⟩:=d2.str
 obtain⟨l',rfl⟩:=f2.int
 obtain⟨st',rfl⟩:=g2.int
 obtain⟨A1,n1,e1,_⟩:=h1.form
 obtain⟨A2,n2,e2,_⟩:=h2.form
 obtain⟨A3,n3,e3,_⟩:=h3.form
 obtain rfl:=slv e1 b2
 obtain rfl:=slv e2 i2
 obtain rfl:=slv e3 j2
 exact⟨s',_,k',t',l',st',_,_,ma,mc,mm,zoB hl a1 b1 c1 d1 f1 g1 i1 j1,h1.tw ht (fun _ _ _ _ h a b=>h.lk a b),h2.tw ht (fun _ _ _ _ h a b=>h.lk a b),h3.tw ht (fun _ _ _ _ h a b=>h.lk ht a b),rfl⟩
theorem ClsW.lk {cs cs':List Value} {m:Nat} (h:ClsW X w cs m) (ht:Tw Z w w') (hl:cs'.length=cs.length) (hk:∀(j:Nat) (u:Value),cs[j]? =some u->∃u',cs'[j]? =some u'∧LkV u u'):ClsW X w' cs' m:=by
 obtain⟨s,t,vf,vm,mf,mm,rfl,h1,h2,rfl⟩:=h
 obtain⟨_,a1,a2⟩:=hk 0 _ rfl
 obtain⟨_,b1,b2⟩:=hk 1 _ rfl
 obtain⟨_,c1,c2⟩:=hk 2 _ rfl
 obtain⟨_,d1,d2⟩:=hk 3 _ rfl
 obtain⟨s',rfl⟩:=a2.str
 obtain⟨t',rfl⟩:=b2.str
 obtain⟨A1,n1,e1,_⟩:=h1.form
 obtain⟨A2,n2,e2,_⟩:=h2.form
 obtain rfl:=slv e1 c2
 obtain rfl:=slv e2 d2
 exact⟨s',t',_,_,mf,mm,zoA hl a1 b1 c1 d1,h1.tw ht (fun _ _ _ _ h a b=>h.lk a b),h2.tw ht (fun _ _ _ _ h a b=>h.lk ht a b),rfl⟩
theorem KprW.lk {cs cs':List Value} {m:Nat} (h:KprW X w cs m) (ht:Tw Z w w') (hl:cs'.length=cs.length) (hk:∀(j:Nat) (u:Value),cs[j]? =some u->∃u',cs'[j]? =some u'∧LkV u u'):KprW X w' cs' m:=by
 obtain⟨vo,va,mo,ma,rfl,h1,h2,rfl⟩:=h
 obtain⟨_,a1,a2⟩:=hk 0 _ rfl
 obtain⟨_,b1,b2⟩:=hk 1 _ rfl
 obtain⟨A1,n1,e1,_⟩:=h1.form
 obtain⟨A2,n2,e2,_⟩:=h2.form
 obtain rfl:=slv e1 a2
 obtain rfl:=slv e2 b2
 exact⟨_,_,mo,ma,zoy hl a1 b1,h1.tw ht (fun _ _ _ _ h a b=>h.lk ht a b),h2.tw ht (fun _ _ _ _ h a b=>h.lk a b),rfl⟩
end
def wtMp (x:Mp):Nat:=1+2 * x.locals.length+2 * x.stack.length
def zoC (x:Mth):Nat:=5+2 * x.args.length+4 * x.code.length+sumL wtMp x.maps
def zoD (x:Cls):Nat:=2+3 * x.fields.length+sumL zoC x.methods
def zoE (x:Kpr):Nat:=sumL zoD x.owns+2 * x.asks.length
theorem zoF {α:Type} (c:Nat):∀xs:List α,sumL (fun _=>c) xs=c * xs.length
 | []=>rfl
 | x :: xs=>by rw[sumL,zoF c xs,List.length_cons,Nat.mul_add];omega
section
variable {X:Nat->Prop} {w:World}
theorem Sl.wt {α:Type} {sz c:Nat} {R:List Value->α->Prop} {Q:List Value->Nat->Prop} {v:Value} {xs:List α} (h:Sl X w sz R v xs) (hR:∀cs x,R cs x->Q cs c):∃ms,Sl X w sz Q v ms∧sumN ms=c * xs.length:=
 ⟨_,h.map_ (fun _=>c) (fun cs x _ h=>hR cs x h),by rw[zou];exact zoF c xs⟩
theorem Sl.wtd {α:Type} {sz:Nat} {R:List Value->α->Prop} {Q:List Value->Nat->Prop} {v:Value} {xs:List α} (f:α->Nat) (h:Sl X w sz R v xs) (hR:∀cs x,R cs x->Q cs (f x)):∃ms,Sl X w sz Q v ms∧sumN ms=sumL f xs:=
 ⟨_,h.map_ f (fun cs x _ h=>hR cs x h),zou f xs⟩
theorem MapC.wt {cs:List Value} {x:Mp} (h:MapC X w cs x):MapW X w cs (wtMp x):=by
 obtain⟨vl,vs,rfl,h1,h2⟩:=h
 obtain⟨ml,g1,e1⟩:=h1.wt (Q:=TagW) (c:=2) (fun _ _ h=>⟨rfl,_,_,h.1⟩)
 obtain⟨ms,g2,e2⟩:=h2.wt (Q:=TagW) (c:=2) (fun _ _ h=>⟨rfl,_,_,h.1⟩)
 exact⟨_,_,_,ml,ms,rfl,g1,g2,by unfold wtMp;omega⟩
theorem MthC.wt {cs:List Value} {x:Mth} (h:MthC X w cs x):MthW X w cs (zoC x):=by
 obtain⟨va,vc,vm,rfl,_,_,h1,h2,h3⟩:=h
 obtain⟨ma,g1,e1⟩:=h1.wt (Q:=KndW) (c:=2) (fun _ _ h=>⟨rfl,_,_,h.1⟩)
 obtain⟨mc,g2,e2⟩:=h2.wt (Q:=InsW) (c:=4) (fun _ _ h=>⟨rfl,_,_,_,_,h.1⟩)
 obtain⟨mm,g3,e3⟩:=h3.wtd (Q:=MapW X w) wtMp (fun _ _ h=>h.wt)
 exact⟨_,_,_,_,_,_,_,_,ma,mc,mm,rfl,g1,g2,g3,by unfold zoC;omega⟩
theorem ClsC.wt {cs:List Value} {x:Cls} (h:ClsC X w cs x):ClsW X w cs (zoD x):=by
 obtain⟨vf,vm,rfl,_,_,h1,h2⟩:=h
 obtain⟨mf,g1,e1⟩:=h1.wt (Q:=FldW) (c:=3) (fun _ _ h=>⟨rfl,_,_,_,h.1⟩)
 obtain⟨mm,g2,e2⟩:=h2.wtd (Q:=MthW X w) zoC (fun _ _ h=>h.wt)
 exact⟨_,_,_,_,mf,mm,rfl,g1,g2,by unfold zoD;omega⟩
theorem KprC.wt {cs:List Value} {x:Kpr} (h:KprC X w cs x):KprW X w cs (zoE x):=by
 obtain⟨vo,va,rfl,h1,h2⟩:=h
 obtain⟨mo,g1,e1⟩:=h1.wtd (Q:=ClsW X w) zoD (fun _ _ h=>h.wt)
 obtain⟨ma,g2,e2⟩:=h2.wt (Q:=AskW) (c:=2) (fun _ _ h=>⟨rfl,_,_,h.1⟩)
 exact⟨_,_,mo,ma,rfl,g1,g2,by unfold zoE;omega⟩
end
theorem zoG (x:Mp):wtMp x≤8 * (1+szMp x):=by
 have h1:=zgj zhD x.locals
 have h2:=zgj zhD x.stack
 unfold wtMp szMp
 omega
theorem zoH (x:Mth):zoC x≤8 * (1+zhO x):=by
 have h1:=zgj zhA x.args
 have h2:=zgj zhG x.code
 have h3:=zox zoG x.maps
 unfold zoC zhO
 omega
theorem zoI (x:Cls):zoD x≤8 * (1+zhR x):=by
 have h1:=zgj zhJ x.fields
 have h2:=zox zoH x.methods
 unfold zoD zhR
 omega
theorem zoJ (W:World) (b:Nat) (d:UInt8) (hc:W.cell? ⟨b,0,none⟩=some (.int .u8 (d.toNat:Int))):
  (convert 157 9 (.slice (some ⟨b,0,none⟩) 1 1)).run Tryz.prog W=.ok (.string ⟨#[d]⟩) W:=by
 have:=run_convert_bytes_back (P:=Tryz.prog) W 157 9 5 ⟨b,0,none⟩ 1 [d] Tryz.underlying157 Tryz.underlying5 Tryz.underlying9 (fun j hj=>by
  simp only[List.length_cons,List.length_nil] at hj
  obtain rfl:j=0:=by omega
  exact hc)
 exact this
def dig1 (k:Nat):Str:=⟨#[UInt8.ofNat (48+k % 10)]⟩
def zoK (k:Nat) (o:Str):Str:=if _h:k=0 then o else zoK (k / 10) (dig1 k ++ o)
termination_by k
decreasing_by exact Nat.div_lt_self (Nat.pos_of_ne_zero _h) (by decide)
def zoL (k:Int):Str:=if k≤0 then ⟨#[109,48]⟩ else (⟨#[109]⟩:Str) ++ zoK k.toNat ⟨#[]⟩
theorem zoM (k:Int) (w:World) (h1:k≤1000000000):Calls Tryz.prog 66 #[.int .i64 k] w (Gives (.string (zoL k)) w):=by
 by_cases h0:k≤0
 ·have hV:Hid (zoL k=⟨#[109,48]⟩):=if_pos h0
  go_enter Tryz.func66,Tryz.ntmps66
  go_wp2
  go_ret
  exact .mk (by rw[hV.out];rfl) (by exact frc)
 ·have hV:Hid (zoL k=(⟨#[109]⟩:Str) ++ zoK k.toNat ⟨#[]⟩):=if_neg h0
  obtain⟨n,rfl⟩:=Int.eq_ofNat_of_zero_le (show 0≤k by omega)
  go_enter Tryz.func66,Tryz.ntmps66
  go_wp2
  go_loopw [0,3] (fun i o wr=>∃(m:Nat) (s:Str),s.size+m≤n∧i=.int .i64 m∧o=.string s∧Hid (zoK n ⟨#[]⟩=zoK m s)∧Fr No w wr) (fun i _ _=>(intOf i).toNat)
  case atStart=>exact⟨n,_,by show 0+n≤n;omega,rfl,rfl,rfl,Fr.refl _ _⟩
  case round=>
   obtain⟨m,s,hm,rfl,rfl,hd,hf⟩:=hrel
   by_cases hlt:0<m
   ·have hx:(UInt8.ofNat (48+m % 10)).toNat=48+m % 10:=by
     rw[UInt8.toNat_ofNat']
     omega
    have hc2:∀W b,W.cell? ⟨b,0,none⟩=some (.int .u8 (48+(m:Int) % 10))->(convert 157 9 (.slice (some ⟨b,0,none⟩) 1 1)).run Tryz.prog W=.ok (.string (dig1 m)) W:=fun W b h=>zoJ W b _ (by rw[h,hx];simp)
    have hz:(dig1 m).size=1:=rfl
    go_wp2
    go_roundw
    case rel=>
     refine⟨m / 10,_,?_,by go_num,rfl,?_,by exact frc⟩
     ·have:(dig1 m ++ s).size=(dig1 m).size+s.size:=ByteArray.size_append
      omega
     ·show _=_
      rw[hd.out,zoK,dif_neg (by omega)]
    case measure=>simp[intOf];omega
   ·obtain rfl:m=0:=by omega
    have hv:zoK n ⟨#[]⟩=s:=by rw[hd.out,zoK,dif_pos rfl]
    have hz:(⟨#[109]⟩:Str).size=1:=rfl
    go_wp2
    go_ret
    exact .mk (by rw[hV.out,<-hv];rfl) (by exact frc)
def zoN (k:Int) (i:Nat):Value:=if i % 2=1 then .string (zoL (k+i)) else .int .i64 (k+i)
theorem tcI {k x:Int} {i:Nat} (h:¬(i % 2=1)) (hx:x=k+i):Value.int .i64 x=zoN k i:=by rw[zoN,if_neg h,hx]
theorem tcS {k x:Int} {i:Nat} (h:i % 2=1) (hx:x=k+i):Value.string (zoL x)=zoN k i:=by rw[zoN,if_pos h,hx]
structure Mk2 (g:Nat) (k:Int) (w:World) (m:Nat) (W:World):Prop where
 tw:Tw (fun b=>b=g) w W
 cells:∀i,i<m->W.cell? ⟨g,i,none⟩=some (zoN k i)
section
variable {g m a:Nat} {k x:Int} {w W W':World}
theorem Mk2.of0 (h:Mk2 g k w m W) (hf:Fr No W W'):Mk2 g k w m W':=⟨h.tw.trans (.of0 hf),fun i hi=>hf.keep0 (h.cells i hi)⟩
theorem Mk2.step {u v:Value} (h:Mk2 g k w m W) (ha:a=m) (hu:u=zoN k m) (hc:W.cell? ⟨g,a,none⟩=some v) (hl:LkV v u):Mk2 g k w (m+1) (W.setCell ⟨g,a,none⟩ u):=by
 subst ha
 refine⟨h.tw.trans (.set hc hl rfl),fun i hi=>?_⟩
 by_cases he:i=a
 ·subst he;rw[World.cell?_setCell_same _ _ _ hc,hu]
 ·rw[World.cell?_setCell_other W ⟨g,a,none⟩ ⟨g,i,none⟩ u (fun e=>he (by injection e with _ h2 _;omega))]
  exact h.cells i (by omega)
theorem Mk2.stepI (h:Mk2 g k w m W) (hc:∀W,Tw (fun b=>b=g) w W->∃x,W.cell? ⟨g,a,none⟩=some (.int .i64 x)) (ha:a=m) (hr:¬(m % 2=1)) (hx:x=k+m):Mk2 g k w (m+1) (W.setCell ⟨g,a,none⟩ (.int .i64 x)):=
 let ⟨_,hv⟩:=hc W h.tw;h.step ha (tcI hr hx) hv (.inr (.inl ⟨_,_,rfl,rfl⟩))
theorem Mk2.stepS (h:Mk2 g k w m W) (hc:∀W,Tw (fun b=>b=g) w W->∃x,W.cell? ⟨g,a,none⟩=some (.string x)) (ha:a=m) (hr:m % 2=1) (hx:x=k+m):Mk2 g k w (m+1) (W.setCell ⟨g,a,none⟩ (.string (zoL x))):=
 let ⟨_,hv⟩:=hc W h.tw;h.step ha (tcS hr hx) hv (.inr (.inr ⟨_,_,rfl,rfl⟩))
end
theorem trtI {g a i:Nat} {w:World} (h:∃v,w.cell? ⟨g,a,none⟩=some v∧LkV (zoN 0 i) v) (hr:¬(i % 2=1)):∀W,Tw (fun b=>b=g) w W->∃x,W.cell? ⟨g,a,none⟩=some (.int .i64 x):=fun W hT=>by
 obtain⟨v,h1,h2⟩:=h
 rw[zoN,if_neg hr] at h2
 obtain⟨v',h3,h4⟩:=hT.like _ _ _ h1
 obtain⟨x,rfl⟩:=(h2.trans h4).int
 exact⟨x,h3⟩
theorem trtS {g a i:Nat} {w:World} (h:∃v,w.cell? ⟨g,a,none⟩=some v∧LkV (zoN 0 i) v) (hr:i % 2=1):∀W,Tw (fun b=>b=g) w W->∃x,W.cell? ⟨g,a,none⟩=some (.string x):=fun W hT=>by
 obtain⟨v,h1,h2⟩:=h
 rw[zoN,if_pos hr] at h2
 obtain⟨v',h3,h4⟩:=hT.like _ _ _ h1
 obtain⟨x,rfl⟩:=(h2.trans h4).str
 exact⟨x,h3⟩
theorem zoO (A:Option Addr) (g L cap:Nat) (k:Int) (w:World) (hcap:L≤cap) (hlen:L≤9223372036854775807) (hA:0<L->A=some ⟨g,0,none⟩∧(∀o,w.frozen? ⟨g,o,none⟩=false)∧g<w.heap.size)
  (hs:∀i,i<L * 2->∃v,w.cell? ⟨g,i,none⟩=some v∧LkV (zoN 0 i) v) (h0:0≤k) (hk:k+L * 2≤1000000000):
  Calls Tryz.prog 37 #[.slice A L cap,.int .i64 k] w (fun e w'=>e=.returned (.int .i64 (k+L * 2))∧Mk2 g k w (L * 2) w'):=by
 go_enter Tryz.func37,Tryz.ntmps37
 go_wp2
 go_loopw [5,1] (fun i l wr=>∃(j:Nat) (n:Int),j≤L∧i=.int .i64 j∧l=.int .i64 n∧n=k+j * 2∧Mk2 g k w (j * 2) wr) (fun i _ _=>L-(intOf i).toNat)
 case atStart=>exact⟨0,k,Nat.zero_le _,rfl,rfl,by simp,.refl _ _,fun i hi=>by omega⟩
 case round=>
  obtain⟨j,n,hj,rfl,rfl,hn,hT⟩:=hrel
  by_cases hlt:j<L
  ·obtain⟨rfl,hF,hG⟩:=hA (by omega)
   have hc_0:=trtI (hs (j * 2) (by omega)) (by omega)
   have hc_1:=trtS (hs (j * 2+1) (by omega)) (by omega)
   have hfr:∀W,Tw (fun b=>b=g) w W->(∀o,W.frozen? ⟨g,o,none⟩=false)∧g<W.heap.size:=fun W h=>⟨fun o=>by rw[h.froz g o hG];exact hF o,Nat.lt_of_lt_of_le hG h.fr.size⟩
   clear hs hA
   replace hc_0:=Lib.hid hc_0
   replace hc_1:=Lib.hid hc_1
   replace hfr:=Lib.hid hfr
   have hb:n+2≤1000000000:=by omega
   have hb0:0≤n:=by omega
   obtain⟨qx0,q0⟩:=hc_0.out wr hT.tw
   obtain⟨qx1,q1⟩:=hc_1.out wr hT.tw
   obtain⟨qf,ql⟩:=hfr.out wr hT.tw
   go_wp2_with fail
   refine zdP (fun W=>Mk2 g k w (j * 2+1) W) (hT.stepI hc_0.out rfl (by omega) (by omega)) ?_
   intro W1 hT1
   clear q0 q1 qf ql
   refine(zoM _ _ (by omega)).mono ?_
   rintro e w1 ⟨rfl,hf1⟩
   have hT1':=hT1.of0 hf1
   clear hT1 hf1
   obtain⟨rx1,r1⟩:=hc_1.out w1 hT1'.tw
   obtain⟨rf,rl⟩:=hfr.out w1 hT1'.tw
   go_wp2
   go_roundw
   case rel=>exact⟨j+1,_,by omega,by go_num,rfl,by omega,by rw[show(j+1) * 2=j * 2+1+1 by omega];exact hT1'.stepS hc_1.out (by omega) (by omega) (by omega)⟩
   case measure=>simp[intOf];omega
  ·obtain rfl:j=L:=by omega
   go_wp2
   go_ret
   exact⟨by rw[hn];rfl,hT⟩
theorem zoP (A:Option Addr) (g L cap:Nat) (k:Int) (w:World) (hcap:L≤cap) (hlen:L≤9223372036854775807) (hA:0<L->A=some ⟨g,0,none⟩)
  (hs:∀i,i<L * 2->w.cell? ⟨g,i,none⟩=some (zoN k i)) (h0:0≤k) (hk:k+L * 2≤1000000000):
  Calls Tryz.prog 38 #[.slice A L cap,.int .i64 k] w (Gives (.int .i64 (k+L * 2)) w):=by
 go_enter Tryz.func38,Tryz.ntmps38
 go_wp2
 go_loopw [5,1] (fun i l wr=>∃(j:Nat) (n:Int),j≤L∧i=.int .i64 j∧l=.int .i64 n∧n=k+j * 2∧Fr No w wr) (fun i _ _=>L-(intOf i).toNat)
 case atStart=>exact⟨0,k,Nat.zero_le _,rfl,rfl,by simp,Fr.refl _ _⟩
 case round=>
  obtain⟨j,n,hj,rfl,rfl,hn,hT⟩:=hrel
  by_cases hlt:j<L
  ·obtain rfl:=hA (by omega)
   have hc_0:=(hs (j * 2) (by omega)).trans (congrArg some (tcI (x:=n) (by omega) (by omega)).symm)
   have hc_1:=(hs (j * 2+1) (by omega)).trans (congrArg some (tcS (x:=n+1) (by omega) (by omega)).symm)
   clear hs hA
   have hb:n+2≤1000000000:=by omega
   have hb0:0≤n:=by omega
   have q0:=hT.keep0 hc_0
   have K1:=fun W (hW:Fr No wr W)=>(hT.trans0 hW).keep0 hc_1
   have M1:=fun W (_:Fr No wr W)=>zoM (n+1) W (by omega)
   replace hn:=Lib.hid hn
   replace hc_0:=Lib.hid hc_0
   replace hc_1:=Lib.hid hc_1
   go_wp2_with fail
   refine zn0 7 28 [mV (.slice (some ⟨g,0,none⟩) L cap),mV (.int .i64 j),mV (.pointer (some ⟨g,j * 2,none⟩)),mV (.pointer (some ⟨g,j * 2+1,none⟩)),mV (.string (zoL (n+1))),mV (.int .i64 (n+1)),mV (.string (zoL (n+1)))] (by kernel_rfl) (by kernel_rfl) (by simp) ?_ ?_
   ·refine hc4 ?_ ?_ ?_ ?_ <| hopC ?_ <| hopC ?_ <| hopC ?_ <| hopZ
    all_goals (intro a' W hW hoff hdep;have hbs:=hW.size;have H0:=hoff 0 rfl;have H5:=hoff 5 rfl;have H1:=hoff 1 rfl;refine nE rfl ?_)
    ·simp[execOp,Act.eval,H0,go_sem,zaa];exact fr1 rfl
    ·simp[execOp,Act.eval,H5,go_sem,zaa];exact fr1 rfl
    ·have D21:_=_:=hdep 0 21 rfl;have D22:_=_:=hdep 1 22 rfl;clear hoff hdep;simp[execOp,Act.eval,go_sem,zaa, *];exact fr1 rfl
    ·have D23:_=_:=hdep 2 23 rfl;simp[execOp,Act.eval,D23,go_sem,zaa];exact fr1 rfl
    ·have D24:_=_:=hdep 3 24 rfl;clear hoff hdep;simp[execOp,Act.eval,go_sem,zaa, *];exact fr1 rfl
    ·simp[execOp,Act.eval,H1,go_sem,zaa];exact fr1 rfl
    ·have D26:_=_:=hdep 5 26 rfl;simp[Act.eval,D26,go_sem,zaa];exact(M1 _ hW).mono fun e w'' h=>⟨_,h.1,h.2,rfl⟩
   intro vs WR hWR hv hne
   simp only[lz6,List.drop_zero,znK,znR,Nat.zero_add,Nat.reduceAdd]
   simp only[Act.put,lz0,lz1,lz2]
   clear hv
   clear K1 M1
   have hT1:=hT.trans0 hWR
   go_wp2
   go_roundw
   case rel=>exact⟨j+1,_,by omega,by go_num,rfl,by have:=hn.out;omega,hT1⟩
   case measure=>simp[intOf];omega
  ·obtain rfl:j=L:=by omega
   go_wp2
   go_ret
   exact .mk (by rw[hn];rfl) hT
end Go.Proofs.YthembcdcdnffeaaGreat
