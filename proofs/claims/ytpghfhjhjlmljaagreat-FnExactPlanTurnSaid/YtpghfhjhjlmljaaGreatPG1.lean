/- What plain Go data of this program read as in memory (lists of structs behind slices), and what a call leaves as it was. No program is named here. -/
import Derived.WalkKit
import Derived.Lib.Hide
import Derived.Laws.MakeOwn
import Derived.Deep.Draws
import Derived.Deep.Quiet
import Derived.Deep.QuietTactic
namespace Go.Proofs.YtpghfhjhjlmljaaGreat
open Go.RowKit
theorem lz0 {α : Type _} (l : List α) (i : Nat) (a : α) : l.toArray.setIfInBounds i a = (l.set i a).toArray := by simp
theorem lz1 {α : Type _} {x a : α} {l : List α} : (x :: l).set 0 a = a :: l := by simp
theorem lz2 {α : Type _} {x a : α} {l : List α} {n : Nat} : (x :: l).set (n + 1) a = x :: l.set n a := by simp
theorem lz3 {α : Type _} {a : α} {l : List α} : (a :: l)[0]? = some a := by simp
theorem lz4 {α : Type _} {a : α} {l : List α} {i : Nat} : (a :: l)[i + 1]? = l[i]? := by simp
theorem lz5 (a b : Bool) : ((a && b) = true) = (a = true ∧ b = true) := by simp
theorem lz6 {α : Type _} {a : α} {l : List α} {i : Nat} : (a :: l).drop (i + 1) = l.drop i := by simp
theorem lz7 {α : Type _} {a : α} {l : List α} {i : Nat} : (a :: l).take (i + 1) = a :: l.take i := by simp
theorem lz8 {α : Type _} {l : List α} {i : Nat} (h : i < l.length) : l[i]? = some l[i] := by simp
def No:Nat->Prop:=fun _=>False
theorem zN {P:Nat->Prop}:∀b,No b->P b:=fun _ h=>h.elim
structure Fr (X:Nat->Prop) (w w':World):Prop where
 os:w'.os=w.os
 tape:w'.tape=w.tape
 output:w'.output=w.output
 size:w.heap.size≤w'.heap.size
 block:∀b,b<w.heap.size->¬X b->w'.heap[b]? =w.heap[b]?
section
variable {X Y:Nat->Prop} {a w w':World}
theorem Fr.refl (X:Nat->Prop) (w:World):Fr X w w:=⟨rfl,rfl,rfl,Nat.le_refl _,fun _ _ _=>rfl⟩
theorem Fr.mono (h:Fr X w w') (hXY:∀b,b<w.heap.size->X b->Y b):Fr Y w w':=
 ⟨h.os,h.tape,h.output,h.size,fun b hb hn=>h.block b hb (fun hx=>hn (hXY b hb hx))⟩
theorem Fr.of0 (h:Fr No w w'):Fr X w w':=h.mono (fun _ _ h=>h.elim)
theorem Fr.trans (h:Fr X a w) (k:Fr Y w w') (hXY:∀b,b<a.heap.size->Y b->X b):Fr X a w':=
 ⟨k.os.trans h.os,k.tape.trans h.tape,k.output.trans h.output,Nat.le_trans h.size k.size,fun b hb hn=>
  (k.block b (Nat.lt_of_lt_of_le hb h.size) (fun hy=>hn (hXY b hb hy))).trans (h.block b hb hn)⟩
theorem Fr.trans0 (h:Fr X a w) (k:Fr No w w'):Fr X a w':=h.trans k (fun _ _ h=>h.elim)
theorem Fr.same (h:Fr X a w) (k:Fr X w w'):Fr X a w':=h.trans k (fun _ _ h=>h)
theorem Fr.alloc (h:Fr X a w) (o:Obj):Fr X a (w.alloc o):=
 ⟨h.os,h.tape,h.output,Nat.le_trans h.size (by simp),fun b hb hn=>(Below.heap_alloc w o b (Nat.lt_of_lt_of_le hb h.size)).trans (h.block b hb hn)⟩
theorem Fr.drew (h:Fr X a w):Fr X a w.drew:=⟨h.os,h.tape,h.output,h.size,h.block⟩
theorem Fr.drewN (h:Fr X a w) (n:Nat):Fr X a (w.drewN n):=⟨h.os,h.tape,h.output,h.size,h.block⟩
theorem Fr.setCell (h:Fr X a w) {p:Addr} (hp:a.heap.size≤p.block) (u:Value):Fr X a (w.setCell p u):=
 ⟨h.os,h.tape,h.output,by simpa[World.setCell] using h.size,fun b hb hn=>(Below.heap_setCell w p u b (by omega)).trans (h.block b hb hn)⟩
theorem Fr.setCellX (h:Fr X a w) {p:Addr} (hp:X p.block) (u:Value):Fr X a (w.setCell p u):=
 ⟨h.os,h.tape,h.output,by simpa[World.setCell] using h.size,fun b hb hn=>(Below.heap_setCell w p u b (by rintro rfl;exact hn hp)).trans (h.block b hb hn)⟩
theorem Fr.setCellO {p:Addr} (hp:a.heap.size≤p.block) (h:Fr X a w) (u:Value):Fr X a (w.setCell p u):=h.setCell hp u
theorem Fr.setCellXO {p:Addr} (hp:X p.block) (h:Fr X a w) (u:Value):Fr X a (w.setCell p u):=h.setCellX hp u
theorem Fr.grown {row:Option Nat} (h:Fr X a w) (hg:w.grownBy w' row) (hr:∀k,row=some k->a.heap.size≤k∨X k):Fr X a w':=
 ⟨hg.os.trans h.os,hg.tape.trans h.tape,hg.output.trans h.output,Nat.le_trans h.size hg.size,fun b hb hn=>
  (hg.block b (Nat.lt_of_lt_of_le hb h.size) (by
   intro e
   rcases hr b e.symm with h1|h1
   ·omega
   ·exact hn h1)).trans (h.block b hb hn)⟩
theorem Fr.below (h:Fr No w w'):Below w.heap.size w w':=⟨h.os,h.tape,h.output,h.size,fun k hk=>h.block k hk (fun h=>h)⟩
theorem Fr.cellX (h:Fr X w w') {b:Nat} (o:Nat) (hb:b<w.heap.size) (hn:¬X b):w'.cell? ⟨b,o,none⟩=w.cell? ⟨b,o,none⟩:=
 World.cell?_of_block (w:=w) (h.block b hb hn)
theorem Fr.cell (h:Fr No w w') {b:Nat} (o:Nat) (hb:b<w.heap.size):w'.cell? ⟨b,o,none⟩=w.cell? ⟨b,o,none⟩:=h.cellX o hb (fun h=>h)
theorem Fr.frozenX (h:Fr X w w') {b:Nat} (o:Nat) (hb:b<w.heap.size) (hn:¬X b):w'.frozen? ⟨b,o,none⟩=w.frozen? ⟨b,o,none⟩:=
 World.frozen?_of_block (w:=w) (h.block b hb hn)
theorem Fr.frozen (h:Fr No w w') {b:Nat} (o:Nat) (hb:b<w.heap.size):w'.frozen? ⟨b,o,none⟩=w.frozen? ⟨b,o,none⟩:=h.frozenX o hb (fun h=>h)
end
theorem lt_of_cell {w:World} {b o:Nat} {v:Value} (h:w.cell? ⟨b,o,none⟩=some v):b<w.heap.size:=by
 rcases Nat.lt_or_ge b w.heap.size with hlt|hge
 ·exact hlt
 ·simp[World.cell?,Array.getElem?_eq_none hge] at h
theorem Fr.keep {X Y:Nat->Prop} {w w':World} (h:Fr Y w w') (hXY:∀b,Y b->X b) {b o:Nat} {v:Value} (hn:¬X b) (hc:w.cell? ⟨b,o,none⟩=some v):w'.cell? ⟨b,o,none⟩=some v:=
 (h.cellX o (lt_of_cell hc) (fun hy=>hn (hXY b hy))).trans hc
def Bx (w:World) (g:Nat) (t:TypeId) (cs:Array Value):Prop:=w.heap[g]? =some (.cells cs t (0,0))
section
variable {X Y:Nat->Prop} {w w':World} {g:Nat} {t:TypeId} {cs:Array Value}
theorem Bx.lt (h:Bx w g t cs):g<w.heap.size:=by
 rcases Nat.lt_or_ge g w.heap.size with hlt|hge
 ·exact hlt
 ·unfold Bx at h;rw[Array.getElem?_eq_none hge] at h;cases h
theorem Bx.cell (h:Bx w g t cs) (i:Nat):w.cell? ⟨g,i,none⟩=cs[i]?:=by
 unfold Bx at h;simp[World.cell?,h]
theorem Bx.frozen (h:Bx w g t cs) (i:Nat):w.frozen? ⟨g,i,none⟩=false:=by
 unfold Bx at h;simp[World.frozen?,h]
theorem Bx.new (w:World) (t:TypeId) (cs:Array Value):Bx (w.alloc (.cells cs t)) w.heap.size t cs:=by
 unfold Bx
 show(w.heap.push _)[w.heap.size]? =_
 rw[Array.getElem?_push,if_pos rfl]
theorem Bx.keepX (h:Bx w g t cs) (hf:Fr X w w') (hn:¬X g):Bx w' g t cs:=(hf.block g h.lt hn).trans h
theorem Bx.keep (h:Bx w g t cs) (hf:Fr No w w'):Bx w' g t cs:=h.keepX hf (fun h=>h)
theorem Bx.keepTo (w':World) (h:Bx w g t cs) (hf:Fr No w w'):Bx w' g t cs:=h.keep hf
theorem Bx.alloc (h:Bx w g t cs) (o:Obj):Bx (w.alloc o) g t cs:=(Below.heap_alloc w o g h.lt).trans h
theorem Bx.drew (h:Bx w g t cs):Bx w.drew g t cs:=h
theorem Bx.drewN (h:Bx w g t cs) (n:Nat):Bx (w.drewN n) g t cs:=h
theorem Bx.set_ (h:Bx w g t cs) (i:Nat) (u:Value):Bx (w.setCell ⟨g,i,none⟩ u) g t (cs.setIfInBounds i u):=by
 unfold Bx at h ⊢
 simp[World.setCell,Array.getElem?_modify,h]
theorem Bx.far (h:Bx w g t cs) {p:Addr} (hp:g≠p.block) (u:Value):Bx (w.setCell p u) g t cs:=(Below.heap_setCell w p u g hp).trans h
end
def Sl {α:Type} (X:Nat->Prop) (w:World) (sz:Nat) (R:List Value->α->Prop) (v:Value) (xs:List α):Prop:=
 ∃(A:Option Addr) (cap:Nat),v=.slice A xs.length cap∧xs.length≤cap∧xs.length≤maxLen ∧
  (0<xs.length->∃b off,A=some ⟨b,off,none⟩∧¬X b ∧
   ∀k (hk:k<xs.length),∃cs,R cs xs[k]∧cs.length=sz∧∀j,j<sz->w.cell? ⟨b,off+k * sz+j,none⟩=cs[j]?)
section
variable {α:Type} {X Y:Nat->Prop} {w w':World} {sz:Nat} {R R':List Value->α->Prop} {v:Value} {xs:List α}
theorem Sl.nil (X:Nat->Prop) (w:World) (sz:Nat) (R:List Value->α->Prop):Sl X w sz R (.slice none 0 0) []:=
 ⟨none,0,rfl,Nat.le_refl _,Nat.zero_le _,fun h=>absurd h (by simp)⟩
theorem Sl.at_ {A:Option Addr} {n cap:Nat} (h:Sl X w sz R (.slice A n cap) xs):n=xs.length∧n≤cap∧n≤maxLen∧∀k (hk:k<xs.length),∃b off,A=some ⟨b,off,none⟩∧¬X b ∧
  ∃cs,R cs xs[k]∧cs.length=sz∧∀j,j<sz->w.cell? ⟨b,off+k * sz+j,none⟩=cs[j]?:=by
 obtain⟨A',cap',he,h1,h2,h3⟩:=h
 simp only[Value.slice.injEq] at he
 obtain⟨rfl,rfl,rfl⟩:=he
 refine⟨rfl,h1,h2,fun k hk=>?_⟩
 obtain⟨b,off,rfl,hX,hc⟩:=h3 (by omega)
 obtain⟨cs,hR,hl,hcs⟩:=hc k hk
 exact⟨b,off,rfl,hX,cs,hR,hl,hcs⟩
theorem Sl.form (h:Sl X w sz R v xs):∃A cap,v=.slice A xs.length cap∧xs.length≤cap∧xs.length≤maxLen:=by
 obtain⟨A,cap,rfl,h1,h2,_⟩:=h
 exact⟨A,cap,rfl,h1,h2⟩
theorem Sl.keep (h:Sl X w sz R v xs) (hf:Fr Y w w') (hXY:∀b,Y b->X b) (hR:∀cs x,x∈xs->R cs x->R' cs x) (hXX:∀b,Y b->X b:=hXY):Sl X w' sz R' v xs:=by
 obtain⟨A,cap,rfl,h1,h2,h3⟩:=h
 refine⟨A,cap,rfl,h1,h2,fun h0=>?_⟩
 obtain⟨b,off,rfl,hX,hc⟩:=h3 h0
 refine⟨b,off,rfl,hX,fun k hk=>?_⟩
 obtain⟨cs,hRc,hl,hcs⟩:=hc k hk
 refine⟨cs,hR cs _ (List.getElem_mem hk) hRc,hl,fun j hj=>?_⟩
 have hv:cs[j]? =some (cs[j]'(by omega)):=lz8 (by omega)
 have:=hcs j hj
 rw[hv] at this ⊢
 exact hf.keep hXX hX this
theorem Sl.weaken (h:Sl X w sz R v xs) (hYX:∀b,Y b->X b) (hR:∀cs x,x∈xs->R cs x->R' cs x):Sl Y w sz R' v xs:=by
 obtain⟨A,cap,rfl,h1,h2,h3⟩:=h
 refine⟨A,cap,rfl,h1,h2,fun h0=>?_⟩
 obtain⟨b,off,rfl,hX,hc⟩:=h3 h0
 refine⟨b,off,rfl,fun hy=>hX (hYX b hy),fun k hk=>?_⟩
 obtain⟨cs,hRc,hl,hcs⟩:=hc k hk
 exact⟨cs,hR cs _ (List.getElem_mem hk) hRc,hl,hcs⟩
theorem Sl.old (h:Sl No w sz R v xs) (hsz:0<sz) (hR:∀cs x,x∈xs->R cs x->R' cs x):Sl (fun b=>w.heap.size≤b) w sz R' v xs:=by
 obtain⟨A,cap,rfl,h1,h2,h3⟩:=h
 refine⟨A,cap,rfl,h1,h2,fun h0=>?_⟩
 obtain⟨b,off,rfl,hX,hc⟩:=h3 h0
 refine⟨b,off,rfl,?_,fun k hk=>?_⟩
 ·obtain⟨cs,_,hl,hcs⟩:=hc 0 h0
  have hv:cs[0]? =some (cs[0]'(by omega)):=lz8 (by omega)
  have:=hcs 0 hsz
  rw[hv] at this
  have:=lt_of_cell this
  omega
 ·obtain⟨cs,hRc,hl,hcs⟩:=hc k hk
  exact⟨cs,hR cs _ (List.getElem_mem hk) hRc,hl,hcs⟩
end
abbrev Str:=ByteArray
structure Knd where
 kind:Int
 name:Str
structure Ins where
 op:Int
 a:Int
 name:Str
 member:Str
structure Tag where
 kind:Int
 name:Str
structure Mp where
 at_:Int
 locals:List Tag
 stack:List Tag
structure Fld where
 name:Str
 kind:Knd
structure Mth where
 name:Str
 args:List Knd
 ret:Knd
 locals:Int
 stack:Int
 code:List Ins
 maps:List Mp
structure Cls where
 name:Str
 super:Str
 fields:List Fld
 methods:List Mth
structure Ask where
 name:Str
 keeper:Int
structure Kpr where
 owns:List Cls
 asks:List Ask
structure Plan where
 keepers:List Kpr
structure Ref where
 keeper:Int
 name:Str
def KndC (cs:List Value) (k:Knd):Prop:=cs=[.int .i64 k.kind,.string k.name]∧k.name.size≤maxLen
def TagC (cs:List Value) (t:Tag):Prop:=cs=[.int .i64 t.kind,.string t.name]∧t.name.size≤maxLen
def InsC (cs:List Value) (i:Ins):Prop:=cs=[.int .i64 i.op,.int .i64 i.a,.string i.name,.string i.member]∧i.name.size≤maxLen∧i.member.size≤maxLen
def FldC (cs:List Value) (f:Fld):Prop:=cs=[.string f.name,.int .i64 f.kind.kind,.string f.kind.name]∧f.name.size≤maxLen∧f.kind.name.size≤maxLen
def AskC (cs:List Value) (a:Ask):Prop:=cs=[.string a.name,.int .i64 a.keeper]∧a.name.size≤maxLen
def RefC (cs:List Value) (r:Ref):Prop:=cs=[.int .i64 r.keeper,.string r.name]∧r.name.size≤maxLen
def MapC (X:Nat->Prop) (w:World) (cs:List Value) (m:Mp):Prop:=
 ∃vl vs,cs=[.int .i64 m.at_,vl,vs]∧Sl X w 2 TagC vl m.locals∧Sl X w 2 TagC vs m.stack
def MthC (X:Nat->Prop) (w:World) (cs:List Value) (m:Mth):Prop:=
 ∃va vc vm,cs=[.string m.name,va,.int .i64 m.ret.kind,.string m.ret.name,.int .i64 m.locals,.int .i64 m.stack,vc,vm]∧m.name.size≤maxLen∧m.ret.name.size≤maxLen ∧
  Sl X w 2 KndC va m.args∧Sl X w 4 InsC vc m.code∧Sl X w 3 (MapC X w) vm m.maps
def ClsC (X:Nat->Prop) (w:World) (cs:List Value) (c:Cls):Prop:=
 ∃vf vm,cs=[.string c.name,.string c.super,vf,vm]∧c.name.size≤maxLen∧c.super.size≤maxLen∧Sl X w 3 FldC vf c.fields∧Sl X w 8 (MthC X w) vm c.methods
def KprC (X:Nat->Prop) (w:World) (cs:List Value) (k:Kpr):Prop:=
 ∃vo va,cs=[vo,va]∧Sl X w 4 (ClsC X w) vo k.owns∧Sl X w 2 AskC va k.asks
def zf9 (X:Nat->Prop) (w:World) (cs:List Value) (p:Plan):Prop:=∃vk,cs=[vk]∧Sl X w 2 (KprC X w) vk p.keepers
section
variable {X Y:Nat->Prop} {w w':World} {cs:List Value}
theorem MapC.keep {m:Mp} (h:MapC X w cs m) (hf:Fr Y w w') (hXY:∀b,Y b->X b):MapC X w' cs m:=by
 obtain⟨vl,vs,rfl,h1,h2⟩:=h
 exact⟨vl,vs,rfl,h1.keep hf hXY (fun _ _ _ h=>h),h2.keep hf hXY (fun _ _ _ h=>h)⟩
theorem MthC.keep {m:Mth} (h:MthC X w cs m) (hf:Fr Y w w') (hXY:∀b,Y b->X b):MthC X w' cs m:=by
 obtain⟨va,vc,vm,rfl,h1,h2,h3,h4,h5⟩:=h
 exact⟨va,vc,vm,rfl,h1,h2,h3.keep hf hXY (fun _ _ _ h=>h),h4.keep hf hXY (fun _ _ _ h=>h),h5.keep hf hXY (fun _ _ _ h=>h.keep hf hXY)⟩
theorem ClsC.keep {c:Cls} (h:ClsC X w cs c) (hf:Fr Y w w') (hXY:∀b,Y b->X b):ClsC X w' cs c:=by
 obtain⟨vf,vm,rfl,h1,h2,h3,h4⟩:=h
 exact⟨vf,vm,rfl,h1,h2,h3.keep hf hXY (fun _ _ _ h=>h),h4.keep hf hXY (fun _ _ _ h=>h.keep hf hXY)⟩
theorem KprC.keep {k:Kpr} (h:KprC X w cs k) (hf:Fr Y w w') (hXY:∀b,Y b->X b):KprC X w' cs k:=by
 obtain⟨vo,va,rfl,h1,h2⟩:=h
 exact⟨vo,va,rfl,h1.keep hf hXY (fun _ _ _ h=>h.keep hf hXY),h2.keep hf hXY (fun _ _ _ h=>h)⟩
theorem zf9.keep {p:Plan} (h:zf9 X w cs p) (hf:Fr Y w w') (hXY:∀b,Y b->X b):zf9 X w' cs p:=by
 obtain⟨vk,rfl,h1⟩:=h
 exact⟨vk,rfl,h1.keep hf hXY (fun _ _ _ h=>h.keep hf hXY)⟩
theorem MapC.weaken {m:Mp} (h:MapC X w cs m) (hYX:∀b,Y b->X b):MapC Y w cs m:=by
 obtain⟨vl,vs,rfl,h1,h2⟩:=h
 exact⟨vl,vs,rfl,h1.weaken hYX (fun _ _ _ h=>h),h2.weaken hYX (fun _ _ _ h=>h)⟩
theorem MthC.weaken {m:Mth} (h:MthC X w cs m) (hYX:∀b,Y b->X b):MthC Y w cs m:=by
 obtain⟨va,vc,vm,rfl,h1,h2,h3,h4,h5⟩:=h
 exact⟨va,vc,vm,rfl,h1,h2,h3.weaken hYX (fun _ _ _ h=>h),h4.weaken hYX (fun _ _ _ h=>h),h5.weaken hYX (fun _ _ _ h=>h.weaken hYX)⟩
theorem ClsC.weaken {c:Cls} (h:ClsC X w cs c) (hYX:∀b,Y b->X b):ClsC Y w cs c:=by
 obtain⟨vf,vm,rfl,h1,h2,h3,h4⟩:=h
 exact⟨vf,vm,rfl,h1,h2,h3.weaken hYX (fun _ _ _ h=>h),h4.weaken hYX (fun _ _ _ h=>h.weaken hYX)⟩
theorem KprC.weaken {k:Kpr} (h:KprC X w cs k) (hYX:∀b,Y b->X b):KprC Y w cs k:=by
 obtain⟨vo,va,rfl,h1,h2⟩:=h
 exact⟨vo,va,rfl,h1.weaken hYX (fun _ _ _ h=>h.weaken hYX),h2.weaken hYX (fun _ _ _ h=>h)⟩
theorem zf9.weaken {p:Plan} (h:zf9 X w cs p) (hYX:∀b,Y b->X b):zf9 Y w cs p:=by
 obtain⟨vk,rfl,h1⟩:=h
 exact⟨vk,rfl,h1.weaken hYX (fun _ _ _ h=>h.weaken hYX)⟩
end
section
variable {X:Nat->Prop} {w:World} {A:Option Addr} {n cap:Nat}
theorem Sl.cells {α:Type} {R:List Value->α->Prop} {sz:Nat} {xs:List α} (h:Sl X w sz R (.slice A n cap) xs) {k:Nat} (hk:k<xs.length):
  ∃b off cs,A=some ⟨b,off,none⟩∧¬X b∧R cs xs[k]∧∀j v,j<sz->cs[j]? =some v->w.cell? ⟨b,off+k * sz+j,none⟩=some v:=by
 obtain⟨_,_,_,h4⟩:=h.at_
 obtain⟨b,off,rfl,hX,cs,hR,hl,hc⟩:=h4 k hk
 exact⟨b,off,cs,rfl,hX,hR,fun j v hj hv=>(hc j hj).trans hv⟩
theorem Sl.knd {xs:List Knd} (h:Sl X w 2 KndC (.slice A n cap) xs) {k:Nat} (hk:k<xs.length):
  ∃b off,A=some ⟨b,off,none⟩∧¬X b∧w.cell? ⟨b,off+k * 2,none⟩=some (.int .i64 xs[k].kind)∧w.cell? ⟨b,off+k * 2+1,none⟩=some (.string xs[k].name)∧xs[k].name.size≤maxLen:=by
 obtain⟨b,off,cs,hA,hX,⟨rfl,hsz⟩,hc⟩:=h.cells hk
 exact⟨b,off,hA,hX,hc 0 _ (by decide) rfl,hc 1 _ (by decide) rfl,hsz⟩
theorem Sl.tag {xs:List Tag} (h:Sl X w 2 TagC (.slice A n cap) xs) {k:Nat} (hk:k<xs.length):
  ∃b off,A=some ⟨b,off,none⟩∧¬X b∧w.cell? ⟨b,off+k * 2,none⟩=some (.int .i64 xs[k].kind)∧w.cell? ⟨b,off+k * 2+1,none⟩=some (.string xs[k].name)∧xs[k].name.size≤maxLen:=by
 obtain⟨b,off,cs,hA,hX,⟨rfl,hsz⟩,hc⟩:=h.cells hk
 exact⟨b,off,hA,hX,hc 0 _ (by decide) rfl,hc 1 _ (by decide) rfl,hsz⟩
theorem Sl.ins {xs:List Ins} (h:Sl X w 4 InsC (.slice A n cap) xs) {k:Nat} (hk:k<xs.length):
  ∃b off,A=some ⟨b,off,none⟩∧¬X b∧w.cell? ⟨b,off+k * 4,none⟩=some (.int .i64 xs[k].op)∧w.cell? ⟨b,off+k * 4+1,none⟩=some (.int .i64 xs[k].a)∧w.cell? ⟨b,off+k * 4+2,none⟩=some (.string xs[k].name)∧w.cell? ⟨b,off+k * 4+3,none⟩=some (.string xs[k].member)∧xs[k].name.size≤maxLen∧xs[k].member.size≤maxLen:=by
 obtain⟨b,off,cs,hA,hX,⟨rfl,hsz⟩,hc⟩:=h.cells hk
 exact⟨b,off,hA,hX,hc 0 _ (by decide) rfl,hc 1 _ (by decide) rfl,hc 2 _ (by decide) rfl,hc 3 _ (by decide) rfl,hsz⟩
theorem Sl.fld {xs:List Fld} (h:Sl X w 3 FldC (.slice A n cap) xs) {k:Nat} (hk:k<xs.length):
  ∃b off,A=some ⟨b,off,none⟩∧¬X b∧w.cell? ⟨b,off+k * 3,none⟩=some (.string xs[k].name)∧w.cell? ⟨b,off+k * 3+1,none⟩=some (.int .i64 xs[k].kind.kind)∧w.cell? ⟨b,off+k * 3+2,none⟩=some (.string xs[k].kind.name)∧xs[k].name.size≤maxLen∧xs[k].kind.name.size≤maxLen:=by
 obtain⟨b,off,cs,hA,hX,⟨rfl,hsz⟩,hc⟩:=h.cells hk
 exact⟨b,off,hA,hX,hc 0 _ (by decide) rfl,hc 1 _ (by decide) rfl,hc 2 _ (by decide) rfl,hsz⟩
theorem Sl.ask {xs:List Ask} (h:Sl X w 2 AskC (.slice A n cap) xs) {k:Nat} (hk:k<xs.length):
  ∃b off,A=some ⟨b,off,none⟩∧¬X b∧w.cell? ⟨b,off+k * 2,none⟩=some (.string xs[k].name)∧w.cell? ⟨b,off+k * 2+1,none⟩=some (.int .i64 xs[k].keeper)∧xs[k].name.size≤maxLen:=by
 obtain⟨b,off,cs,hA,hX,⟨rfl,hsz⟩,hc⟩:=h.cells hk
 exact⟨b,off,hA,hX,hc 0 _ (by decide) rfl,hc 1 _ (by decide) rfl,hsz⟩
theorem Sl.map {xs:List Mp} (h:Sl X w 3 (MapC X w) (.slice A n cap) xs) {k:Nat} (hk:k<xs.length):
  ∃b off Al cl As cs,A=some ⟨b,off,none⟩∧¬X b∧w.cell? ⟨b,off+k * 3,none⟩=some (.int .i64 xs[k].at_)∧w.cell? ⟨b,off+k * 3+1,none⟩=some (.slice Al xs[k].locals.length cl)∧w.cell? ⟨b,off+k * 3+2,none⟩=some (.slice As xs[k].stack.length cs)∧Sl X w 2 TagC (.slice Al xs[k].locals.length cl) xs[k].locals∧Sl X w 2 TagC (.slice As xs[k].stack.length cs) xs[k].stack∧xs[k].locals.length≤cl∧xs[k].locals.length≤maxLen∧xs[k].stack.length≤cs∧xs[k].stack.length≤maxLen:=by
 obtain⟨b,off,cs,hA,hX,⟨vl,vs,rfl,hvl,hvs⟩,hc⟩:=h.cells hk
 obtain⟨Al,cl,rfl,pvl,qvl⟩:=hvl.form
 obtain⟨As,cs,rfl,pvs,qvs⟩:=hvs.form
 exact⟨b,off,Al,cl,As,cs,hA,hX,hc 0 _ (by decide) rfl,hc 1 _ (by decide) rfl,hc 2 _ (by decide) rfl,hvl,hvs,pvl,qvl,pvs,qvs⟩
theorem Sl.mth {xs:List Mth} (h:Sl X w 8 (MthC X w) (.slice A n cap) xs) {k:Nat} (hk:k<xs.length):
  ∃b off Aa ca Ac cc Am cm,A=some ⟨b,off,none⟩∧¬X b∧w.cell? ⟨b,off+k * 8,none⟩=some (.string xs[k].name)∧w.cell? ⟨b,off+k * 8+1,none⟩=some (.slice Aa xs[k].args.length ca)∧w.cell? ⟨b,off+k * 8+2,none⟩=some (.int .i64 xs[k].ret.kind)∧w.cell? ⟨b,off+k * 8+3,none⟩=some (.string xs[k].ret.name)∧w.cell? ⟨b,off+k * 8+4,none⟩=some (.int .i64 xs[k].locals)∧w.cell? ⟨b,off+k * 8+5,none⟩=some (.int .i64 xs[k].stack)∧w.cell? ⟨b,off+k * 8+6,none⟩=some (.slice Ac xs[k].code.length cc)∧w.cell? ⟨b,off+k * 8+7,none⟩=some (.slice Am xs[k].maps.length cm)∧xs[k].name.size≤maxLen∧xs[k].ret.name.size≤maxLen∧Sl X w 2 KndC (.slice Aa xs[k].args.length ca) xs[k].args∧Sl X w 4 InsC (.slice Ac xs[k].code.length cc) xs[k].code∧Sl X w 3 (MapC X w) (.slice Am xs[k].maps.length cm) xs[k].maps∧xs[k].args.length≤ca∧xs[k].args.length≤maxLen∧xs[k].code.length≤cc∧xs[k].code.length≤maxLen∧xs[k].maps.length≤cm∧xs[k].maps.length≤maxLen:=by
 obtain⟨b,off,cs,hA,hX,⟨va,vc,vm,rfl,z0,z1,hva,hvc,hvm⟩,hc⟩:=h.cells hk
 obtain⟨Aa,ca,rfl,pva,qva⟩:=hva.form
 obtain⟨Ac,cc,rfl,pvc,qvc⟩:=hvc.form
 obtain⟨Am,cm,rfl,pvm,qvm⟩:=hvm.form
 exact⟨b,off,Aa,ca,Ac,cc,Am,cm,hA,hX,hc 0 _ (by decide) rfl,hc 1 _ (by decide) rfl,hc 2 _ (by decide) rfl,hc 3 _ (by decide) rfl,hc 4 _ (by decide) rfl,hc 5 _ (by decide) rfl,hc 6 _ (by decide) rfl,hc 7 _ (by decide) rfl,z0,z1,hva,hvc,hvm,pva,qva,pvc,qvc,pvm,qvm⟩
theorem Sl.cls {xs:List Cls} (h:Sl X w 4 (ClsC X w) (.slice A n cap) xs) {k:Nat} (hk:k<xs.length):
  ∃b off Af cf Am cm,A=some ⟨b,off,none⟩∧¬X b∧w.cell? ⟨b,off+k * 4,none⟩=some (.string xs[k].name)∧w.cell? ⟨b,off+k * 4+1,none⟩=some (.string xs[k].super)∧w.cell? ⟨b,off+k * 4+2,none⟩=some (.slice Af xs[k].fields.length cf)∧w.cell? ⟨b,off+k * 4+3,none⟩=some (.slice Am xs[k].methods.length cm)∧xs[k].name.size≤maxLen∧xs[k].super.size≤maxLen∧Sl X w 3 FldC (.slice Af xs[k].fields.length cf) xs[k].fields∧Sl X w 8 (MthC X w) (.slice Am xs[k].methods.length cm) xs[k].methods∧xs[k].fields.length≤cf∧xs[k].fields.length≤maxLen∧xs[k].methods.length≤cm∧xs[k].methods.length≤maxLen:=by
 obtain⟨b,off,cs,hA,hX,⟨vf,vm,rfl,z0,z1,hvf,hvm⟩,hc⟩:=h.cells hk
 obtain⟨Af,cf,rfl,pvf,qvf⟩:=hvf.form
 obtain⟨Am,cm,rfl,pvm,qvm⟩:=hvm.form
 exact⟨b,off,Af,cf,Am,cm,hA,hX,hc 0 _ (by decide) rfl,hc 1 _ (by decide) rfl,hc 2 _ (by decide) rfl,hc 3 _ (by decide) rfl,z0,z1,hvf,hvm,pvf,qvf,pvm,qvm⟩
theorem Sl.kpr {xs:List Kpr} (h:Sl X w 2 (KprC X w) (.slice A n cap) xs) {k:Nat} (hk:k<xs.length):
  ∃b off Ao co Aa ca,A=some ⟨b,off,none⟩∧¬X b∧w.cell? ⟨b,off+k * 2,none⟩=some (.slice Ao xs[k].owns.length co)∧w.cell? ⟨b,off+k * 2+1,none⟩=some (.slice Aa xs[k].asks.length ca)∧Sl X w 4 (ClsC X w) (.slice Ao xs[k].owns.length co) xs[k].owns∧Sl X w 2 AskC (.slice Aa xs[k].asks.length ca) xs[k].asks∧xs[k].owns.length≤co∧xs[k].owns.length≤maxLen∧xs[k].asks.length≤ca∧xs[k].asks.length≤maxLen:=by
 obtain⟨b,off,cs,hA,hX,⟨vo,va,rfl,hvo,hva⟩,hc⟩:=h.cells hk
 obtain⟨Ao,co,rfl,pvo,qvo⟩:=hvo.form
 obtain⟨Aa,ca,rfl,pva,qva⟩:=hva.form
 exact⟨b,off,Ao,co,Aa,ca,hA,hX,hc 0 _ (by decide) rfl,hc 1 _ (by decide) rfl,hvo,hva,pvo,qvo,pva,qva⟩
theorem Bx.c1 {g:Nat} {t:TypeId} {c0:Value} (h:Bx w g t #[c0]):w.cell? ⟨g,0,none⟩=some c0:=h.cell 0
theorem Bx.c2 {g:Nat} {t:TypeId} {c0 c1:Value} (h:Bx w g t #[c0,c1]):w.cell? ⟨g,0,none⟩=some c0∧w.cell? ⟨g,1,none⟩=some c1:=
 ⟨h.cell 0,h.cell 1⟩
theorem Bx.c3 {g:Nat} {t:TypeId} {c0 c1 c2:Value} (h:Bx w g t #[c0,c1,c2]):w.cell? ⟨g,0,none⟩=some c0∧w.cell? ⟨g,1,none⟩=some c1∧w.cell? ⟨g,2,none⟩=some c2:=
 ⟨h.cell 0,h.cell 1,h.cell 2⟩
theorem Bx.c4 {g:Nat} {t:TypeId} {c0 c1 c2 c3:Value} (h:Bx w g t #[c0,c1,c2,c3]):w.cell? ⟨g,0,none⟩=some c0∧w.cell? ⟨g,1,none⟩=some c1∧w.cell? ⟨g,2,none⟩=some c2∧w.cell? ⟨g,3,none⟩=some c3:=
 ⟨h.cell 0,h.cell 1,h.cell 2,h.cell 3⟩
theorem Bx.c5 {g:Nat} {t:TypeId} {c0 c1 c2 c3 c4:Value} (h:Bx w g t #[c0,c1,c2,c3,c4]):w.cell? ⟨g,0,none⟩=some c0∧w.cell? ⟨g,1,none⟩=some c1∧w.cell? ⟨g,2,none⟩=some c2∧w.cell? ⟨g,3,none⟩=some c3∧w.cell? ⟨g,4,none⟩=some c4:=
 ⟨h.cell 0,h.cell 1,h.cell 2,h.cell 3,h.cell 4⟩
theorem Bx.c8 {g:Nat} {t:TypeId} {c0 c1 c2 c3 c4 c5 c6 c7:Value} (h:Bx w g t #[c0,c1,c2,c3,c4,c5,c6,c7]):w.cell? ⟨g,0,none⟩=some c0∧w.cell? ⟨g,1,none⟩=some c1∧w.cell? ⟨g,2,none⟩=some c2∧w.cell? ⟨g,3,none⟩=some c3∧w.cell? ⟨g,4,none⟩=some c4∧w.cell? ⟨g,5,none⟩=some c5∧w.cell? ⟨g,6,none⟩=some c6∧w.cell? ⟨g,7,none⟩=some c7:=
 ⟨h.cell 0,h.cell 1,h.cell 2,h.cell 3,h.cell 4,h.cell 5,h.cell 6,h.cell 7⟩
end
section
variable {P:Program} {X:Nat->Prop} {ops:Array Oper} {C:World->Prop} {Q:Act->Prop} {o:Oper} {rest:List Oper} {a:Act} {w:World}
theorem zga {v:Value} (hw:Region.wanted o (yielded ops a.tmps)=true) (h:∀W,C W->o.quietAt P a C W v) (hk:wpQuiet P ops C Q rest (a.put o.dst v)):wpQuiet P ops C Q (o :: rest) a:=by
 unfold wpQuiet;rw[if_pos hw];exact⟨v,h,hk⟩
theorem zgb (hw:Region.wanted o (yielded ops a.tmps)=false) (hk:wpQuiet P ops C Q rest (a.put o.dst undef)):wpQuiet P ops C Q (o :: rest) a:=by
 unfold wpQuiet;rw[if_neg (by rw[hw];exact Bool.false_ne_true)];exact hk
theorem zgc {id:Nat} {Q:Exit->Act->World->Prop} {l:List Oper} (hm:P.follows .mixedOrders=true) (hB:Region.lexB .any l.toArray=true)
  (h:wpQuiet P l.toArray (fun W=>Fr X w W) (fun a'=>∀w',Fr X w w'->Q .normal a' w') l a):(Code.region id l.toArray true).wp P Q a w:=
 wp_region_quiet (C:=fun W=>Fr X w W) hm hB (Fr.refl X w).drew (by simpa using h)
end
section
variable {w:World} {g:Nat} {t:TypeId} {cs cs':Array Value}
theorem Bx.new_ (hg:g=w.heap.size):Bx (w.alloc (.cells cs t)) g t cs:=by subst hg;exact Bx.new w t cs
theorem Bx.two (w:World) (t:TypeId) (cs:Array Value) (u:TypeId) (ds:Array Value):Bx ((w.alloc (.cells cs t)).alloc (.cells ds u)) w.heap.size t cs∧Bx ((w.alloc (.cells cs t)).alloc (.cells ds u)) (w.heap.size+1) u ds∧Fr No w ((w.alloc (.cells cs t)).alloc (.cells ds u)):=⟨(Bx.new_ rfl).alloc _,Bx.new_ (by simp),((Fr.refl No w).alloc _).alloc _⟩
theorem Bx.farO {p:Addr} (hp:g≠p.block) (h:Bx w g t cs) (u:Value):Bx (w.setCell p u) g t cs:=h.far hp u
theorem Bx.setc {i:Nat} {u:Value} (h:Bx w g t cs) (he:cs.setIfInBounds i u=cs'):Bx (w.setCell ⟨g,i,none⟩ u) g t cs':=he▸h.set_ i u
end
theorem fqc {P:Prop} (h:P:=by go_simp;(try simp only[↓IntWalk.iteOmega]);(try simp only[reduceIte]);first|done|exact rfl|exact⟨trivial,rfl⟩|exact⟨rfl,rfl⟩):P:=h
def putRow (w:World) (g:Nat):Nat->List Value->World
 | _,[]=>w
 | o,c :: cs=>putRow (w.setCell ⟨g,o,none⟩ c) g (o+1) cs
def setRow (arr:Array Value):Nat->List Value->Array Value
 | _,[]=>arr
 | o,c :: cs=>setRow (arr.setIfInBounds o c) (o+1) cs
theorem size_setRow:∀(cs:List Value) (arr:Array Value) (o:Nat),(setRow arr o cs).size=arr.size
 | [],_,_=>rfl
 | c :: cs,arr,o=>by rw[setRow,size_setRow cs];simp
theorem getElem?_setRow:∀(cs:List Value) (arr:Array Value) (o i:Nat),o+cs.length≤arr.size->(setRow arr o cs)[i]? =if o≤i∧i<o+cs.length then cs[i-o]? else arr[i]?
 | [],arr,o,i,_=>by rw[setRow,if_neg (by intro h;simp at h;omega)]
 | c :: cs,arr,o,i,h=>by
  simp only[List.length_cons] at h
  rw[setRow,getElem?_setRow cs _ _ _ (by simp;omega)]
  by_cases h1:o+1≤i∧i<o+1+cs.length
  ·rw[if_pos h1,if_pos (by simp;omega),show i-o=(i-(o+1))+1 by omega,lz4]
  ·rw[if_neg h1]
   by_cases h2:i=o
   ·subst h2
    rw[if_pos (by simp),Nat.sub_self,lz3,Array.getElem?_setIfInBounds_self_of_lt (by omega)]
   ·rw[if_neg (by simp;omega),Array.getElem?_setIfInBounds_ne (by omega)]
theorem Bx.putRow {g:Nat} {t:TypeId}:∀(cs:List Value) {arr:Array Value} (o:Nat) (w:World),Bx w g t arr->Bx (putRow w g o cs) g t (setRow arr o cs)
 | [],_,_,_,h=>h
 | c :: cs,_,o,_,h=>Bx.putRow cs (o+1) _ (h.set_ o c)
theorem Fr.putRow {X:Nat->Prop} {a:World} {g:Nat} (hg:a.heap.size≤g):∀(cs:List Value) (o:Nat) (w:World),Fr X a w->Fr X a (putRow w g o cs)
 | [],_,_,h=>h
 | c :: cs,o,_,h=>Fr.putRow hg cs (o+1) _ (h.setCell hg c)
def Fill {α:Type} (w:World) (g:Nat) (E:TypeId) (sz n k:Nat) (R:List Value->α->Prop) (xs:List α):Prop:=
 ∃arr:Array Value,Bx w g E arr∧arr.size=n * sz∧∀i (hx:i<xs.length),i<k->∃cs,R cs xs[i]∧cs.length=sz∧∀j,j<sz->arr[i * sz+j]? =cs[j]?
section
variable {α:Type} {X:Nat->Prop} {w w':World} {g:Nat} {E:TypeId} {sz n k:Nat} {R R':List Value->α->Prop} {xs:List α}
theorem Fill.start {arr:Array Value} (h:Bx w g E arr) (hs:arr.size=n * sz):Fill w g E sz n 0 R xs:=⟨arr,h,hs,fun i _ h=>absurd h (by omega)⟩
theorem Fill.new (w:World) (E:TypeId) (sz:Nat) (R:List Value->α->Prop) (xs:List α) (z:Array Value):Fill (w.alloc (.cells (madeCells z (xs.length * sz)) E)) w.heap.size E sz xs.length 0 R xs:=.start (Bx.new _ _ _) (size_madeCells _ _)
theorem Fill.newW (w:World) (E:TypeId) (sz:Nat) (R:World->List Value->α->Prop) (xs:List α) (z:Array Value):Fill (w.alloc (.cells (madeCells z (xs.length * sz)) E)) w.heap.size E sz xs.length 0 (R (w.alloc (.cells (madeCells z (xs.length * sz)) E))) xs:=.start (Bx.new _ _ _) (size_madeCells _ _)
theorem Fill.keep (h:Fill w g E sz n k R xs) (hf:Fr X w w') (hn:¬X g) (hR:∀cs x,x∈xs->R cs x->R' cs x):Fill w' g E sz n k R' xs:=by
 obtain⟨arr,hb,hs,hc⟩:=h
 exact⟨arr,hb.keepX hf hn,hs,fun i hx hi=>let ⟨cs,h1,h2,h3⟩:=hc i hx hi;⟨cs,hR cs _ (List.getElem_mem hx) h1,h2,h3⟩⟩
theorem Fill.step (h:Fill w g E sz n k R xs) (hk:k<n) (hx:k<xs.length) {cs:List Value} (hcs:R cs xs[k]) (hl:cs.length=sz):Fill (putRow w g (k * sz) cs) g E sz n (k+1) R xs:=by
 obtain⟨arr,hb,hs,hc⟩:=h
 have hle:k * sz+cs.length≤arr.size:=by
  rw[hs,hl]
  have:(k+1) * sz≤n * sz:=Nat.mul_le_mul_right sz hk
  rw[Nat.add_mul] at this;omega
 refine⟨_,hb.putRow cs (k * sz) w,by rw[size_setRow,hs],fun i hxi hi=>?_⟩
 by_cases hik:i=k
 ·subst hik
  refine⟨cs,hcs,hl,fun j hj=>?_⟩
  rw[getElem?_setRow _ _ _ _ hle,if_pos (by omega),show i * sz+j-i * sz=j by omega]
 ·obtain⟨cs',h1,h2,h3⟩:=hc i hxi (by omega)
  refine⟨cs',h1,h2,fun j hj=>?_⟩
  have:(i+1) * sz≤k * sz:=Nat.mul_le_mul_right sz (by omega)
  rw[Nat.add_mul] at this
  rw[getElem?_setRow _ _ _ _ hle,if_neg (by omega)]
  exact h3 j hj
theorem Fill.lt (h:Fill w g E sz n k R xs):g<w.heap.size:=let ⟨_,hb,_⟩:=h;hb.lt
theorem Fill.done (h:Fill w g E sz xs.length xs.length R xs) (hn:¬X g) (hm:xs.length≤maxLen):Sl X w sz R (.slice (some ⟨g,0,none⟩) xs.length xs.length) xs:=by
 obtain⟨arr,hb,hs,hc⟩:=h
 refine⟨_,_,rfl,Nat.le_refl _,hm,fun _=>⟨g,0,rfl,hn,fun k hk=>?_⟩⟩
 obtain⟨cs,h1,h2,h3⟩:=hc k hk hk
 refine⟨cs,h1,h2,fun j hj=>?_⟩
 rw[hb.cell,Nat.zero_add,h3 j hj]
theorem Fill.cell? (h:Fill w g E sz n k R xs) {o:Nat} (ho:o<n * sz):∃v,w.cell? ⟨g,o,none⟩=some v:=by
 obtain⟨arr,hb,hs,_⟩:=h
 exact⟨arr[o]'(by omega),by rw[hb.cell];exact Array.getElem?_eq_getElem (by omega)⟩
theorem Fill.frozen (h:Fill w g E sz n k R xs) (o:Nat):w.frozen? ⟨g,o,none⟩=false:=let ⟨_,hb,_⟩:=h;hb.frozen o
end
def sumL {α:Type} (f:α->Nat):List α->Nat
 | []=>0
 | x :: xs=>f x+sumL f xs
theorem zgf {α:Type} (f:α->Nat):∀xs ys:List α,sumL f (xs ++ ys)=sumL f xs+sumL f ys
 | [],ys=>by simp[sumL]
 | x :: xs,ys=>by simp[sumL,zgf f xs ys];omega
theorem zgg {α:Type} (f:α->Nat) (xs:List α) (k:Nat) (h:k<xs.length):sumL f (xs.take (k+1))=sumL f (xs.take k)+f xs[k]:=by
 rw[List.take_succ_eq_append_getElem h,zgf];simp[sumL]
theorem zgh {α:Type} (f:α->Nat) (xs:List α) (k:Nat):sumL f (xs.take k)≤sumL f xs:=by
 have h:=zgf f (xs.take k) (xs.drop k)
 rw[List.take_append_drop] at h;omega
theorem zgi {α:Type} (f:α->Nat) (xs:List α) (k:Nat) (h:k<xs.length):f xs[k]≤sumL f xs:=by
 have h1:=zgg f xs k h
 have h2:=zgh f xs (k+1)
 omega
def szL {α:Type} (f:α->Nat) (xs:List α):Nat:=xs.length+sumL f xs
theorem zgj {α:Type} (f:α->Nat) (xs:List α):xs.length≤szL f xs:=by unfold szL;omega
theorem zgk {α:Type} (f:α->Nat) (xs:List α) (k:Nat) (h:k<xs.length):f xs[k]≤szL f xs:=by have:=zgi f xs k h;unfold szL;omega
def zgl (b:Bool) (w:World) (e:Ending) (w':World):Prop:=e=.returned (.bool b)∧w=w'
theorem zgl.mk {b c:Bool} {w:World} (h:b=c):zgl c w (.returned (.bool b)) w:=⟨by rw[h],rfl⟩
def zgm (b:Bool) (w:World) (e:Ending) (w':World):Prop:=e=.returned (.bool b)∧Fr No w w'
theorem zgm.mk {b c:Bool} {w w':World} (h:b=c) (hf:Fr No w w'):zgm c w (.returned (.bool b)) w':=⟨by rw[h],hf⟩
def Gives (v:Value) (w:World) (e:Ending) (w':World):Prop:=e=.returned v∧Fr No w w'
theorem Gives.mk {v u:Value} {w w':World} (h:v=u) (hf:Fr No w w'):Gives u w (.returned v) w':=⟨by rw[h],hf⟩
theorem zgl.toFr {X:Nat->Prop} {b:Bool} {a W w':World} {e:Ending} (h:zgl b W e w') (hW:Fr X a W):e=.returned (.bool b)∧Fr X a w':=by
 obtain⟨h1,rfl⟩:=h;exact⟨h1,hW⟩
theorem zgm.toFr {X:Nat->Prop} {b:Bool} {a W w':World} {e:Ending} (h:zgm b W e w') (hW:Fr X a W):e=.returned (.bool b)∧Fr X a w':=⟨h.1,hW.trans0 h.2⟩
def zgn {α:Type} (R:(Nat->Prop)->World->List Value->α->Prop) (x:α) (w:World) (e:Ending) (w':World):Prop:=
 ∃cs,e=.returned (.agg cs.toArray)∧R (fun b=>b<w.heap.size) w' cs x∧Fr No w w'
theorem Fr.keep0 {w w':World} (h:Fr No w w') {b o:Nat} {v:Value} (hc:w.cell? ⟨b,o,none⟩=some v):w'.cell? ⟨b,o,none⟩=some v:=h.keep (fun _ h=>h) (fun h=>h) hc
theorem zgo {P:Program} (t e:TypeId) (z:Value) (size bytes:Nat) (ht:P.underlying t=some (.slice e)) (hi:(P.info? e).map (fun i=>(i.zero,i.size,i.bytes))=some (some z,size,bytes))
  (n:Nat) (hb:bytes * n≤281474976710656) (h63:n≤9223372036854775807) (w:World):
  (Instr.makeSlice t (.int .i64 (n:Int)) (.int .i64 (n:Int))).run P w=.ok (.slice (some ⟨w.heap.size,0,none⟩) n n) (w.alloc (.cells (madeCells z.cells (n * size)) e)):=by
 cases h:P.info? e with
 | none=>rw[h] at hi;cases hi
 | some i=>
  rw[h] at hi
  simp only[Option.map_some,Option.some.injEq,Prod.mk.injEq] at hi
  obtain⟨hz,rfl,rfl⟩:=hi
  have hb':(i.bytes:Int) * (n:Int)≤281474976710656:=by
   have h:((i.bytes * n:Nat):Int)≤281474976710656:=by omega
   rwa [Int.natCast_mul] at h
  have hr:=run_make (P:=P) w t e i z ht h hz .i64 .i64 n n (by omega) (by omega) hb' (by omega)
  simp only[Int.toNat_natCast] at hr
  exact hr
theorem frc {X:Nat->Prop} {a w:World} (h:Fr X a w:=by(repeat(first|(with_reducible assumption)|(with_reducible exact Fr.refl _ _)|(with_reducible refine Fr.alloc ?_ _)|(with_reducible refine Fr.drew ?_)|(with_reducible refine Fr.drewN ?_ _)|(with_reducible refine Fr.setCellO ?_ ?_ _;(focus (first|(dsimp only;omega)|(simp;done)|(simp;omega))))|(with_reducible refine Fr.trans0 ?_ (by assumption))|(with_reducible refine Fr.trans0 ?_ (Fr.of0 (by assumption)))))):Fr X a w:=h
theorem bxc {w:World} {g:Nat} {t:TypeId} {cs:Array Value} (h:Bx w g t cs:=by(repeat(first|(with_reducible assumption)|(with_reducible exact Bx.new_ rfl)|(with_reducible refine Bx.new_ ?_;(focus (simp;done)))|(with_reducible refine Bx.alloc ?_ _)|(with_reducible refine Bx.drew ?_)|(with_reducible refine Bx.farO ?_ ?_ _;(focus (dsimp only;omega)))|(with_reducible apply Bx.setc)|rfl))):Bx w g t cs:=h
theorem frx {X:Nat->Prop} {a w:World} (h:Fr X a w:=by(repeat(first|(with_reducible assumption)|(with_reducible exact Fr.refl _ _)|(with_reducible refine Fr.alloc ?_ _)|(with_reducible refine Fr.drew ?_)|(with_reducible refine Fr.drewN ?_ _)|(with_reducible refine Fr.setCellXO ?_ ?_ _;(focus (first|(dsimp only;omega)|omega|(simp;done)|(simp;omega))))|(with_reducible refine Fr.trans0 ?_ (by assumption))))):Fr X a w:=h
theorem Sl.k0 {α:Type}{X:Nat->Prop}{w W:World}{n:Nat}{R:List Value->α->Prop}{v:Value}{xs:List α}(h:Sl X w n R v xs)(hW:Fr No w W):Sl X W n R v xs:=h.keep hW zN (fun _ _ _ h=>h)
theorem kp {w:World}{b o:Nat}{v:Value}(hc:w.cell? ⟨b,o,none⟩=some v):∀W,Fr No w W->W.cell? ⟨b,o,none⟩=some v:=fun _ h=>h.keep0 hc
theorem Sl.kk {X Z:Nat->Prop} {w W:World} {v:Value} {ks:List Kpr} (h:Sl X w 2 (KprC Z w) v ks) (hW:Fr No w W):Sl X W 2 (KprC Z W) v ks:=h.keep hW zN (fun _ _ _ h=>h.keep hW zN)
end Go.Proofs.YtpghfhjhjlmljaaGreat
