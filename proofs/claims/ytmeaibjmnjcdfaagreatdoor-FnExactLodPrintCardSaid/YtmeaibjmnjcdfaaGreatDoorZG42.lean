/- Whether a class can be laid out (the program's own check, looked at once and noted); the method of a name that a thing does. -/
import Derived.Test.YtmeaibjmnjcdfaaGreatDoorZG41
import Derived.Test.YtmeaibjmnjcdfaaGreatDoorZG40
namespace Go.Proofs.YtmeaibjmnjcdfaaGreatDoor
open Go.RowKit Go.Shelf
def Right (p:Plan) (g:Int->Str->Option Int):Prop:=∀k s v,g k s=some v->v=if canB p ⟨k,s⟩ then 1 else 2
def Lg (w:World) (l bl n:Nat) (p:Plan):Prop:=∃g,zgF w l bl n p g∧Right p g
theorem Lg.keep {w w':World} {l bl n:Nat} {p:Plan} (h:Lg w l bl n p) (hf:Fr No w w'):Lg w' l bl n p:=let ⟨g,h1,h2⟩:=h;⟨g,h1.keep hf,h2⟩
theorem Lg.ok {w:World} {l bl n:Nat} {p:Plan} (h:Lg w l bl n p):lodB p=true:=let ⟨_,h1,_⟩:=h;h1.1
def zjn (p:Plan) (r:Ref) (l bl n:Nat) (w:World) (e:Ending) (w':World):Prop:=
 e=.returned (.bool (canB p r))∧Fr (fun b=>b=bl) w w'∧Lg w' l bl (n+1) p
theorem zjn.mk {p:Plan} {r:Ref} {l bl n:Nat} {w w':World} {b:Bool} (hb:canB p r=b) (hf:Fr (fun b=>b=bl) w w') (hl:Lg w' l bl (n+1) p):zjn p r l bl n w (.returned (.bool b)) w':=⟨by rw[hb],hf,hl⟩
theorem Right.put {p:Plan} {g:Int->Str->Option Int} {r:Ref} {v:Int} (h:Right p g) (hv:v=if canB p r then 1 else 2):Right p (upd g r.keeper r.name v):=fun k s u hu=>by
 unfold upd at hu
 by_cases hks:k=r.keeper∧s=r.name
 ·rw[if_pos hks] at hu
  obtain⟨rfl,rfl⟩:=hks
  cases hu
  exact hv
 ·rw[if_neg hks] at hu
  exact h k s u hu
theorem zgF.mono {w:World} {l bl n m:Nat} {p:Plan} {g:Int->Str->Option Int} (h:zgF w l bl n p g) (hm:n≤m):zgF w l bl m p g:=by
 obtain⟨h0,A,cap,bo,ba,h1,h2,h3,h4,h5,h6,h7,h8⟩:=h
 exact⟨h0,A,cap,bo,ba,h1,h2,h3,h4,h5,h6,h7,h8.mono hm⟩
theorem zgF.put {w w':World} {l bl n m:Nat} {p:Plan} {g g':Int->Str->Option Int} (h:zgF w l bl n p g) (hf:Fr (fun b=>b=bl) w w') (hM:MapF w' bl m g'):zgF w' l bl m p g':=by
 obtain⟨h0,A,cap,bo,ba,h1,h2,h3,h4,h5,h6,h7,h8⟩:=h
 exact⟨h0,A,cap,bo,ba,h1.keepX hf h2,h2,h3,h4,h5.keep hf (fun _ h=>h) (fun _ _ _ h=>h.keep hf (fun _ h=>h)),h6.keepX hf h3,h7.keepX hf h4,hM⟩
theorem Sl.oldX {α:Type} {X:Nat->Prop} {w:World} {sz:Nat} {R R':List Value->α->Prop} {v:Value} {xs:List α} (h:Sl X w sz R v xs) (hsz:0<sz) (hR:∀cs x,x∈xs->R cs x->R' cs x):Sl (fun b=>X b∨w.heap.size≤b) w sz R' v xs:=by
 obtain⟨A,cap,rfl,h1,h2,h3⟩:=h
 refine⟨A,cap,rfl,h1,h2,fun h0=>?_⟩
 obtain⟨b,off,rfl,hX,hc⟩:=h3 h0
 refine⟨b,off,rfl,?_,fun k hk=>?_⟩
 ·obtain⟨cs,_,hl,hcs⟩:=hc 0 h0
  have hv:cs[0]? =some (cs[0]'(by omega)):=lz8 (by omega)
  have:=hcs 0 hsz
  rw[hv] at this
  have:=lt_of_cell this
  rintro(h|h)
  ·exact hX h
  ·omega
 ·obtain⟨cs,hRc,hl,hcs⟩:=hc k hk
  exact⟨cs,hR cs _ (List.getElem_mem hk) hRc,hl,hcs⟩
section
variable {X:Nat->Prop} {w:World} {cs:List Value}
theorem MapC.oldX {m:Mp} (h:MapC X w cs m):MapC (fun b=>X b∨w.heap.size≤b) w cs m:=by
 obtain⟨vl,vs,rfl,h1,h2⟩:=h
 exact⟨vl,vs,rfl,h1.oldX (by decide) (fun _ _ _ h=>h),h2.oldX (by decide) (fun _ _ _ h=>h)⟩
theorem MthC.oldX {m:Mth} (h:MthC X w cs m):MthC (fun b=>X b∨w.heap.size≤b) w cs m:=by
 obtain⟨va,vc,vm,rfl,h1,h2,h3,h4,h5⟩:=h
 exact⟨va,vc,vm,rfl,h1,h2,h3.oldX (by decide) (fun _ _ _ h=>h),h4.oldX (by decide) (fun _ _ _ h=>h),h5.oldX (by decide) (fun _ _ _ h=>h.oldX)⟩
theorem ClsC.oldX {c:Cls} (h:ClsC X w cs c):ClsC (fun b=>X b∨w.heap.size≤b) w cs c:=by
 obtain⟨vf,vm,rfl,h1,h2,h3,h4⟩:=h
 exact⟨vf,vm,rfl,h1,h2,h3.oldX (by decide) (fun _ _ _ h=>h),h4.oldX (by decide) (fun _ _ _ h=>h.oldX)⟩
theorem KprC.oldX {k:Kpr} (h:KprC X w cs k):KprC (fun b=>X b∨w.heap.size≤b) w cs k:=by
 obtain⟨vo,va,rfl,h1,h2⟩:=h
 exact⟨vo,va,rfl,h1.oldX (by decide) (fun _ _ _ h=>h.oldX),h2.oldX (by decide) (fun _ _ _ h=>h)⟩
end
theorem zgF.over {w w1 w':World} {l bl n m:Nat} {p:Plan} {g g1:Int->Str->Option Int} (h:zgF w l bl n p g) (h1:zgF w1 l bl m p g1) (hf:Fr (fun b=>b=bl) w w1) (hf':Fr (fun b=>w.heap.size≤b) w1 w'):zgF w' l bl m p g1:=by
 obtain⟨h0,A,cap,bo,ba,k1,k2,k3,k4,k5,k6,k7,k8⟩:=h
 obtain⟨_,_,_,_,_,_,_,_,_,_,_,_,q8⟩:=h1
 have hb:=k8.lt
 have F:Fr (fun b=>b=bl∨w.heap.size≤b) w w':=⟨hf'.os.trans hf.os,hf'.tape.trans hf.tape,hf'.output.trans hf.output,Nat.le_trans hf.size hf'.size,fun b hb hn=>
  (hf'.block b (Nat.lt_of_lt_of_le hb hf.size) (fun h=>hn (.inr h))).trans (hf.block b hb (fun h=>hn (.inl h)))⟩
 have nb:∀b,b<w.heap.size->b≠bl->¬(b=bl∨w.heap.size≤b):=fun b h1 h2 h=>by rcases h with h|h<;>omega
 refine⟨h0,A,cap,bo,ba,k1.keepX F (nb l k1.lt k2),k2,k3,k4,?_,k6.keepX F (nb bo k6.lt k3),k7.keepX F (nb ba k7.lt k4),q8.keepX hf' (by omega)⟩
 have k5':=((k5.oldX (R':=KprC (fun b=>b=bl∨w.heap.size≤b) w) (by decide) (fun _ _ _ h=>h.oldX)).keep (R':=KprC (fun b=>b=bl∨w.heap.size≤b) w') F (fun _ h=>h) (fun _ _ _ h=>h.keep F (fun _ h=>h)))
 exact k5'.weaken (fun _ h=>.inl h) (fun _ _ _ h=>h.weaken (fun _ h=>.inl h))
theorem Lg.over {w w1 w':World} {l bl n m:Nat} {p:Plan} (h:Lg w l bl n p) (h1:Lg w1 l bl m p) (hf:Fr (fun b=>b=bl) w w1) (hf':Fr (fun b=>w.heap.size≤b) w1 w'):Lg w' l bl m p:=by
 obtain⟨g,h,_⟩:=h
 obtain⟨g1,h1,h2⟩:=h1
 exact⟨g1,h.over h1 hf hf',h2⟩
theorem Lg.mono {w:World} {l bl n m:Nat} {p:Plan} (h:Lg w l bl n p) (hm:n≤m):Lg w l bl m p:=let ⟨g,h1,h2⟩:=h;⟨g,h1.mono hm,h2⟩
theorem Lg.lt {w:World} {l bl n:Nat} {p:Plan} (h:Lg w l bl n p):bl<w.heap.size:=by
 obtain⟨g,⟨_,A,cap,bo,ba,_,_,_,_,_,_,_,hM⟩,_⟩:=h
 exact hM.lt
def zjr (o:Option (Ref×Int)) (p:Plan) (l bl n:Nat) (w:World) (e:Ending) (w':World):Prop:=
 e=.returned (zku o)∧Fr (fun b=>b=bl) w w'∧Lg w' l bl n p
theorem zjr.mk {o:Option (Ref×Int)} {p:Plan} {l bl n:Nat} {w w':World} {v:Value} (hv:zku o=v) (hf:Fr (fun b=>b=bl) w w') (hl:Lg w' l bl n p):zjr o p l bl n w (.returned v) w':=⟨by rw[hv],hf,hl⟩
def zjt (q r:Ref):Bool:=decide (q.keeper=r.keeper)&&(q.name.toList == r.name.toList)
def zjB (p:Plan) (rs:List Ref):List (Ref×Fld):=rs.flatMap fun r=>(zbG p r).fields.map (r,·)
def zjE (p:Plan):List Ref->Ref->Nat
 | [],_=>0
 | r :: rs,q=>if zjt r q then 0 else (zbG p r).fields.length+zjE p rs q
structure LFld where
 of_:Ref
 at_:Int
 kind:Knd
def zjH (i:Nat):List (Ref×Fld)->List LFld
 | []=>[]
 | x :: xs=>⟨x.1,i,x.2.kind⟩ :: zjH (i+1) xs
def zj3 (f:LFld):List Value:=[.int .i64 f.of_.keeper,.string f.of_.name,.int .i64 f.at_,.int .i64 f.kind.kind,.string f.kind.name]
def zj4 (cs:List Value) (f:LFld):Prop:=cs=zj3 f∧f.of_.name.size≤maxLen∧f.kind.name.size≤maxLen
attribute [local go_sem] Oper.semAt_some
def accJ (p:Plan) (rs:List Ref) (j:Nat):List LFld:=zjH 0 (zjB p (rs.reverse.take j))
attribute [local go_sem] Oper.semAt_some
theorem zdN:∀(pre:List LFld) (k:Nat) (hk:k<pre.length) (j:Nat),j<5->(pre.flatMap zj3)[k * 5+j]? =(zj3 pre[k])[j]?
 | a :: pre,0,_,j,hj=>by
  rw[List.flatMap_cons,List.getElem?_append_left (by simp[zj3];omega)]
  simp
 | a :: pre,k+1,hk,j,hj=>by
  rw[List.flatMap_cons,List.getElem?_append_right (by simp[zj3];omega)]
  have:=zdN pre k (by simpa using hk) j hj
  have e:(k+1) * 5+j-(zj3 a).length=k * 5+j:=by simp[zj3];omega
  rw[e,this]
  simp
structure Rw (A:Option Addr) (g L:Nat) (C:Nat->Value) (w:World):Prop where
 at_:0<L->A=some ⟨g,0,none⟩∧(∀o,w.frozen? ⟨g,o,none⟩=false)∧g<w.heap.size
 cells:∀i,i<L * 5->w.cell? ⟨g,0+i,none⟩=some (C i)
theorem Rw.keep {A:Option Addr} {g L:Nat} {C:Nat->Value} {X:Nat->Prop} {w w':World} (h:Rw A g L C w) (hf:Fr X w w') (hX:¬X g):Rw A g L C w':=by
 refine⟨fun h0=>?_,fun i hi=>?_⟩
 ·obtain⟨h1,h2,h3⟩:=h.at_ h0
  exact⟨h1,fun o=>by rw[hf.frozenX o h3 hX];exact h2 o,Nat.lt_of_lt_of_le h3 hf.size⟩
 ·have h3:=(h.at_ (by omega)).2.2
  rw[hf.cellX _ h3 hX]
  exact h.cells i hi
theorem Rw.marked {A:Option Addr} {g L:Nat} {C:Nat->Value} {k:Int} {w w':World} (h:Rw A g L C w) (hm:Mk5 g 0 k w (L * 5) w'):Rw A g L (zzo k) w':=by
 refine⟨fun h0=>?_,hm.cells⟩
 obtain⟨h1,h2,h3⟩:=h.at_ h0
 exact⟨h1,fun o=>by rw[hm.tw.froz g o h3];exact h2 o,Nat.lt_of_lt_of_le h3 hm.tw.fr.size⟩
def flC (F:List LFld) (i:Nat):Value:=((F.flatMap zj3)[i]?).getD undef
theorem zzv (F:List LFld) (k:Nat) (hk:k<F.length) (j:Nat) (hj:j<5):(zj3 F[k])[j]? =some (flC F (k * 5+j)):=by
 rw[flC,zdN F k hk j hj,lz8 (by simp[zj3];omega)]
 rfl
theorem Rw.sl {A:Option Addr} {g cap:Nat} {F:List LFld} {X:Nat->Prop} {w:World} (h:Rw A g F.length (flC F) w) (hX:¬X g) (h1:F.length≤cap) (h2:F.length≤maxLen) (hn:∀x∈F,x.of_.name.size≤maxLen∧x.kind.name.size≤maxLen):Sl X w 5 zj4 (.slice A F.length cap) F:=by
 refine⟨_,cap,rfl,h1,h2,fun h0=>?_⟩
 refine⟨g,0,(h.at_ h0).1,hX,fun k hk=>⟨zj3 F[k],⟨rfl,hn _ (List.getElem_mem hk)⟩,rfl,fun j hj=>?_⟩⟩
 have e:=h.cells (k * 5+j) (by omega)
 rw[zzv F k hk j hj,<-e,Nat.add_assoc]
theorem Rw.sorts {A:Option Addr} {g:Nat} {F:List LFld} {w:World} (h:Rw A g F.length (flC F) w):∀i,i<F.length * 5->∃v,w.cell? ⟨g,0+i,none⟩=some v∧LkV (zzo 0 i) v:=fun i hi=>by
 refine⟨_,h.cells i hi,?_⟩
 have hk:i / 5<F.length:=by omega
 have e:=zzv F (i / 5) hk (i % 5) (by omega)
 rw[show i / 5 * 5+i % 5=i by omega] at e
 have h5:i % 5<5:=by omega
 unfold zzo zj3 at *
 generalize flC F i=u at *
 generalize i % 5=j at *
 match j,h5 with
 | 0,_=>cases e;rw[if_neg (by decide)];exact .inr (.inl ⟨_,_,rfl,rfl⟩)
 | 1,_=>cases e;rw[if_pos (by decide)];exact .inr (.inr ⟨_,_,rfl,rfl⟩)
 | 2,_=>cases e;rw[if_neg (by decide)];exact .inr (.inl ⟨_,_,rfl,rfl⟩)
 | 3,_=>cases e;rw[if_neg (by decide)];exact .inr (.inl ⟨_,_,rfl,rfl⟩)
 | 4,_=>cases e;rw[if_pos (by decide)];exact .inr (.inr ⟨_,_,rfl,rfl⟩)
end Go.Proofs.YtmeaibjmnjcdfaaGreatDoor
