/- The reference's l5Look: what is known ahead of each instruction of a method. -/
import Derived.Test.YthembcdcdnffeaaGreatEG32
namespace Go.Proofs.YthembcdcdnffeaaGreat
open Go.RowKit
theorem zdD:(Tryz.prog.info? tFrm).map (fun i=>(i.zero,i.size,i.bytes))=some (some (.agg #[.slice none 0 0,.slice none 0 0]),2,48):=by kernel_rfl
abbrev vnil:Value:=.slice none 0 0
def zdE (r:List Frm×Int) (w:World) (e:Ending) (w':World):Prop:=Fr No w w'∧∃v,e=.returned (.tuple #[v,.int .i64 r.2])∧Frms w' (fun q=>w.heap.size≤q) v r.1
structure LkI (p:Plan) (m:Mth) (A:Option Addr) (cap:Nat) (cm:Array Value) (fb:Nat) (w:World) (j:Nat) (f:Frm) (fl fs:Value) (out:Value) (outs:List Frm) (wr:World):Prop where
 bp:Bx wr w.heap.size 32 #[.slice A p.keepers.length cap]
 bm:Bx wr (w.heap.size+1) 60 cm
 bf:Bx wr fb tFr #[fl,fs]
 loc:Sl (fun b=>zcP out=some b∨b=fb) wr 2 TagC fl f.locals
 stk:Sl (fun b=>zcP out=some b∨b=fb) wr 2 TagC fs f.stack
 ll:(f.locals.length:Int)=m.locals
 sl:(f.stack.length:Int)≤m.stack
 os:Frms wr (fun q=>w.heap.size+2≤q∧q≠fb) out outs
 ol:outs.length=j
 fbn:w.heap.size+2≤fb
 fr:Fr No w wr
section
variable {p:Plan} {m:Mth} {A:Option Addr} {cap:Nat} {cm:Array Value} {fb:Nat} {w:World} {j:Nat} {f:Frm} {fl fs out:Value} {outs:List Frm} {wr W:World}
theorem LkI.keep0 (h:LkI p m A cap cm fb w j f fl fs out outs wr) (hf:Fr No wr W):LkI p m A cap cm fb w j f fl fs out outs W:=
 ⟨h.bp.keep hf,h.bm.keep hf,h.bf.keep hf,h.loc.k0 hf,h.stk.k0 hf,h.ll,h.sl,h.os.keep0 hf,h.ol,h.fbn,h.fr.trans0 hf⟩
theorem LkI.setF (h:LkI p m A cap cm fb w j f fl fs out outs wr) {g:Frm} {gl gs:Value} (h1:Sl (fun b=>zcP out=some b∨b=fb) wr 2 TagC gl g.locals) (h2:Sl (fun b=>zcP out=some b∨b=fb) wr 2 TagC gs g.stack) (h3:(g.locals.length:Int)=m.locals) (h4:(g.stack.length:Int)≤m.stack):
  LkI p m A cap cm fb w j g gl gs out outs ((wr.setCell ⟨fb,0,none⟩ gl).setCell ⟨fb,1,none⟩ gs):=by
 have hf:Fr (fun b=>b=fb) wr ((wr.setCell ⟨fb,0,none⟩ gl).setCell ⟨fb,1,none⟩ gs):=(Fr.one _ _ _ _).same (Fr.one _ _ _ _)
 have hn:=h.fbn
 exact⟨h.bp.keepX hf (by omega),h.bm.keepX hf (by omega),(h.bf.setc (i:=0) (u:=gl) rfl).setc (i:=1) (u:=gs) rfl,h1.keep hf (fun _ h=>.inr h) (fun _ _ _ h=>h),h2.keep hf (fun _ h=>.inr h) (fun _ _ _ h=>h),h3,h4,
  h.os.keep hf (fun b hb _=>hb.2) (fun _ h _=>h),h.ol,hn,h.fr.trans hf (fun b hb e=>by omega)⟩
theorem LkI.grown (h:LkI p m A cap cm fb w j f fl fs out outs wr) (hf0:Fr No wr W) {vl vs v':Value} {g':Nat} {W2:World} (hJ:FrmI W vl vs f) (hJq:∀q,rB vl vs q->wr.heap.size≤q) {kvs:List (Value×Value)}
  (h1:RowV wr tFrm 2 out outs.length (kvs.flatMap kvC)) (h2:kvs.length=outs.length) (h3:∀x∈kvs.zip outs,FrmR wr x.1 x.2) (h4:(kvs.flatMap kvB).Nodup) (h5:∀q∈kvs.flatMap kvB,w.heap.size+2≤q∧q≠fb) (h6:∀q,zcP out=some q->w.heap.size+2≤q∧q≠fb)
  (hrow:RowV W2 tFrm 2 v' (outs.length+1) (kvs.flatMap kvC ++ [vl,vs])) (hf:Fr (fun b=>zcP out=some b) W W2) (hor:zcP out=some g'∨g'=W.heap.size) (hv':zcP v'=some g'):
  Bx W2 w.heap.size 32 #[.slice A p.keepers.length cap]∧Bx W2 (w.heap.size+1) 60 cm∧Bx W2 fb tFr #[fl,fs]∧Sl (fun b=>zcP out=some b∨b=fb) W2 2 TagC fl f.locals∧Sl (fun b=>zcP out=some b∨b=fb) W2 2 TagC fs f.stack ∧
   Frms W2 (fun q=>w.heap.size+2≤q∧q≠fb) v' (outs ++ [f])∧Fr No w W2:=by
 have hfl:=h.bf.lt
 have hws:=h.fr.size
 have hbl:=h.bm.lt
 refine⟨(h.bp.keep hf0).keepX hf (fun e=>by have:=(h6 _ e).1;omega),(h.bm.keep hf0).keepX hf (fun e=>by have:=(h6 _ e).1;omega),(h.bf.keep hf0).keepX hf (fun e=>(h6 _ e).2 rfl),(h.loc.k0 hf0).keep hf (fun _ h=>.inl h) (fun _ _ _ h=>h),(h.stk.k0 hf0).keep hf (fun _ h=>.inl h) (fun _ _ _ h=>h),?_,(h.fr.trans0 hf0).trans hf (fun b hb e=>by have:=(h6 _ e).1;omega)⟩
 exact Frms.snoc (Y:=fun q=>w.heap.size+2≤q∧q≠fb) h1 h2 h3 h4 h5 h6 hf0 hJ.loc hJ.stk (fun q hq=>⟨hJq q (.inl hq),by have:=hJq q (.inl hq);omega,by have:=hJq q (.inl hq);omega⟩) (fun q hq=>⟨hJq q (.inr hq),by have:=hJq q (.inr hq);omega,by have:=hJq q (.inr hq);omega⟩) (fun q h1 h2=>hJ.apart q h1 h2) hrow hf hor hv' (fun b hb=>⟨by omega,by omega⟩)
end
def nwV (o:Option Frm) (n:Nat):Value->World->Prop:=resV vnil vnil o n
def nwA (o:Option Frm) (n:Nat):Value->World->Prop:=resA vnil vnil o n
theorem zdF (o:Option Frm) (n:Nat):MonP (nwV o n):=zlF _ _ _ _
theorem zdG (o:Option Frm) (n:Nat):MonP (nwA o n):=zlG _ _ _ _
def cpA (f:Frm) (n:Nat):Value->World->Prop:=fun v W=>∃Al cl As cs,v=.agg #[.slice Al f.locals.length cl,.slice As f.stack.length cs]∧FrmI W (.slice Al f.locals.length cl) (.slice As f.stack.length cs) f∧∀q,rB (.slice Al f.locals.length cl) (.slice As f.stack.length cs) q->n≤q
theorem zdH (f:Frm) (n:Nat):MonP (cpA f n):=fun _ _ _ ⟨Al,cl,As,cs,h1,h2,h3⟩ hf=>⟨Al,cl,As,cs,h1,h2.keep0 hf,h3⟩
def TagS (W W':World):Prop:=∃Z:Nat->Prop,Fr Z W W'∧∀b,Z b->∃cs,Bx W b tTag cs
theorem FrmI.tagS {W W':World} {vl vs:Value} {f:Frm} (h:FrmI W vl vs f) (hf:Fr (rB vl vs) W W'):TagS W W':=
 ⟨_,hf,fun _ hb=>hb.elim (fun h'=>h.loc.1.box h') (fun h'=>h.stk.1.box h')⟩
theorem zdI {t:TypeId} {cs:Array Value} {base:Nat} {v:Value} {W W':World} (hne:tTag≠t) (hs:TagS W W') (h:atB t cs base v W):atB t cs base v W':=by
 obtain⟨b,h1,h2,h3⟩:=h
 obtain⟨Z,hf,hz⟩:=hs
 refine⟨b,h1,h2.keepX hf (fun hb=>?_),h3⟩
 obtain⟨cs',hb'⟩:=hz b hb
 unfold Bx at hb' h2
 rw[hb'] at h2
 simp at h2
 exact hne h2.2
theorem zdJ {ul us:Value} {o:Option Frm} {n:Nat} {W w' w0:World} {e:Ending} {f:Frm} (hI:FrmI W ul us f) (hb:∀q,rB ul us q->n≤q) (hn:n=w0.heap.size) (h0:Fr No w0 W) (h:zfb ul us o W e w'):∃v,e=.returned v∧Fr No w0 w'∧TagS W w'∧nwV o n v w':=by
 subst hn
 have h2:=h.2.then (vl:=vnil) (vs:=vnil) (w0:=w0) h0.size (fun q hq=>.inr (hb q hq))
 obtain⟨A1,n1,c1,A2,n2,c2,rfl⟩:=h2.is
 exact⟨_,rfl,h0.trans h.1 (fun b hb' hq=>by have:=hb b hq;omega),hI.tagS h.1,A1,n1,c1,A2,n2,c2,rfl,h2⟩
theorem Frms.empty (W:World) (Y:Nat->Prop) (a:Addr):Frms W Y (.slice (some a) 0 0) []:=⟨[],.inr ⟨rfl,rfl,_,rfl⟩,rfl,by simp,by simp,by simp,fun q hq=>by rw[zcQ,if_pos rfl] at hq;cases hq⟩
theorem Frms.more {W:World} {Y Y':Nat->Prop} {v:Value} {fs:List Frm} (h:Frms W Y v fs) (hY:∀b,Y b->Y' b):Frms W Y' v fs:=h.keep (Fr.refl No W) (fun _ _ _ h=>h) (fun b h _=>hY b h)
theorem zdK {p:Plan} {k:Int} {m:Mth} {f g:Frm} {i:Ins} (hib:insB i=true) (h:insF p k m f i=some g) (hs:(f.stack.length:Int)≤m.stack):g.locals.length=f.locals.length∧(g.stack.length:Int)≤m.stack:=by
 have hpush:∀{st r:List Tag} {t:Tag},zcE m.stack st t=some r->(r.length:Int)≤m.stack:=fun {st r t} h=>by
  unfold zcE at h
  split at h
  ·cases h;simp;omega
  ·cases h
 have htake:∀{st:List Tag} {x:Tag×List Tag},zcD st=some x->x.2.length≤st.length:=fun {st x} h=>by
  rcases ze2 st with ⟨_,h1⟩ | ⟨ys,y,h0,h1⟩
  ·rw[h1] at h;cases h
  ·rw[h1] at h;cases h;rw[h0];simp
 rcases zii hib with h1|h1|h1|h1|h1|h1|h1|h1|h1|h1|h1|h1|h1|h1|h1
 ·rw[zmQ h1] at h
  obtain⟨r,hr,rfl⟩:=Option.map_eq_some_iff.1 h;exact⟨rfl,hpush hr⟩
 ·rw[zcs h1] at h
  split at h
  ·cases h
  ·obtain⟨r,hr,rfl⟩:=Option.map_eq_some_iff.1 h;exact⟨rfl,hpush hr⟩
 ·rw[zct h1] at h
  obtain⟨r,hr,rfl⟩:=Option.map_eq_some_iff.1 h;exact⟨by simp,by have:=htake hr;simp only;omega⟩
 ·rw[zcu h1] at h
  obtain⟨r,hr,rfl⟩:=Option.map_eq_some_iff.1 h
  obtain⟨s1,_,hr⟩:=Option.bind_eq_some_iff.1 hr
  obtain⟨s2,_,hr⟩:=Option.bind_eq_some_iff.1 hr
  exact⟨rfl,hpush hr⟩
 ·rw[zmR h1] at h
  obtain⟨r,hr,rfl⟩:=Option.map_eq_some_iff.1 h;exact⟨rfl,hpush hr⟩
 ·rw[zmS h1] at h
  obtain⟨r,hr,rfl⟩:=Option.map_eq_some_iff.1 h;exact⟨rfl,hpush hr⟩
 ·rw[zid h1] at h
  split at h
  ·obtain⟨r,hr,rfl⟩:=Option.map_eq_some_iff.1 h
   obtain⟨s1,_,hr⟩:=Option.bind_eq_some_iff.1 hr
   exact⟨rfl,hpush hr⟩
  ·cases h
 ·rw[zie h1] at h
  split at h
  ·obtain⟨r,hr,rfl⟩:=Option.map_eq_some_iff.1 h
   obtain⟨s1,h1,hr⟩:=Option.bind_eq_some_iff.1 hr
   have:=zkU h1
   have:=zkU hr
   exact⟨rfl,by simp only;omega⟩
  ·cases h
 ·rw[zif h1] at h
  split at h
  ·obtain⟨r,hr,rfl⟩:=Option.map_eq_some_iff.1 h
   obtain⟨s1,_,hr⟩:=Option.bind_eq_some_iff.1 hr
   obtain⟨s2,_,hr⟩:=Option.bind_eq_some_iff.1 hr
   exact⟨rfl,hpush hr⟩
  ·cases h
 ·rw[zih h1] at h
  obtain⟨r,hr,rfl⟩:=Option.map_eq_some_iff.1 h;have:=zkU hr;exact⟨rfl,by simp only;omega⟩
 ·rw[zmT (.inl h1)] at h
  obtain⟨r,hr,rfl⟩:=Option.map_eq_some_iff.1 h;have:=zkU hr;exact⟨rfl,by simp only;omega⟩
 ·rw[zmU h1] at h
  obtain⟨r,hr,rfl⟩:=Option.map_eq_some_iff.1 h;have:=zcx hr;exact⟨rfl,by simp only;omega⟩
 ·rw[zmV h1] at h
  cases h;exact⟨rfl,hs⟩
 ·rw[zmT (.inr h1)] at h
  obtain⟨r,hr,rfl⟩:=Option.map_eq_some_iff.1 h;have:=zkU hr;exact⟨rfl,by simp only;omega⟩
 ·rw[zcv h1] at h
  obtain⟨r,hr,rfl⟩:=Option.map_eq_some_iff.1 h
  obtain⟨s1,_,hr⟩:=Option.bind_eq_some_iff.1 hr
  exact⟨rfl,hpush hr⟩
theorem zdL {m:Mth} (h:mthB m=true):∀x∈m.maps,(x.locals.length:Int)=m.locals∧(x.stack.length:Int)≤m.stack:=by
 obtain⟨_,_,_,_,_,_,_,_,h9⟩:=ze7 h
 unfold zf4 at h9
 simp only[lz5] at h9
 have:∀(xs:List Mp) (len locals stack last:Int),zf3 len locals stack last xs=true->∀x∈xs,(x.locals.length:Int)=locals∧(x.stack.length:Int)≤stack:=by
  intro xs
  induction xs with
  | nil=>intro _ _ _ _ _ x hx;cases hx
  | cons y ys ih=>
   intro len locals stack last hh x hx
   rw[zf3] at hh
   simp only[lz5] at hh
   rcases List.mem_cons.1 hx with rfl|hx
   ·have:=hh.1
    unfold zfY at this
    simp only[lz5,decide_eq_true_eq] at this
    omega
   ·exact ih _ _ _ _ hh.2 x hx
 exact this _ _ _ _ _ h9.2
theorem zdM {m:Mth} (h:mthB m=true) {j:Int} {x:Mp} (hx:mapF m j=some x):(x.locals.length:Int)=m.locals∧(x.stack.length:Int)≤m.stack:=zdL h x (List.mem_of_find?_eq_some hx)
end Go.Proofs.YthembcdcdnffeaaGreat
