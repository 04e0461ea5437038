/- The reference's class that is there. -/
import Derived.Test.YtmeaibjmnjcdfaaGreatVG20
import Derived.Test.YtmeaibjmnjcdfaaGreatVG12
import Derived.Test.YtmeaibjmnjcdfaaGreatVG17
import Derived.Test.YtmeaibjmnjcdfaaGreatVG2
import Derived.Deep.RegionHeld3
import Derived.OwnWalk
import Derived.Laws.CopyOwn
namespace Go.Proofs.YtmeaibjmnjcdfaaGreat
open Go.RowKit
def zaV (o:Option (List Ref)) (w:World) (e:Ending) (w':World):Prop:=
 ∃v,e=.returned (.tuple #[v,.bool o.isSome])∧Sl No w' 2 RefC v (o.getD [])∧Fr No w w'
theorem Sl.none_ {α:Type} {X:Nat->Prop} {w:World} {sz:Nat} {R:List Value->α->Prop} (A:Option Addr) (c:Nat):Sl X w sz R (.slice A 0 c) []:=
 ⟨A,c,rfl,Nat.zero_le _,Nat.zero_le _,fun h=>absurd h (by simp)⟩
theorem zaV.no {o:Option (List Ref)} {w w':World} {A:Option Addr} {c:Nat} (h:o=none) (hf:Fr No w w'):zaV o w (.returned (.tuple #[.slice A 0 c,.bool false])) w':=by
 subst h;exact⟨_,rfl,Sl.none_ A c,hf⟩
theorem zaV.yes {o:Option (List Ref)} {w w':World} {v:Value} {xs:List Ref} (h:o=some xs) (hs:Sl No w' 2 RefC v xs) (hf:Fr No w w'):zaV o w (.returned (.tuple #[v,.bool true])) w':=by
 subst h;exact⟨_,rfl,hs,hf⟩
theorem za1 {p:Plan} {k:Nat} (h:k<p.keepers.length):hasK p k=true:=by
 unfold hasK
 rw[decide_eq_true (show(0:Int)≤k by omega),decide_eq_true (show(k:Int)<p.keepers.length by omega)];rfl
theorem za2 {p:Plan} {k:Nat} {s:Str} (h:k<p.keepers.length):zbf p k s=whose p k s:=by unfold zbf;rw[za1 h];rfl
theorem za3 {p:Plan} {k:Int} {s:Str} {r:Ref} {pre:List Ref} (h:zbf p k s=(r,1)) (hc:chainOf p r=some pre):zmD p k s=(r,1):=by
 unfold zmD;rw[h,hc];rfl
theorem zmG.none_ {w w':World} {xs:List Ref} {A:Option Addr} {c:Nat} (h:xs=[]) (hf:Fr No w w'):zmG xs w (.returned (.slice A 0 c)) w':=by subst h;exact⟨_,rfl,Sl.none_ A c,hf⟩
theorem Sl.drop {α:Type} {X:Nat->Prop} {w:World} {sz:Nat} {R:List Value->α->Prop} {b off n cap k:Nat} {xs:List α} (h:Sl X w sz R (.slice (some ⟨b,off,none⟩) n cap) xs) (hk:k<xs.length):
  Sl X w sz R (.slice (some ⟨b,off+k * sz,none⟩) (n-k) (cap-k)) (xs.drop k):=by
 obtain⟨A',cap',he,h1,h2,h3⟩:=h
 simp only[Value.slice.injEq] at he
 obtain⟨rfl,rfl,rfl⟩:=he
 refine⟨_,_,by rw[List.length_drop],by rw[List.length_drop];omega,by rw[List.length_drop];omega,fun _=>?_⟩
 obtain⟨b',off',he,hX,hc⟩:=h3 (by omega)
 simp only[Option.some.injEq,Addr.mk.injEq,and_true] at he
 obtain⟨rfl,rfl⟩:=he
 refine⟨b,off+k * sz,rfl,hX,fun j hj=>?_⟩
 rw[List.length_drop] at hj
 obtain⟨cs,hR,hl,hcs⟩:=hc (k+j) (by omega)
 refine⟨cs,by rw[List.getElem_drop];exact hR,hl,fun i hi=>?_⟩
 rw[<-hcs i hi,Nat.add_mul,Nat.add_assoc off]
theorem zhb.drop {p:Plan} {rs:List Ref} (h:zhb p rs) (k:Nat):zhb p (rs.drop k):=fun r hr=>h r (List.mem_of_mem_drop hr)
def zku:Option (Ref×Int)->Value
 | none=>.tuple #[.agg #[.int .i64 0,.string ⟨#[]⟩,.int .i64 0],.bool false]
 | some (r,i)=>.tuple #[.agg #[.int .i64 r.keeper,.string r.name,.int .i64 i],.bool true]
theorem Gives.toFr {X:Nat->Prop} {v:Value} {a W w':World} {e:Ending} (h:Gives v W e w') (hW:Fr X a W):e=.returned v∧Fr X a w':=⟨h.1,hW.trans0 h.2⟩
theorem Gives.mk1 {v u:Value} {w w':World} (h:u=v) (hf:Fr No w w'):Gives v w (.returned u) w':=⟨by rw[h],hf⟩
structure AR where
 p:Value->World->Prop
 u:Bool
 g:Bool
 v:Option Value
 mono:MonP p
 val:∀x,v=some x->p=isV x
 no:g=false->u=false∧p=isV undef
def aV (x:Value):AR:=⟨isV x,false,true,some x,zaz x,fun _ h=>by cases h;rfl,nofun⟩
def aC (p:Value->World->Prop) (h:MonP p):AR:=⟨p,false,true,none,h,nofun,nofun⟩
def aX (x:Value):AR:=⟨isV x,true,true,some x,zaz x,fun _ h=>by cases h;rfl,nofun⟩
def aW (p:Value->World->Prop) (h:MonP p):AR:=⟨p,true,true,none,h,nofun,nofun⟩
def aN:AR:=⟨isV undef,false,false,some undef,zaz undef,fun _ h=>by cases h;rfl,fun _=>⟨rfl,rfl⟩⟩
def AR.post (C:Nat->World->Prop) (S:World->World->Prop) (j:Nat) (r:AR) (W:World) (v:Value) (W':World):Prop:=if r.u=true then C (j+1) W'∧S W W'∧r.p v W' else Fr No W W'∧r.p v W'
section
variable {C:Nat->World->Prop} {S:World->World->Prop} {j:Nat} {W W':World} {v x:Value} {p:Value->World->Prop} {h:MonP p}
@[simp] theorem zpz:(aV x).post C S j W v W'=(Fr No W W'∧isV x v W'):=rfl
@[simp] theorem zpA:(aC p h).post C S j W v W'=(Fr No W W'∧p v W'):=rfl
@[simp] theorem zpB:(aX x).post C S j W v W'=(C (j+1) W'∧S W W'∧isV x v W'):=rfl
@[simp] theorem zpC:(aW p h).post C S j W v W'=(C (j+1) W'∧S W W'∧p v W'):=rfl
end
def zpD:List Oper->List AR->(Nat->Value)->Nat->Act->Act
 | o :: l,r :: R,vs,k,a=>zpD l R vs (k+1) (a.put o.dst (r.v.getD (vs k)))
 | [],_,_,_,a=>a
 | _ :: _,[],_,_,a=>a
section
variable {o:Oper} {l:List Oper} {R:List AR} {vs:Nat->Value} {k:Nat} {a:Act}
theorem zpE (x:Value):zpD (o :: l) (aV x :: R) vs k a=zpD l R vs (k+1) (a.put o.dst x):=rfl
theorem zpF (x:Value):zpD (o :: l) (aX x :: R) vs k a=zpD l R vs (k+1) (a.put o.dst x):=rfl
theorem zpG:zpD (o :: l) (aN :: R) vs k a=zpD l R vs (k+1) (a.put o.dst undef):=rfl
theorem zpI (p:Value->World->Prop) (h:MonP p):zpD (o :: l) (aW p h :: R) vs k a=zpD l R vs (k+1) (a.put o.dst (vs k)):=rfl
theorem zpJ:zpD l [] vs k a=a:=by cases l<;>rfl
end
theorem zpK:∀(l:List Oper) (R:List AR) (vs:Nat->Value) (W:World) (k:Nat) (a:Act),l.length=R.length->(∀j,j<R.length->(R.map AR.p).getD j (fun _ _=>True) (vs (k+j)) W)->
  zad l vs (fun _=>true) k a=zpD l R vs k a
 | [],R,_,_,_,_,_,_=>by cases R<;>rfl
 | o :: l,[],_,_,_,_,hl,_=>by simp at hl
 | o :: l,r :: R,vs,W,k,a,hl,h=>by
  have ih:=zpK l R vs W (k+1) (a.put o.dst (vs k)) (by simpa using hl) (fun j hj=>by
   have:=h (j+1) (by simpa using hj)
   rw[show k+(j+1)=k+1+j by omega] at this
   simpa using this)
  have e:r.v.getD (vs k)=vs k:=by
   cases hv:r.v with
   | none=>rfl
   | some u=>
    have h0:=h 0 (by simp)
    simp only[List.map_cons,List.getD_cons_zero,Nat.add_zero,r.val u hv] at h0
    exact h0.symm
  show zad (o :: l) vs (fun _=>true) k a=zpD l R vs (k+1) (a.put o.dst (r.v.getD (vs k)))
  rw[e]
  exact ih
def HopA (K:Oper->AR->Prop):List Oper->List AR->Prop
 | o :: l,r :: R=>K o r∧HopA K l R
 | [],_=>True
 | _ :: _,[]=>True
theorem hopA {K:Oper->AR->Prop} {o:Oper} {r:AR} {l:List Oper} {R:List AR} (h:K o r) (t:HopA K l R):HopA K (o :: l) (r :: R):=⟨h,t⟩
theorem zpL {K:Oper->AR->Prop} {l:List Oper}:HopA K l []:=by cases l<;>trivial
theorem HopA.at {K:Oper->AR->Prop}:∀{l:List Oper} {R:List AR},HopA K l R->∀(k:Nat) (o:Oper) (r:AR),l[k]? =some o->R[k]? =some r->K o r
 | [],_,_,_,_,_,h,_=>by simp at h
 | _ :: _,[],_,_,_,_,_,h=>by simp at h
 | o :: l,r :: R,h,0,o',r',h1,h2=>by
  rw[lz3] at h1 h2
  have e1:=Option.some.inj h1
  have e2:=Option.some.inj h2
  subst e1
  subst e2
  exact h.1
 | o :: l,r :: R,h,k+1,o',r',h1,h2=>HopA.at (l:=l) (R:=R) h.2 k o' r' (by simpa using h1) (by simpa using h2)
theorem hSA {v:Value} {W W':World} {o:Oper} {l:List Oper} {r:AR} {R:List AR} (hr:r.v.isSome=true) (t:HopA (fun _ r=>r.v=none->r.p v W->r.p v W') l R):HopA (fun _ r=>r.v=none->r.p v W->r.p v W') (o :: l) (r :: R):=⟨fun h=>(by rw[h] at hr;cases hr),t⟩
def grdA (l:List Oper) (R:List AR):Bool:=(l.zip R).all fun x=>match x.1.guard with
 | none=>x.2.g
 | some (i,b)=>match (R[i]?).bind AR.v with|some y=>(yb y == some b) == x.2.g|none=>false
def zpM (P:Program) (l:List Oper) (R:List AR) (a:Act) (C:Nat->World->Prop) (S:World->World->Prop) (tot:Nat) (o:Oper) (r:AR):Prop:=
 r.g=true->∀(a':Act) (W:World) (j:Nat),(if r.u=true then j<tot else j≤tot)->C j W->(∀t,offB l t=true->a'.tmps.getD t undef=a.tmps.getD t undef)->(∀i t,depB l o i t=true->(R.map AR.p).getD i (fun _ _=>True) (a'.tmps.getD t undef) W)->
  zaa P (r.post C S j W) ((execOp a'.eval o).run P W)
theorem aNo {P:Program} {l:List Oper} {R:List AR} {a:Act} {C:Nat->World->Prop} {S:World->World->Prop} {tot:Nat} {o:Oper}:zpM P l R a C S tot o aN:=fun h=>by cases h
theorem zpN {P:Program} {l:List Oper} {Q:Exit->Act->World->Prop} {a:Act} {w:World} {id:Nat} (tot M:Nat) (R:List AR) (C:Nat->World->Prop) (S:World->World->Prop) (hf:P.follows .mixedOrders=true)
  (hm:(zae l&&znm l.toArray&&decide (R.length=l.length)&&decide ((List.range l.length).countP (fun k=>(R.map AR.u).getD k false)=tot)&&znV l M&&grdA l R)=true) (hM:M≤a.tmps.size)
  (hC:∀j W W',C j W->Fr No W W'->C j W') (h0:C 0 w.drew) (hS:∀v W W',S W W'->HopA (fun _ r=>r.v=none->r.p v W->r.p v W') l R)
  (hop:HopA (zpM P l R a C S tot) l R)
  (hend:∀vs W,C tot W->(∀k,k<l.length->(R.map AR.p).getD k (fun _ _=>True) (vs k) W)->Q .normal (zpD l R vs 0 a) W):(Code.region id l.toArray true).wp P Q a w:=by
 simp only[lz5,decide_eq_true_eq] at hm
 obtain⟨⟨⟨⟨⟨h1,h2⟩,hl⟩,ht⟩,hd⟩,hg⟩:=hm
 have row:∀{k:Nat} {o:Oper},l[k]? =some o->∃r,R[k]? =some r∧(R.map AR.p).getD k (fun _ _=>True)=r.p∧(R.map AR.u).getD k false=r.u∧(R.map AR.g).getD k true=r.g:=fun {k o} ho=>by
  have hk:k<R.length:=by rw[hl];exact(List.getElem?_eq_some_iff.1 ho).1
  exact⟨R[k],lz8 hk,by simp[List.getD,lz8 hk],by simp[List.getD,lz8 hk],by simp[List.getD,lz8 hk]⟩
 have grow:∀k,k<R.length->∃o r,l[k]? =some o∧R[k]? =some r∧(R.map AR.p).getD k (fun _ _=>True)=r.p∧(R.map AR.u).getD k false=r.u∧(R.map AR.g).getD k true=r.g:=fun k hk=>by
  obtain⟨r,h⟩:=row (lz8 (show k<l.length by omega))
  exact⟨_,r,lz8 (show k<l.length by omega),h⟩
 have hop':∀(k:Nat) (o:Oper) (r:AR),l[k]? =some o->R[k]? =some r->r.g=true->∀(a':Act) (W:World) (j:Nat),(if r.u=true then j<tot else j≤tot)->C j W->(∀t,(∀p∈l,p.dst≠some t)->a'.eval (.tmp t)=a.eval (.tmp t))->(∀e∈o.after,Region.binds .any e=true->∀p d,l[e.on]? =some p->p.dst=some d->(R.map AR.p).getD e.on (fun _ _=>True) (a'.eval (.tmp d)) W)->zab P o a' W (r.post C S j W):=fun k o r ho hr hrg a' W j hj hW hoff hdep=>by
  exact hop.at k o r ho hr hrg a' W j hj hW (fun t ht=>hoff t fun p hp=>by
   have:=List.all_eq_true.1 ht p hp
   simpa using this) (fun i t hd=>by
   obtain⟨e,he,h2,p,hp,h4,rfl⟩:=znU hd
   exact hdep e he h2 p t hp h4)
 refine znr (R.map AR.p) (R.map AR.u) (R.map AR.g) tot C S hf (by rw[h1,h2,List.length_map,hl,ht];simp) (znW hd hM) (fun φ h=>by obtain⟨r,_,rfl⟩:=List.mem_map.1 h;exact r.mono) (fun φ h v W W' hv hs=>?_) hC (fun k o ho=>?_) (fun k hk hu=>?_) (fun k hk hg' W=>?_) h0 (fun k o ho hu hg' a' W j hj hW hoff hdep=>?_) (fun k o ho hu a' W j hj hW hoff hdep=>?_) (fun vs W hW hv=>?_)
 ·obtain⟨r,hr,rfl⟩:=List.mem_map.1 h
  obtain⟨k,hk,rfl⟩:=List.getElem_of_mem hr
  obtain⟨o,r',ho,hr',_⟩:=grow k hk
  cases hrv:R[k].v with
  | some x=>rw[R[k].val x hrv] at hv ⊢;exact hv
  | none=>exact(hS v W W' hs).at k o R[k] ho (lz8 hk) hrv hv
 ·obtain⟨r,hr,_,_,e3⟩:=row ho
  have hz:=List.all_eq_true.1 hg (o,r) (by
   rw[List.mem_iff_getElem?]
   exact⟨k,by rw[List.getElem?_zip_eq_some];exact⟨ho,hr⟩⟩)
  rw[e3]
  dsimp only at hz
  refine⟨fun hn=>by rw[hn] at hz;exact hz,fun i b hgd v W hv=>?_⟩
  rw[hgd] at hz
  dsimp only at hz
  cases hri:R[i]? with
  | none=>rw[hri] at hz;cases hz
  | some ri=>
   rw[hri] at hz
   cases hvi:ri.v with
   | none=>simp[hvi] at hz
   | some y=>
    simp only[Option.bind_some,hvi] at hz
    have e1:(R.map AR.p).getD i (fun _ _=>True)=ri.p:=by simp[List.getD,hri]
    rw[e1,ri.val y hvi] at hv
    obtain rfl:v=y:=hv
    exact eq_of_beq hz
 ·obtain⟨o,r,_,_,_,e2,e3⟩:=grow k (by simpa using hk)
  rw[e2] at hu
  rw[e3]
  cases hrg:r.g with
  | true=>rfl
  | false=>rw[(r.no hrg).1] at hu;cases hu
 ·obtain⟨o,r,_,_,e1,_,e3⟩:=grow k (by simpa using hk)
  rw[e3] at hg'
  rw[e1,(r.no hg').2]
  rfl
 ·obtain⟨r,hr,e1,e2,e3⟩:=row ho
  rw[e2] at hu
  rw[e3] at hg'
  have:=hop' k o r ho hr hg' a' W j (by rw[hu];exact hj) hW hoff hdep
  unfold AR.post at this
  rw[hu] at this
  rw[e1]
  exact this
 ·obtain⟨r,hr,e1,e2,e3⟩:=row ho
  rw[e2] at hu
  have hrg:r.g=true:=by
   cases hrg:r.g with
   | true=>rfl
   | false=>rw[(r.no hrg).1] at hu;cases hu
  have:=hop' k o r ho hr hrg a' W j (by rw[hu];exact hj) hW hoff hdep
  unfold AR.post at this
  rw[hu] at this
  rw[e1]
  exact this
 ·have:=hend vs W hW hv
  rw[<-zpK l R vs W 0 a hl.symm (fun j hj=>by rw[Nat.zero_add];exact hv j (by omega))] at this
  exact this
theorem zvV {P:Program} (w:World) (dT sT ty elem:TypeId) (sz:Nat) (g o dLen dCap:Nat) (a:Addr) (sLen sCap:Nat) (cur:Array Value) (t:TypeId) (cs:List Value)
  (hu:P.underlying dT=some (.slice elem)) (hs:(P.info? elem).map (·.size)=some sz)
  (hg:w.heap[g]? =some (.cells cur t (0,0))) (hn:cs.length=Nat.min sLen dLen * sz)
  (hsrc:∀j v,cs[j]? =some v->w.cell? (a.add j)=some v) (hfit:o+cs.length≤cur.size) (h1:∀v∈cs,v.oneCell'=true):
  (Builtin.copy_ #[dT,sT] ty #[.slice (some ⟨g,o,none⟩) dLen dCap,.slice (some a) sLen sCap]).run P w =
   .ok (goInt (Nat.min sLen dLen:Nat)) (w.setRow g (cur.toList.take o ++ cs ++ cur.toList.drop (o+cs.length)).toArray):=by
 have hl:=run_loadCells_list (P:=P) w a cs hsrc
 have hst:=run_storeCells_at P g o t cs 0 cur w hg (by simpa using hfit) h1
 cases hq:P.info? elem with
 | none=>simp[hq] at hs
 | some i=>
  have hi:i.size=sz:=by simpa[hq] using hs
  simp[Builtin.copy_,run_underlying hu,Builtin.lenOf,Builtin.firstCells,sizeOf,typeInfo,hq,hi,<-hn,hl,hst]
theorem zvW {P:Program} {w:World} {ops:Array Oper} {rest:List Oper} {o:Oper} {a:Act} {Q:Exit->Act->World->Prop} (hgd:o.guard=none) (d s:Operand) (dT sT:TypeId)
  (ho:o.op=.call { callee:=.builtin .copy,args:=#[d,s],argTypes:=#[dT,sT] }) (elem:TypeId) (sz:Nat) (hu:P.underlying dT=some (.slice elem)) (hsz:(P.info? elem).map (·.size)=some sz)
  (g dLen dCap:Nat) (ad:Addr) (sLen sCap:Nat) (hd:a.eval d=.slice (some ⟨g,0,none⟩) dLen dCap) (hs:a.eval s=.slice (some ad) sLen sCap) (hle:sLen≤dLen)
  (cur:Array Value) (t:TypeId) (hg:Bx w g t cur) (cs:List Value) (hn:cs.length=sLen * sz)
  (hsrc:∀j v,cs[j]? =some v->w.cell? (ad.add j)=some v) (hfit:cs.length≤cur.size) (h1:∀v∈cs,v.oneCell'=true)
  (h:∀w',Bx w' g t (cs ++ cur.toList.drop cs.length).toArray->Fr (fun b=>b=g) w w'->wpList P ops Q rest (a.put o.dst (goInt (sLen:Nat))) w'):wpList P ops Q (o :: rest) a w:=by
 refine wpList_plain hgd fun K hK=>?_
 have hm:Nat.min sLen dLen=sLen:=Nat.min_eq_left hle
 have hrun:=zvV (P:=P) w dT sT o.type elem sz g 0 dLen dCap ad sLen sCap cur t cs hu hsz hg (by rw[hm];exact hn) hsrc (by simpa using hfit) h1
 rw[hm] at hrun
 unfold Oper.wp
 simp[execOp,ho,resolve,invoke,builtin,hd,hs,hrun,Result.andThen]
 refine hK _ _ (h _ ?_ ⟨rfl,rfl,rfl,by simp[World.setRow],fun k hk hn=>setRow_other w g k _ (fun e=>hn e)⟩)
 have:=setRow_heap w g cur (cs ++ cur.toList.drop cs.length).toArray t (0,0) hg
 unfold Bx
 simpa using this
theorem zco {P:Program} {w:World} {ops:Array Oper} {rest:List Oper} {o:Oper} {a:Act} {Q:Exit->Act->World->Prop} (hgd:o.guard=none) (t:TypeId) (x y:Operand) (ho:o.op=.store t x y) (sz:Nat) (hsz:(P.info? t).map (·.size)=some sz)
  (g:Nat) (bt:TypeId) (cs:Array Value) (cs':List Value) (hp:a.eval x=.pointer (some ⟨g,0,none⟩)) (hv:a.eval y=.agg cs'.toArray) (hB:Bx w g bt cs) (hl:cs'.length=sz) (hc:cs.size=sz) (h1:∀v∈cs',v.oneCell'=true)
  (h:∀w',Bx w' g bt cs'.toArray->Fr (fun b=>b=g) w w'->wpList P ops Q rest (a.put o.dst undef) w'):wpList P ops Q (o :: rest) a w:=by
 refine wpList_plain hgd fun K hK=>?_
 have hst:=run_storeCells_at P g 0 bt cs' 0 cs w hB (by omega) h1
 have e:(cs.toList.take (0+0) ++ cs' ++ cs.toList.drop (0+0+cs'.length))=cs':=by
  have:cs.toList.length≤0+0+cs'.length:=by simp;omega
  rw[List.drop_of_length_le this]
  simp
 rw[e] at hst
 have hrun:(Instr.storeAt t (.pointer (some ⟨g,0,none⟩)) (.agg cs'.toArray)).run P w=.ok () (w.setRow g cs'.toArray):=by
  cases hq:P.info? t with
  | none=>simp[hq] at hsz
  | some i=>
   have hi:i.size=sz:=by simpa[hq] using hsz
   simp[Instr.storeAt,Instr.sureAddr,storeVar,sizeOf,typeInfo,hq,hi,Value.cells,hl,hst]
 unfold Oper.wp
 simp[execOp,ho,hp,hv,hrun]
 refine hK _ _ (h _ ?_ ⟨rfl,rfl,rfl,by simp[World.setRow],fun k hk hn=>setRow_other w g k _ (fun e=>hn e)⟩)
 exact setRow_heap w g cs cs'.toArray bt (0,0) hB
end Go.Proofs.YtmeaibjmnjcdfaaGreat
