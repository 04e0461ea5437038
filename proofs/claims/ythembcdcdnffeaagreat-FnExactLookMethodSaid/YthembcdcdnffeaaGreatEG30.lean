/- The same by rows: 0: the writing operation waits for it; 1: it waits for that; 2: it may come up at any time; 3: it writes. -/
import Derived.Test.YthembcdcdnffeaaGreatEG29
set_option maxHeartbeats 8000000
set_option maxRecDepth 100000
namespace Go.Proofs.YthembcdcdnffeaaGreat
open Go.RowKit
def mT:MR:=⟨fun _ _=>True,false,false,none,fun _ _ _ _ _=>trivial,nofun,nofun⟩
theorem znF {o:Oper} {l:List Oper} {R:List MR} {vs:Nat->Value} {k:Nat} {a:Act}:znJ (o :: l) (mT :: R) vs k a=znJ l R vs (k+1) (a.put o.dst (vs k)):=rfl
def HopQ (c:Nat->Bool) (K:Oper->MR->Prop):List Nat->List Oper->List MR->Prop
 | q :: qs,o :: l,r :: R=>(c q=true->K o r)∧HopQ c K qs l R
 | [],_,_=>True
 | _ :: _,[],_=>True
 | _ :: _,_ :: _,[]=>True
theorem HopQ.at {c:Nat->Bool} {K:Oper->MR->Prop}:∀{qs:List Nat} {l:List Oper} {R:List MR},HopQ c K qs l R->∀(k:Nat) (q:Nat) (o:Oper) (r:MR),qs[k]? =some q->l[k]? =some o->R[k]? =some r->c q=true->K o r
 | q :: qs,o :: l,r :: R,h,0,q',o',r',h0,h1,h2,hc=>by
  rw[lz3] at h0 h1 h2
  cases h0;cases h1;cases h2
  exact h.1 hc
 | q :: qs,o :: l,r :: R,h,k+1,q',o',r',h0,h1,h2,hc=>HopQ.at h.2 k q' o' r' (by simpa using h0) (by simpa using h1) (by simpa using h2) hc
 | [],_,_,_,_,_,_,_,h0,_,_,_=>by simp at h0
 | _ :: _,[],_,_,_,_,_,_,_,h1,_,_=>by simp at h1
 | _ :: _,_ :: _,[],_,_,_,_,_,_,_,h2,_=>by simp at h2
def Hop3 (K:Nat->MR->MR->Prop):List Nat->List MR->List MR->Prop
 | q :: qs,r :: R,s :: S=>K q r s∧Hop3 K qs R S
 | [],_,_=>True
 | _ :: _,[],_=>True
 | _ :: _,_ :: _,[]=>True
theorem Hop3.at {K:Nat->MR->MR->Prop}:∀{qs:List Nat} {R S:List MR},Hop3 K qs R S->∀(k q:Nat) (r s:MR),qs[k]? =some q->R[k]? =some r->S[k]? =some s->K q r s
 | q :: qs,r :: R,s :: S,h,0,q',r',s',h0,h1,h2=>by
  rw[lz3] at h0 h1 h2
  cases h0;cases h1;cases h2
  exact h.1
 | q :: qs,r :: R,s :: S,h,k+1,q',r',s',h0,h1,h2=>Hop3.at h.2 k q' r' s' (by simpa using h0) (by simpa using h1) (by simpa using h2)
 | [],_,_,_,_,_,_,_,h0,_,_=>by simp at h0
 | _ :: _,[],_,_,_,_,_,_,_,h1,_=>by simp at h1
 | _ :: _,_ :: _,[],_,_,_,_,_,_,_,h2=>by simp at h2
def znG (q:Nat):Bool:=Nat.beq q 0
def znH (q:Nat):Bool:=Nat.beq q 1
def isA (q:Nat):Bool:=Nat.beq q 0 || Nat.beq q 2
def isZ (q:Nat):Bool:=Nat.beq q 1 || Nat.beq q 2
def eqBs (xs ys:List Bool):Bool:=decide (xs=ys)
section
variable {P:Program} {l:List Oper} {Q:Exit->Act->World->Prop} {a:Act} {w:World} {id:Nat}
def HopV (P:Program) (l:List Oper) (n:Nat) (R:List MR) (a:Act) (w:World) (N:List PanicEntry->World->Prop) (C1:World->Prop) (S:World->World->Prop) (o:Oper) (r:MR):Prop:=
 ∀(a':Act) (W:World),Fr No w W->(∀t,offB (l.take n) t=true->a'.tmps.getD t undef=a.tmps.getD t undef)->(∀i t,depB (l.take n) o i t=true->(R.map MR.p).getD i (fun _ _=>True) (a'.tmps.getD t undef) W)->
  zlP P N (fun v W'=>C1 W'∧S W W'∧r.p v W') ((execOp a'.eval o).run P W)
theorem znI (n M:Nat) (R0 R1:List MR) (KN:List Nat) (u:Nat) (N:List PanicEntry->World->Prop) (C1:World->Prop) (S:World->World->Prop) (hf:P.follows .mixedOrders=true)
  (hm:(monB (fun k=>(R0.map MR.ea).getD k false) l n&&decide (R0.length=n)&&decide (R1.length=n)&&decide (KN.length=n)&&eqBs (R0.map MR.ea) (R1.map MR.ea)&&eqBs (R0.map MR.al) (R1.map MR.al)&&!(R0.map MR.ea).getD u false&&!(R0.map MR.al).getD u false&&decide (u<n)&&preB l.toArray u (fun k=>znG (KN.getD k 3)) n&&pstB l.toArray u (fun k=>znH (KN.getD k 3)) n&&(List.range n).all (fun k=>decide (k=u) || znG (KN.getD k 3) || znH (KN.getD k 3) || Nat.beq (KN.getD k 3) 2)&&znV (l.take n) M)=true) (hM:M≤a.tmps.size)
  (hC1:∀W W',C1 W->Fr No W W'->C1 W') (hS:∀v W W',S W W'->Hop3 (fun q r0 r1=>isA q=true->r0.p v W->r1.p v W') KN R0 R1)
  (hop0:HopQ isA (HopK P l n R0 a w (Fr No w)) KN l R0) (hop1:HopQ isZ (HopK P l n R1 a w C1) KN l R1)
  (hopu:∀o r,l[u]? =some o->R1[u]? =some r->HopV P l n R0 a w N C1 S o r) (hN:∀c a' W,a'.defers=a.defers->N c W->Q (.panic c) a' W)
  (hend:∀vs W,C1 W->(∀k,k<n->(R1.map MR.p).getD k (fun _ _=>True) (vs k) W)->(∀j k,j<n->k<n->j≠k->(R1.map MR.al).getD j false=true->(R1.map MR.al).getD k false=true->bk (vs j)≠bk (vs k))->wpList P l.toArray (fun e a' W'=>(e=.normal∧Q .normal a' W')∨∃c,e=.panic c∧a'.defers=a.defers∧N c W') (l.drop n) (znJ l R1 vs 0 a) W):(Code.region id l.toArray true).wp P Q a w:=by
 simp only[lz5,decide_eq_true_eq,eqBs] at hm
 obtain⟨⟨⟨⟨⟨⟨⟨⟨⟨⟨⟨⟨hm,hl0⟩,hl1⟩,hlk⟩,hea⟩,hal⟩,hu1⟩,hu2⟩,hun⟩,hpre⟩,hpst⟩,hkd⟩,hd⟩:=hm
 have hu1':(R0.map MR.ea).getD u false=false:=by simpa only[Bool.not_eq_true'] using hu1
 have hu2':(R0.map MR.al).getD u false=false:=by simpa only[Bool.not_eq_true'] using hu2
 have hkd':=fun k (hk:k<n)=>by simpa only[Bool.or_eq_true,decide_eq_true_eq] using List.all_eq_true.1 hkd k (List.mem_range.2 hk)
 have hnl:n<l.length:=by
  simp only[monB,lz5,decide_eq_true_eq] at hm
  exact hm.1.1.1.1.1.1.2
 have tk:∀{k:Nat} {o:Oper},(l.take n)[k]? =some o->l[k]? =some o:=fun {k o} ho=>by
  rw[List.getElem?_take] at ho;split at ho<;>simp_all
 have tn:∀{k:Nat} {o:Oper},(l.take n)[k]? =some o->k<n:=fun {k o} ho=>by
  have:=(List.getElem?_eq_some_iff.1 ho).1
  simp only[List.length_take] at this
  omega
 have kn:∀k (hk:k<n),KN[k]? =some (KN.getD k 3):=fun k hk=>by simp[List.getD,lz8 (show k<KN.length by omega)]
 have p0:∀k (hk:k<n),∃r,R0[k]? =some r∧(R0.map MR.p).getD k (fun _ _=>True)=r.p∧(R0.map MR.al).getD k false=r.al∧(R0.map MR.ea).getD k false=r.ea:=fun k hk=>by
  have hr:R0[k]? =some (R0[k]'(by omega)):=lz8 (by omega)
  exact⟨_,hr,by simp[List.getD,hr],by simp[List.getD,hr],by simp[List.getD,hr]⟩
 have p1:∀k (hk:k<n),∃r,R1[k]? =some r∧(R1.map MR.p).getD k (fun _ _=>True)=r.p∧(R1.map MR.al).getD k false=r.al∧(R1.map MR.ea).getD k false=r.ea:=fun k hk=>by
  have hr:R1[k]? =some (R1[k]'(by omega)):=lz8 (by omega)
  exact⟨_,hr,by simp[List.getD,hr],by simp[List.getD,hr],by simp[List.getD,hr]⟩
 have hAn:∀k,(R0.map MR.al).getD k false=true->k<n:=fun k h=>by
  rcases Nat.lt_or_ge k n with h1|h1
  ·exact h1
  ·rw[List.getD_eq_getElem?_getD,List.getElem?_eq_none (by simp;omega)] at h;cases h
 refine znE n (fun k=>(R0.map MR.p).getD k (fun _ _=>True)) (fun k=>(R1.map MR.p).getD k (fun _ _=>True)) (fun k=>(R0.map MR.al).getD k false) (fun k=>(R0.map MR.ea).getD k false) (fun k=>znG (KN.getD k 3)) (fun k=>znH (KN.getD k 3)) u hun hpre hpst N C1 S hu1' hu2' hC1
  (fun k v W W' hku hpk h hs=>?_) (fun k v W hk h=>?_) hf hm (znW hd hM) (fun k v W W' h hf=>?_) (fun k v W W' h hf=>?_)
  (fun k o hku hpk ho a' W hW hoff hdep=>?_) (fun k o hku hpk ho a' W hW hoff hdep=>?_) (fun o ho a' W hW hoff hdep=>?_) (fun a' W'=>Q .normal a' W') (fun vs W hW hv hne=>?_) (fun _ _ h=>h) hN
 ·rcases Nat.lt_or_ge k n with hk|hk
  ·obtain⟨r0,hr0,e0,_,_⟩:=p0 k hk
   obtain⟨r1,hr1,e1,_,_⟩:=p1 k hk
   simp only[e0] at h
   simp only[e1]
   have hq:isA (KN.getD k 3)=true:=by
    have hpk':znH (KN.getD k 3)=false:=hpk
    rcases hkd' k hk with ((h9|h9)|h9)|h9
    ·exact absurd h9 hku
    ·show(znG (KN.getD k 3) || _)=true
     rw[h9];rfl
    ·rw[hpk'] at h9;cases h9
    ·show(_ || Nat.beq (KN.getD k 3) 2)=true
     rw[h9,Bool.or_true]
   exact(hS v W W' hs).at k _ r0 r1 (kn k hk) hr0 hr1 hq h
  ·have e1:(R1.map MR.p).getD k (fun _ _=>True)=fun _ _=>True:=by simp[List.getD,List.getElem?_eq_none (show R1.length≤k by omega)]
   simp only[e1]
 ·have hkn:=hAn k hk
  obtain⟨r0,hr0,e0,a0,_⟩:=p0 k hkn
  obtain⟨r1,hr1,e1,a1,_⟩:=p1 k hkn
  have hk':(R0.map MR.al).getD k false=true:=hk
  rcases h with h|h
  ·simp only[e0] at h
   exact r0.bk (a0▸hk') v W h
  ·simp only[e1] at h
   exact r1.bk (by rw[<-a1,<-hal];exact hk') v W h
 ·rcases Nat.lt_or_ge k n with hk|hk
  ·obtain⟨r0,hr0,e0,_,_⟩:=p0 k hk
   simp only[e0] at h ⊢
   exact r0.mono v W W' h hf
  ·have e1:(R0.map MR.p).getD k (fun _ _=>True)=fun _ _=>True:=by simp[List.getD,List.getElem?_eq_none (show R0.length≤k by omega)]
   simp only[e1]
 ·rcases Nat.lt_or_ge k n with hk|hk
  ·obtain⟨r0,hr0,e0,_,_⟩:=p1 k hk
   simp only[e0] at h ⊢
   exact r0.mono v W W' h hf
  ·have e1:(R1.map MR.p).getD k (fun _ _=>True)=fun _ _=>True:=by simp[List.getD,List.getElem?_eq_none (show R1.length≤k by omega)]
   simp only[e1]
 ·have hk:=tn ho
  have hq:isA (KN.getD k 3)=true:=by
   have hpk':znH (KN.getD k 3)=false:=hpk
   rcases hkd' k hk with ((h9|h9)|h9)|h9
   ·exact absurd h9 hku
   ·show(znG (KN.getD k 3) || _)=true
    rw[h9];rfl
   ·rw[hpk'] at h9;cases h9
   ·show(_ || Nat.beq (KN.getD k 3) 2)=true
    rw[h9,Bool.or_true]
  exact znX hl0 (fun _ r hr=>hop0.at k _ o r (kn k hk) (tk ho) hr hq) ho a' W hW hoff hdep
 ·have hk:=tn ho
  have hq:isZ (KN.getD k 3)=true:=by
   have hpk':znG (KN.getD k 3)=false:=hpk
   rcases hkd' k hk with ((h9|h9)|h9)|h9
   ·exact absurd h9 hku
   ·rw[hpk'] at h9;cases h9
   ·show(znH (KN.getD k 3) || _)=true
    rw[h9];rfl
   ·show(_ || Nat.beq (KN.getD k 3) 2)=true
    rw[h9,Bool.or_true]
  have h9:=znX hl1 (fun _ r hr=>hop1.at k _ o r (kn k hk) (tk ho) hr hq) ho a' W hW hoff hdep
  rw[<-hea,<-hal] at h9
  exact h9
 ·obtain⟨r1,hr1,e1,_,_⟩:=p1 u hun
  have h1:=hopu o r1 (tk ho) hr1 a' W hW (fun t ht=>hoff t fun p hp=>by
   have:=List.all_eq_true.1 ht p hp
   simpa using this) (fun i t hd=>by
   obtain⟨e,he,h2,p,hp,h4,rfl⟩:=znU hd
   exact hdep e he h2 p t hp h4)
  simp only[e1]
  exact h1
 ·have:=hend vs W hW hv (fun j k hj hk hjk h1 h2=>hne j k hj hk hjk (hal▸h1) (hal▸h2))
  rw[<-znS l R1 vs W 0 a (fun j hj=>by rw[Nat.zero_add];exact hv j (by omega)),hl1] at this
  exact this
end
theorem zcs {p:Plan} {k:Int} {m:Mth} {f:Frm} {i:Ins} (h:i.op=2):insF p k m f i=if (f.locals.getD i.a.toNat noT).kind=0 then none else (zcE m.stack f.stack (f.locals.getD i.a.toNat noT)).map (⟨f.locals,·⟩):=by unfold insF;simp[h]
theorem zct {p:Plan} {k:Int} {m:Mth} {f:Frm} {i:Ins} (h:i.op=3):insF p k m f i=(zcD f.stack).map (fun x=>⟨f.locals.set i.a.toNat x.1,x.2⟩):=by unfold insF;simp[h]
theorem zcu {p:Plan} {k:Int} {m:Mth} {f:Frm} {i:Ins} (h:i.op=4):insF p k m f i=((popF p k f.stack numT).bind fun s=>(popF p k s numT).bind fun s=>zcE m.stack s numT).map (⟨f.locals,·⟩):=by unfold insF;simp[h]
theorem zcv {p:Plan} {k:Int} {m:Mth} {f:Frm} {i:Ins} (h:i.op=15):insF p k m f i=((popR f.stack).bind fun s=>zcE m.stack s (clsT i.name)).map (⟨f.locals,·⟩):=by unfold insF;simp[h]
theorem zcw (p:Plan) (k:Int) (a:Tag):mayK p k a noT=true:=by unfold mayK;rw[if_pos (show noT.kind=0 from rfl)]
theorem zcx {st r:List Tag} (h:popR st=some r):r.length≤st.length:=by
 rcases ze2 st with ⟨_,h1⟩ | ⟨ys,x,h0,h1⟩
 ·rw[zkH h1] at h;cases h
 ·rw[zkI h1] at h
  split at h
  ·cases h;rw[h0];simp
  ·cases h
theorem zcX.get2 {w:World} {e:TypeId} {v:Value} {xs:List Tag} (h:zcX w e v xs) {a:Nat} (ha:a<xs.length):∃g c,v=.slice (some ⟨g,0,none⟩) xs.length c∧zcP v=some g∧xs.length≤c∧c≤maxLen ∧
  w.cell? ⟨g,a * 2,none⟩=some (.int .i64 xs[a].kind)∧w.cell? ⟨g,a * 2+1,none⟩=some (.string xs[a].name)∧xs[a].name.size≤maxLen∧∀i,w.frozen? ⟨g,i,none⟩=false:=by
 obtain⟨h,hn⟩:=h
 obtain⟨g,c,cur,rfl,h1,h2,hb,_,_,hq⟩:=h.at_ (by omega)
 refine⟨g,c,rfl,hq,h1,h2,?_,?_,hn _ (List.getElem_mem ha),fun i=>hb.frozen i⟩
 ·rw[h.cell rfl (by omega)];exact zcV xs a ha 0 (by decide)
 ·rw[h.cell rfl (by omega)];exact zcV xs a ha 1 (by decide)
theorem FrmI.set {w:World} {g c:Nat} {vs:Value} {f:Frm} (h:FrmI w (.slice (some ⟨g,0,none⟩) f.locals.length c) vs f) {i:Nat} (hi:i<f.locals.length) {x:Tag} (hx:x.name.size≤maxLen):
  FrmI ((w.setCell ⟨g,i * 2,none⟩ (.int .i64 x.kind)).setCell ⟨g,i * 2+1,none⟩ (.string x.name)) (.slice (some ⟨g,0,none⟩) f.locals.length c) vs ⟨f.locals.set i x,f.stack⟩∧Fr (rB (.slice (some ⟨g,0,none⟩) f.locals.length c) vs) w ((w.setCell ⟨g,i * 2,none⟩ (.int .i64 x.kind)).setCell ⟨g,i * 2+1,none⟩ (.string x.name)):=by
 have hst:Fr (fun b=>b=g) w ((w.setCell ⟨g,i * 2,none⟩ (.int .i64 x.kind)).setCell ⟨g,i * 2+1,none⟩ (.string x.name)):=(Fr.one _ _ _ _).same (Fr.one _ _ _ _)
 obtain⟨g',c',cur,he,h1,h2,hb,h3,h4,hq⟩:=h.loc.1.at_ (by omega)
 cases he
 have hb':Bx ((w.setCell ⟨g,i * 2,none⟩ (.int .i64 x.kind)).setCell ⟨g,i * 2+1,none⟩ (.string x.name)) g tTag ((cur.setIfInBounds (i * 2) (.int .i64 x.kind)).setIfInBounds (i * 2+1) (.string x.name)):=(hb.set_ _ _).set_ _ _
 have hrow:RowV ((w.setCell ⟨g,i * 2,none⟩ (.int .i64 x.kind)).setCell ⟨g,i * 2+1,none⟩ (.string x.name)) tTag 2 (.slice (some ⟨g,0,none⟩) f.locals.length c) (f.locals.set i x).length ((f.locals.set i x).flatMap zcU):=by
  refine .inl ⟨by rw[zcW],.inr ⟨g,c,_,by simp,Nat.zero_le _,hb',by simpa using h1,h2,by simpa using h3,?_⟩⟩
  rw[<-ze6 _ _ _ hi,<-h4]
  simp[List.take_set]
 refine⟨⟨⟨hrow,fun y hy=>?_⟩,h.stk.keep hst (fun q hq2 e=>by subst e;exact h.apart _ hq hq2),fun q h1 h2=>h.apart q h1 h2⟩,hst.mono (fun b _ e=>by subst e;exact .inl hq)⟩
 rcases List.mem_or_eq_of_mem_set hy with hy|rfl
 ·exact h.loc.2 y hy
 ·exact hx
theorem zcy {vl vs:Value} {o:Option Frm} {n:Nat} {w0 w w':World} {e:Ending} (h0:Fr No w0 w) (hn:n=w0.heap.size) (h:zfb vl vs o w e w'):∃v,e=.returned v∧Fr (rB vl vs) w w'∧resV vl vs o n v w':=by
 subst hn
 have h2:=(h.from h0).2
 obtain⟨A1,n1,c1,A2,n2,c2,rfl⟩:=h2.is
 exact⟨_,rfl,h.1,A1,n1,c1,A2,n2,c2,rfl,h2⟩
theorem zcz (X Y:Nat->Prop) (p:Plan) (v vl vs:Value) (k0:Nat) (m:Mth) (ms:List Value) (f:Frm) (i:Ins) (w:World) (hp:lodB p=true) (h:Sl X w 2 (KprC X w) v p.keepers) (hk0:k0<p.keepers.length) (hm:MthC Y w ms m) (h5:m.stack≤5) (hI:FrmI w vl vs f) (hl:f.stack.length≤1000) (hn:i.name.size≤maxLen) (hop:i.op=4):
  Calls Tryz.prog 76 #[.agg #[v],.int .i64 k0,.agg ms.toArray,.agg #[vl,vs],.agg #[.int .i64 i.op,.int .i64 i.a,.string i.name,.string i.member]] w (zfb vl vs (insF p k0 m f i) w):=by
 have hkw:=fun W (hW:Fr No w W)=>h.keep (R':=KprC X W) hW zN (fun _ _ _ h=>h.keep hW zN)
 have hmw:=fun W (hW:Fr No w W)=>hm.keep (Y:=No) hW zN
 have HP:=fun W (hW:Fr No w W)=>zkJ X p v vl vs k0 f numT W hp (hkw W hW) hk0 (hI.keep0 hW) hl (Nat.zero_le _)
 have HS:=fun(us:Value) (s:List Tag) W (hW:Fr No w W) (hJ:FrmI W vl us ⟨f.locals,s⟩) (hl:s.length≤1000)=>zkO X Y p v vl us k0 m ms ⟨f.locals,s⟩ numT numT W hp (hkw W hW) hk0 (hmw W hW) h5 hJ hl (Nat.zero_le _) (Nat.zero_le _)
 have hO:=zcu (p:=p) (k:=(k0:Int)) (m:=m) (f:=f) (i:=i) hop
 generalize insF p k0 m f i=O at *
 have hlt:=fun q (h:rB vl vs q)=>hI.lt h
 obtain⟨A,cap,rfl,_,_⟩:=h.form
 obtain⟨va,vc,vm,rfl,_,_,har,hcr,hxr⟩:=hm
 obtain⟨Aa,ca,rfl,_,_⟩:=har.form
 obtain⟨Ac,cc,rfl,_,_⟩:=hcr.form
 obtain⟨Ax,cx,rfl,_,_⟩:=hxr.form
 obtain⟨Al,cl,As,cs,rfl,rfl,_,_,_,_⟩:=hI.form
 obtain⟨io,ia,inm,im⟩:=i
 dsimp only at *
 clear h hkw hmw har hcr hxr
 subst hop
 obtain⟨wA,hwA⟩:∃wA,wA=((((((w.alloc (.cells #[.slice A p.keepers.length cap] 32)).alloc (.cells #[.string m.name,.slice Aa m.args.length ca,.int .i64 m.ret.kind,.string m.ret.name,.int .i64 m.locals,.int .i64 m.stack,.slice Ac m.code.length cc,.slice Ax m.maps.length cx] 60)).alloc (.cells #[.slice Al f.locals.length cl,.slice As f.stack.length cs] tFr)).alloc (.cells #[.int .i64 4,.int .i64 ia,.string inm,.string im] 101)).alloc (.cells #[.slice none 0 0,.slice none 0 0] tFr)).alloc (.cells #[.int .i64 1,.string ⟨#[]⟩] tTag)):=⟨_,rfl⟩
 have hfA:Fr No w wA:=hwA▸frc
 have hsA:wA.heap.size=w.heap.size+6:=by rw[hwA];simp
 have B0:=(hwA▸bxc:Bx wA w.heap.size 32 #[.slice A p.keepers.length cap])
 have B1:=(hwA▸bxc:Bx wA (w.heap.size+1) 60 #[.string m.name,.slice Aa m.args.length ca,.int .i64 m.ret.kind,.string m.ret.name,.int .i64 m.locals,.int .i64 m.stack,.slice Ac m.code.length cc,.slice Ax m.maps.length cx])
 have B2:=(hwA▸bxc:Bx wA (w.heap.size+2) tFr #[.slice Al f.locals.length cl,.slice As f.stack.length cs])
 have B3:=(hwA▸bxc:Bx wA (w.heap.size+3) 101 #[.int .i64 4,.int .i64 ia,.string inm,.string im])
 have B4:=(hwA▸bxc:Bx wA (w.heap.size+4) tFr #[.slice none 0 0,.slice none 0 0])
 have B5:=(hwA▸bxc:Bx wA (w.heap.size+5) tTag #[.int .i64 1,.string ⟨#[]⟩])
 go_enter Tryz.func76,Tryz.ntmps76
 have HPA:=HP wA hfA
 clear HP
 cases ho:popF p k0 f.stack numT with
 | none=>
  simp only[ho,Option.map_none,Option.bind_none] at hO HPA
  subst hO
  go_wp2_with fail
  rw[<-hwA]
  replace hwA:=Lib.hid hwA
  refine HPA.mono ?_
  rintro e w1 ⟨hf1,rfl⟩
  have C2:=B2.keep hf1
  have C4:=B4.keep hf1
  obtain⟨d0,d1⟩:=C2.c2
  have dl:=C2.lt
  obtain⟨e0,e1⟩:=C4.c2
  have ef:=fun i=>C4.frozen i
  have el:=C4.lt
  clear HS B0 B1 B2 B3 B4 B5
  go_wp2
  refine bodyPost_ret (v:=.tuple #[.agg #[.slice Al f.locals.length cl,.slice As f.stack.length cs],.bool false]) (by simp[results,Tryz.results76,go_sem, *]) rfl ?_
  refine⟨Fr.of0 ?_,_,_,_,_,_,_,rfl⟩
  exact frc
 | some r=>
  have hrl:=zck ho hl
  simp only[ho,Option.map_some,Option.bind_some] at hO HPA
  clear ho
  go_wp2_with fail
  rw[<-hwA]
  replace hwA:=Lib.hid hwA
  refine HPA.mono ?_
  rintro e w1 ⟨hf1,As',cs',rfl,hJ,hq⟩
  have C0:=B0.keep hf1
  have C1:=B1.keep hf1
  have C5:=B5.keep hf1
  have z0:=C0.c1
  have zl:=C0.lt
  obtain⟨m0,m1,m2,m3,m4,m5,m6,m7⟩:=C1.c8
  have ml:=C1.lt
  obtain⟨t0,t1⟩:=C5.c2
  have tl:=C5.lt
  have q2:Fr No w1 (w1.alloc (.cells #[.slice Al f.locals.length cl,.slice As' r.length cs'] tFr)):=frc
  have q3:=(hfA.trans0 hf1).trans0 q2
  have HSw:=HS _ r _ q3 (hJ.keep0 q2) hrl
  have D4:=B4.keep (hf1.trans0 q2)
  clear HS B0 B1 B2 B3 B4 B5 C0 C1 C5
  go_wp2_with fail
  refine HSw.mono ?_
  rintro e w3 hres
  have hf3:=hres.1
  have F4:=D4.keep hf3
  have hres2:=hres.2.then (vl:=.slice Al f.locals.length cl) (vs:=.slice As f.stack.length cs) (w0:=w) q3.size (fun q h=>h.elim (fun h=>.inl (.inl h)) (fun h=>.inr (by have:=hq q h;omega)))
  have q4:=q3.trans0 hf3
  rw[<-hO] at hres2
  obtain⟨A1,n1,c1,A2,n2,c2,rfl⟩:=hres2.is
  clear z0 zl m0 m1 m2 m3 m4 m5 m6 m7 ml t0 t1 tl hres HSw
  obtain⟨e0,e1⟩:=F4.c2
  have ef:=fun i=>F4.frozen i
  have el:=F4.lt
  go_wp2
  refine bodyPost_ret (v:=.tuple #[.agg #[.slice A1 n1 c1,.slice A2 n2 c2],.bool O.isSome]) (by simp[results,Tryz.results76,go_sem, *]) rfl ?_
  refine⟨Fr.of0 ?_,hres2.store F4⟩
  exact frc
theorem zcA (X Y:Nat->Prop) (p:Plan) (v vl vs:Value) (k0:Nat) (m:Mth) (ms:List Value) (f:Frm) (i:Ins) (w:World) (_:lodB p=true) (h:Sl X w 2 (KprC X w) v p.keepers) (_:k0<p.keepers.length) (hm:MthC Y w ms m) (h5:m.stack≤5) (hI:FrmI w vl vs f) (hl:f.stack.length≤1000) (hn:i.name.size≤maxLen) (hop:i.op=15):
  Calls Tryz.prog 76 #[.agg #[v],.int .i64 k0,.agg ms.toArray,.agg #[vl,vs],.agg #[.int .i64 i.op,.int .i64 i.a,.string i.name,.string i.member]] w (zfb vl vs (insF p k0 m f i) w):=by
 have hkw:=fun W (hW:Fr No w W)=>h.keep (R':=KprC X W) hW zN (fun _ _ _ h=>h.keep hW zN)
 have hmw:=fun W (hW:Fr No w W)=>hm.keep (Y:=No) hW zN
 have HP:=fun W (hW:Fr No w W)=>zkK vl vs f W (hI.keep0 hW) hl
 have HS:=fun(us:Value) (s:List Tag) W (hW:Fr No w W) (hJ:FrmI W vl us ⟨f.locals,s⟩)=>zfh Y m ms vl us ⟨f.locals,s⟩ (clsT i.name) W (hmw W hW) h5 hJ hn
 have hO:=zcv (p:=p) (k:=(k0:Int)) (m:=m) (f:=f) (i:=i) hop
 generalize insF p k0 m f i=O at *
 dsimp only[clsT] at HS hO
 have hlt:=fun q (h:rB vl vs q)=>hI.lt h
 obtain⟨A,cap,rfl,_,_⟩:=h.form
 obtain⟨va,vc,vm,rfl,_,_,har,hcr,hxr⟩:=hm
 obtain⟨Aa,ca,rfl,_,_⟩:=har.form
 obtain⟨Ac,cc,rfl,_,_⟩:=hcr.form
 obtain⟨Ax,cx,rfl,_,_⟩:=hxr.form
 obtain⟨Al,cl,As,cs,rfl,rfl,_,_,_,_⟩:=hI.form
 obtain⟨io,ia,inm,im⟩:=i
 dsimp only at *
 clear h hkw hmw har hcr hxr
 subst hop
 obtain⟨wA,hwA⟩:∃wA,wA=((((((w.alloc (.cells #[.slice A p.keepers.length cap] 32)).alloc (.cells #[.string m.name,.slice Aa m.args.length ca,.int .i64 m.ret.kind,.string m.ret.name,.int .i64 m.locals,.int .i64 m.stack,.slice Ac m.code.length cc,.slice Ax m.maps.length cx] 60)).alloc (.cells #[.slice Al f.locals.length cl,.slice As f.stack.length cs] tFr)).alloc (.cells #[.int .i64 15,.int .i64 ia,.string inm,.string im] 101)).alloc (.cells #[.slice none 0 0,.slice none 0 0] tFr)).alloc (.cells #[.int .i64 1,.string ⟨#[]⟩] tTag)):=⟨_,rfl⟩
 have hfA:Fr No w wA:=hwA▸frc
 have hsA:wA.heap.size=w.heap.size+6:=by rw[hwA];simp
 have B0:=(hwA▸bxc:Bx wA w.heap.size 32 #[.slice A p.keepers.length cap])
 have B1:=(hwA▸bxc:Bx wA (w.heap.size+1) 60 #[.string m.name,.slice Aa m.args.length ca,.int .i64 m.ret.kind,.string m.ret.name,.int .i64 m.locals,.int .i64 m.stack,.slice Ac m.code.length cc,.slice Ax m.maps.length cx])
 have B2:=(hwA▸bxc:Bx wA (w.heap.size+2) tFr #[.slice Al f.locals.length cl,.slice As f.stack.length cs])
 have B3:=(hwA▸bxc:Bx wA (w.heap.size+3) 101 #[.int .i64 15,.int .i64 ia,.string inm,.string im])
 have B4:=(hwA▸bxc:Bx wA (w.heap.size+4) tFr #[.slice none 0 0,.slice none 0 0])
 have B5:=(hwA▸bxc:Bx wA (w.heap.size+5) tTag #[.int .i64 1,.string ⟨#[]⟩])
 go_enter Tryz.func76,Tryz.ntmps76
 have HPA:=HP wA hfA
 clear HP
 cases ho:popR f.stack with
 | none=>
  simp only[ho,Option.map_none,Option.bind_none] at hO HPA
  subst hO
  go_wp2_with fail
  rw[<-hwA]
  replace hwA:=Lib.hid hwA
  refine HPA.mono ?_
  rintro e w1 ⟨hf1,rfl⟩
  have C2:=B2.keep hf1
  have C4:=B4.keep hf1
  obtain⟨d0,d1⟩:=C2.c2
  have dl:=C2.lt
  obtain⟨e0,e1⟩:=C4.c2
  have ef:=fun i=>C4.frozen i
  have el:=C4.lt
  clear HS B0 B1 B2 B3 B4 B5
  go_wp2
  refine bodyPost_ret (v:=.tuple #[.agg #[.slice Al f.locals.length cl,.slice As f.stack.length cs],.bool false]) (by simp[results,Tryz.results76,go_sem, *]) rfl ?_
  refine⟨Fr.of0 ?_,_,_,_,_,_,_,rfl⟩
  exact frc
 | some r=>
  simp only[ho,Option.map_some,Option.bind_some] at hO HPA
  clear ho
  go_wp2_with fail
  rw[<-hwA]
  replace hwA:=Lib.hid hwA
  refine HPA.mono ?_
  rintro e w1 ⟨hf1,As',cs',rfl,hJ,hq⟩
  have C1:=B1.keep hf1
  have C3:=B3.keep hf1
  obtain⟨m0,m1,m2,m3,m4,m5,m6,m7⟩:=C1.c8
  have ml:=C1.lt
  obtain⟨t0,t1,t2,t3⟩:=C3.c4
  have tl:=C3.lt
  have q2:Fr No w1 (w1.alloc (.cells #[.slice Al f.locals.length cl,.slice As' r.length cs'] tFr)):=frc
  have q3:=(hfA.trans0 hf1).trans0 q2
  have HSw:=HS _ r _ q3 (hJ.keep0 q2)
  have D4:=B4.keep (hf1.trans0 q2)
  clear HS B0 B1 B2 B3 B4 B5 C1 C3
  go_wp2_with fail
  refine HSw.mono ?_
  rintro e w3 ⟨hf3,hres⟩
  have F4:=D4.keepX hf3 (fun h=>by have:=hq _ h;omega)
  have hres2:=hres.2.then (vl:=.slice Al f.locals.length cl) (vs:=.slice As f.stack.length cs) (w0:=w) q3.size (fun q h=>h.elim (fun h=>.inl (.inl h)) (fun h=>.inr (by have:=hq q h;omega)))
  have q4:Fr No w w3:=q3.trans hf3 (fun b hb h=>by have:=hq _ h;omega)
  rw[<-hO] at hres2
  obtain⟨A1,n1,c1,A2,n2,c2,rfl⟩:=hres2.is
  clear m0 m1 m2 m3 m4 m5 m6 m7 ml t0 t1 t2 t3 tl hres HSw
  obtain⟨e0,e1⟩:=F4.c2
  have ef:=fun i=>F4.frozen i
  have el:=F4.lt
  go_wp2
  refine bodyPost_ret (v:=.tuple #[.agg #[.slice A1 n1 c1,.slice A2 n2 c2],.bool O.isSome]) (by simp[results,Tryz.results76,go_sem, *]) rfl ?_
  refine⟨Fr.of0 ?_,hres2.store F4⟩
  exact frc
end Go.Proofs.YthembcdcdnffeaaGreat
