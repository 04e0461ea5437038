/- What the statement's reading of an argument tells of the cells: lists of structs behind slices. -/
import Derived.Test.YtmeaibjmnjcdfaaGreatVG21
import Derived.ProofKit
import Derived.KernelRfl
import Derived.Deep.RegionHeld3
set_option maxHeartbeats 8000000
set_option maxRecDepth 100000
namespace Go.Proofs.YtmeaibjmnjcdfaaGreat
open Go.RowKit Go.Shelf
theorem ziE {α:Type}:∀(n:Nat) (p:Nat->α->Prop),(∀i,i<n->∃a,p i a)->∃l:List α,l.length=n∧∀i (hi:i<l.length),p i l[i]
 | 0,_,_=>⟨[],rfl,fun i hi=>absurd hi (by simp)⟩
 | n+1,p,h=>by
  obtain⟨a,ha⟩:=h 0 (by omega)
  obtain⟨l,hl,hp⟩:=ziE n (fun i=>p (i+1)) (fun i hi=>h (i+1) (by omega))
  refine⟨a :: l,by simp[hl],fun i hi=>?_⟩
  cases i with
  | zero=>exact ha
  | succ j=>exact hp j (by simpa using hi)
theorem ziF {α:Type} {R:List Value->α->Prop} {H:Type} {enc:TypeId×Value->H} {P:Program} {W:World} {sp:Nat->Bool} {held:Bool} {t e:TypeId} {sz:Nat} {v:Value} {fuel:Nat} {x:DataW H×List MemPlace}
  (ht:P.underlying t=some (.slice e)) (hc:P.cellsOf e=sz) (hpos:0<sz) (hR:∀fuel cs (y:DataW H×List MemPlace),DataW.trod enc P W 0 sp held fuel e cs=some y->∃a,R cs a)
  (h:DataW.trod enc P W 0 sp held fuel t [v]=some x):∃xs:List α,Sl No W sz R v xs:=by
 rcases DataW.trod_slice ht h with ⟨hv,_⟩ | ⟨a,len,cap,elems,rest,n,_,hv,_,_,hlc,hcm,hel,he,_,_⟩
 ·obtain rfl:=(List.cons.inj hv).1
  exact⟨[],Sl.nil _ _ _ _⟩
 ·obtain rfl:=(List.cons.inj hv).1
  rw[hc] at he
  obtain⟨xs,hxl,hxs⟩:=ziE (α:=α) len (fun i y=>∃cs,R cs y∧cs.length=sz∧∀j,j<sz->W.cell? ((a.add (i * sz)).add j)=cs[j]?) (fun i hi=>by
   have h1:=he i hi
   rw[lz8 (show i<elems.length by omega),Option.bind_eq_some_iff] at h1
   obtain⟨cs,h2,h3⟩:=h1
   obtain⟨y,hy⟩:=hR _ _ _ h3
   obtain⟨_,h4,h5⟩:=World.cells?_some h2
   exact⟨y,cs,hy,h4,h5⟩)
  refine⟨xs,some a,cap,by rw[hxl],by omega,by omega,fun h0=>?_⟩
  have hspot:a.spot=none:=by
   obtain⟨cs,_,hl,hcell⟩:=hxs 0 h0
   have h1:=hcell 0 hpos
   rw[lz8 (show 0<cs.length by omega)] at h1
   have h2:W.cell? a=some cs[0]:=by
    have e:(a.add (0 * sz)).add 0=a:=by simp[Addr.add]
    rwa [e] at h1
   unfold World.cell? at h2
   split at h2
   ·cases hs:a.spot
    ·rfl
    ·rw[hs] at h2;simp at h2
   ·cases h2
  obtain⟨b,off,spot⟩:=a
  dsimp only at hspot
  subst hspot
  refine⟨b,off,rfl,fun h=>h.elim,fun k hk=>?_⟩
  obtain⟨cs,hRc,hl,hcell⟩:=hxs k hk
  refine⟨cs,hRc,hl,fun j hj=>?_⟩
  rw[<-hcell j hj]
  congr 1
  unfold Addr.add
  split<;>split<;>simp_all [Nat.add_assoc]
section
variable {H:Type} {enc:TypeId×Value->H} {W:World} {sp:Nat->Bool} {held:Bool}
end
def zjt (q r:Ref):Bool:=decide (q.keeper=r.keeper)&&(q.name.toList == r.name.toList)
theorem zju {q r:Ref}:zjt q r=true↔q=r:=by
 obtain⟨qk,qn⟩:=q
 obtain⟨rk,rn⟩:=r
 unfold zjt
 simp only[lz5,decide_eq_true_eq,beq_iff_eq,Ref.mk.injEq]
 exact⟨fun h=>⟨h.1,str_eq h.2⟩,fun h=>⟨h.1,by rw[h.2]⟩⟩
theorem zjx {p:Plan}:∀{n m:Nat} {r:Ref} {rs:List Ref},upGo p n r=some rs->n≤m->upGo p m r=some rs
 | 0,_,_,_,h,_=>by cases h
 | n+1,0,_,_,_,hm=>absurd hm (by omega)
 | n+1,m+1,r,rs,h,hm=>by
  rw[upGo] at h ⊢
  by_cases h1:(zbG p r).super.toList.isEmpty=true
  ·rw[if_pos h1] at h ⊢;exact h
  ·rw[if_neg h1] at h ⊢
   by_cases h2:(whose p r.keeper (zbG p r).super).2=1
   ·rw[if_pos h2] at h ⊢
    rw[Option.map_eq_some_iff] at h ⊢
    obtain⟨xs,hx,he⟩:=h
    exact⟨xs,zjx hx (by omega),he⟩
   ·rw[if_neg h2] at h;cases h
def zjB (p:Plan) (rs:List Ref):List (Ref×Fld):=rs.flatMap fun r=>(zbG p r).fields.map (r,·)
theorem zjC (p:Plan) (r:Ref) (rs:List Ref):zjB p (r :: rs)=(zbG p r).fields.map (r,·) ++ zjB p rs:=by simp[zjB]
theorem zjD (p:Plan) (rs ts:List Ref):zjB p (rs ++ ts)=zjB p rs ++ zjB p ts:=by simp[zjB]
def zjE (p:Plan):List Ref->Ref->Nat
 | [],_=>0
 | r :: rs,q=>if zjt r q then 0 else (zbG p r).fields.length+zjE p rs q
structure LFld where
 of_:Ref
 at_:Int
 kind:Knd
def zjH (i:Nat):List (Ref×Fld)->List LFld
 | []=>[]
 | x :: xs=>⟨x.1,i,x.2.kind⟩ :: zjH (i+1) xs
theorem zjI:∀(xs ys:List (Ref×Fld)) (i:Nat),zjH i (xs ++ ys)=zjH i xs ++ zjH (i+xs.length) ys
 | [],ys,i=>by simp[zjH]
 | x :: xs,ys,i=>by rw[List.cons_append,zjH,zjI xs ys,zjH,List.cons_append,List.length_cons];congr 3;omega
theorem zjJ:∀(xs:List (Ref×Fld)) (i:Nat),(zjH i xs).length=xs.length
 | [],_=>rfl
 | x :: xs,i=>by rw[zjH,List.length_cons,zjJ xs,List.length_cons]
def layL (p:Plan) (rs:List Ref):List LFld:=zjH 0 (zjB p rs.reverse)
def layK (p:Plan) (r:Ref):List LFld:=layL p (zmF p r)
def layB (p:Plan) (r:Ref):List LFld:=if canB p r then layK p r else []
theorem zjL {c:Cls} (h:clsB c=true):c.fields.length≤3:=by
 unfold clsB at h
 simp only[lz5,decide_eq_true_eq] at h
 omega
theorem zjM {p:Plan} (hp:lodB p=true):∀{rs:List Ref},zhb p rs->(zjB p rs).length≤3 * rs.length
 | [],_=>by simp[zjB]
 | r :: rs,h=>by
  have ih:=zjM hp (rs:=rs) (fun x hx=>h x (by simp[hx]))
  rw[zjC]
  simp
  obtain⟨_,k,i,hh⟩:=h r (by simp)
  have:=zjL (Here.clsB hp hh)
  omega
def noS:Str:=⟨#[]⟩
def zem (p:Plan) (low top:Ref):Bool:=(zmF p low).any (fun r=>zjt r top)
structure Val where
 kind:Int
 n:Int
structure LMth where
 of_:Ref
 at_:Int
structure Obj where
 of_:Ref
 fields:List Val
structure Cal where
 of_:LMth
 pc:Int
 locals:List Val
 stack:List Val
structure St where
 status:Int
 frames:List Cal
 heap:List Obj
 outs:List Int
 back:Val
def OutC (cs:List Value) (n:Int):Prop:=cs=[.int .i64 n]
def ValC (cs:List Value) (v:Val):Prop:=cs=[.int .i64 v.kind,.int .i64 v.n]
def ObjC (X:Nat->Prop) (w:World) (cs:List Value) (o:Obj):Prop:=
 ∃vf,cs=[.int .i64 o.of_.keeper,.string o.of_.name,vf]∧o.of_.name.size≤maxLen∧Sl X w 2 ValC vf o.fields
def CalC (X:Nat->Prop) (w:World) (cs:List Value) (f:Cal):Prop:=
 ∃vl vs,cs=[.int .i64 f.of_.of_.keeper,.string f.of_.of_.name,.int .i64 f.of_.at_,.int .i64 f.pc,vl,vs]∧f.of_.of_.name.size≤maxLen∧Sl X w 2 ValC vl f.locals∧Sl X w 2 ValC vs f.stack
def StC (X:Nat->Prop) (w:World) (cs:List Value) (s:St):Prop:=
 ∃vf vh vo,cs=[.int .i64 s.status,vf,vh,vo,.int .i64 s.back.kind,.int .i64 s.back.n]∧Sl X w 6 (CalC X w) vf s.frames∧Sl X w 3 (ObjC X w) vh s.heap∧Sl X w 1 OutC vo s.outs
section
variable {X Y:Nat->Prop} {w w':World} {cs:List Value}
theorem ObjC.keep {o:Obj} (h:ObjC X w cs o) (hf:Fr Y w w') (hXY:∀b,Y b->X b):ObjC X w' cs o:=by
 obtain⟨vf,rfl,h1,h2⟩:=h
 exact⟨vf,rfl,h1,h2.keep hf hXY (fun _ _ _ h=>h)⟩
theorem CalC.keep {f:Cal} (h:CalC X w cs f) (hf:Fr Y w w') (hXY:∀b,Y b->X b):CalC X w' cs f:=by
 obtain⟨vl,vs,rfl,h1,h2,h3⟩:=h
 exact⟨vl,vs,rfl,h1,h2.keep hf hXY (fun _ _ _ h=>h),h3.keep hf hXY (fun _ _ _ h=>h)⟩
theorem StC.keep {s:St} (h:StC X w cs s) (hf:Fr Y w w') (hXY:∀b,Y b->X b):StC X w' cs s:=by
 obtain⟨vf,vh,vo,rfl,h1,h2,h3⟩:=h
 exact⟨vf,vh,vo,rfl,h1.keep hf hXY (fun _ _ _ h=>h.keep hf hXY),h2.keep hf hXY (fun _ _ _ h=>h.keep hf hXY),h3.keep hf hXY (fun _ _ _ h=>h)⟩
theorem ObjC.weaken {o:Obj} (h:ObjC X w cs o) (hYX:∀b,Y b->X b):ObjC Y w cs o:=by
 obtain⟨vf,rfl,h1,h2⟩:=h
 exact⟨vf,rfl,h1,h2.weaken hYX (fun _ _ _ h=>h)⟩
theorem CalC.weaken {f:Cal} (h:CalC X w cs f) (hYX:∀b,Y b->X b):CalC Y w cs f:=by
 obtain⟨vl,vs,rfl,h1,h2,h3⟩:=h
 exact⟨vl,vs,rfl,h1,h2.weaken hYX (fun _ _ _ h=>h),h3.weaken hYX (fun _ _ _ h=>h)⟩
theorem StC.weaken {s:St} (h:StC X w cs s) (hYX:∀b,Y b->X b):StC Y w cs s:=by
 obtain⟨vf,vh,vo,rfl,h1,h2,h3⟩:=h
 exact⟨vf,vh,vo,rfl,h1.weaken hYX (fun _ _ _ h=>h.weaken hYX),h2.weaken hYX (fun _ _ _ h=>h.weaken hYX),h3.weaken hYX (fun _ _ _ h=>h)⟩
theorem ObjC.old {o:Obj} (h:ObjC No w cs o):ObjC (fun b=>w.heap.size≤b) w cs o:=by
 obtain⟨vf,rfl,h1,h2⟩:=h
 exact⟨vf,rfl,h1,h2.old (by decide) (fun _ _ _ h=>h)⟩
theorem CalC.old {f:Cal} (h:CalC No w cs f):CalC (fun b=>w.heap.size≤b) w cs f:=by
 obtain⟨vl,vs,rfl,h1,h2,h3⟩:=h
 exact⟨vl,vs,rfl,h1,h2.old (by decide) (fun _ _ _ h=>h),h3.old (by decide) (fun _ _ _ h=>h)⟩
theorem StC.old {s:St} (h:StC No w cs s):StC (fun b=>w.heap.size≤b) w cs s:=by
 obtain⟨vf,vh,vo,rfl,h1,h2,h3⟩:=h
 exact⟨vf,vh,vo,rfl,h1.old (by decide) (fun _ _ _ h=>h.old),h2.old (by decide) (fun _ _ _ h=>h.old),h3.old (by decide) (fun _ _ _ h=>h)⟩
end
section
variable {X:Nat->Prop} {w:World} {A:Option Addr} {n cap:Nat}
theorem Sl.num {xs:List Int} (h:Sl X w 1 OutC (.slice A n cap) xs) {k:Nat} (hk:k<xs.length):
  ∃b off,A=some ⟨b,off,none⟩∧¬X b∧w.cell? ⟨b,off+k,none⟩=some (.int .i64 xs[k]):=by
 obtain⟨b,off,cs,hA,hX,rfl,hc⟩:=h.cells hk
 refine⟨b,off,hA,hX,?_⟩
 have:=hc 0 _ (by decide) rfl
 simpa using this
theorem Sl.val {xs:List Val} (h:Sl X w 2 ValC (.slice A n cap) xs) {k:Nat} (hk:k<xs.length):
  ∃b off,A=some ⟨b,off,none⟩∧¬X b∧w.cell? ⟨b,off+k * 2,none⟩=some (.int .i64 xs[k].kind)∧w.cell? ⟨b,off+k * 2+1,none⟩=some (.int .i64 xs[k].n):=by
 obtain⟨b,off,cs,hA,hX,rfl,hc⟩:=h.cells hk
 exact⟨b,off,hA,hX,hc 0 _ (by decide) rfl,hc 1 _ (by decide) rfl⟩
theorem Sl.obj {xs:List Obj} (h:Sl X w 3 (ObjC X w) (.slice A n cap) xs) {k:Nat} (hk:k<xs.length):
  ∃b off Af cf,A=some ⟨b,off,none⟩∧¬X b∧w.cell? ⟨b,off+k * 3,none⟩=some (.int .i64 xs[k].of_.keeper)∧w.cell? ⟨b,off+k * 3+1,none⟩=some (.string xs[k].of_.name)∧w.cell? ⟨b,off+k * 3+2,none⟩=some (.slice Af xs[k].fields.length cf)∧xs[k].of_.name.size≤maxLen∧Sl X w 2 ValC (.slice Af xs[k].fields.length cf) xs[k].fields∧xs[k].fields.length≤cf∧xs[k].fields.length≤maxLen:=by
 obtain⟨b,off,cs,hA,hX,⟨vf,rfl,z0,hvf⟩,hc⟩:=h.cells hk
 obtain⟨Af,cf,rfl,pvf,qvf⟩:=hvf.form
 exact⟨b,off,Af,cf,hA,hX,hc 0 _ (by decide) rfl,hc 1 _ (by decide) rfl,hc 2 _ (by decide) rfl,z0,hvf,pvf,qvf⟩
theorem Sl.cal {xs:List Cal} (h:Sl X w 6 (CalC X w) (.slice A n cap) xs) {k:Nat} (hk:k<xs.length):
  ∃b off Al cl As cs,A=some ⟨b,off,none⟩∧¬X b∧w.cell? ⟨b,off+k * 6,none⟩=some (.int .i64 xs[k].of_.of_.keeper)∧w.cell? ⟨b,off+k * 6+1,none⟩=some (.string xs[k].of_.of_.name)∧w.cell? ⟨b,off+k * 6+2,none⟩=some (.int .i64 xs[k].of_.at_)∧w.cell? ⟨b,off+k * 6+3,none⟩=some (.int .i64 xs[k].pc)∧w.cell? ⟨b,off+k * 6+4,none⟩=some (.slice Al xs[k].locals.length cl)∧w.cell? ⟨b,off+k * 6+5,none⟩=some (.slice As xs[k].stack.length cs)∧xs[k].of_.of_.name.size≤maxLen∧Sl X w 2 ValC (.slice Al xs[k].locals.length cl) xs[k].locals∧Sl X w 2 ValC (.slice As xs[k].stack.length cs) xs[k].stack∧xs[k].locals.length≤cl∧xs[k].locals.length≤maxLen∧xs[k].stack.length≤cs∧xs[k].stack.length≤maxLen:=by
 obtain⟨b,off,cs,hA,hX,⟨vl,vs,rfl,z0,hvl,hvs⟩,hc⟩:=h.cells hk
 obtain⟨Al,cl,rfl,pvl,qvl⟩:=hvl.form
 obtain⟨As,cs,rfl,pvs,qvs⟩:=hvs.form
 exact⟨b,off,Al,cl,As,cs,hA,hX,hc 0 _ (by decide) rfl,hc 1 _ (by decide) rfl,hc 2 _ (by decide) rfl,hc 3 _ (by decide) rfl,hc 4 _ (by decide) rfl,hc 5 _ (by decide) rfl,z0,hvl,hvs,pvl,qvl,pvs,qvs⟩
theorem Bx.c6 {g:Nat} {t:TypeId} {c0 c1 c2 c3 c4 c5:Value} (h:Bx w g t #[c0,c1,c2,c3,c4,c5]):w.cell? ⟨g,0,none⟩=some c0∧w.cell? ⟨g,1,none⟩=some c1∧w.cell? ⟨g,2,none⟩=some c2∧w.cell? ⟨g,3,none⟩=some c3∧w.cell? ⟨g,4,none⟩=some c4∧w.cell? ⟨g,5,none⟩=some c5:=
 ⟨h.cell 0,h.cell 1,h.cell 2,h.cell 3,h.cell 4,h.cell 5⟩
end
def numB (n:Int):Bool:=decide (-9999≤n)&&decide (n≤9999)
def valB (many:Int) (v:Val):Bool:=
 if v.kind=1 then numB v.n else if v.kind=2 then decide (0≤v.n)&&decide (v.n<many) else (decide (v.kind=0) || decide (v.kind=3))&&decide (v.n=0)
def zv2:Obj:=⟨zbH,[]⟩
def zo2:Mth:=⟨noS,[],⟨0,noS⟩,0,0,[],[]⟩
def hasB (p:Plan) (k:Int) (h:List Obj) (v:Val) (t:Knd):Bool:=
 if t.kind=1 then decide (v.kind=1) else if v.kind=3 then true else
  if v.kind=2 then decide ((zmD p k t.name).2=1)&&zem p (h.getD v.n.toNat zv2).of_ (zmD p k t.name).1 else false
def zo3 (p:Plan) (m:LMth):Mth:=(zbG p m.of_).methods.getD m.at_.toNat zo2
theorem zv3 {α:Type} {xs:List α} {i:Nat} (h:i<xs.length) (d:α):xs.getD ((i:Int).toNat) d=xs[i]:=by
 simp[List.getD,lz8 h]
theorem zv4 {α:Type} {f:α->Bool} {xs:List α} {k:Nat} (hk:k<xs.length) (h:(xs.take k).all f=true) (hf:f xs[k]=true):(xs.take (k+1)).all f=true:=by
 rw[List.take_succ_eq_append_getElem hk,List.all_append,h];simp[hf]
theorem zv5 {α:Type} {f:α->Bool} {xs:List α} {k:Nat} (hk:k<xs.length) (hf:f xs[k]=false):xs.all f=false:=by
 rw[List.all_eq_false]
 exact⟨_,List.getElem_mem hk,by simp[hf]⟩
attribute [local go_sem] Oper.semAt_some
def bwA (x:Int×Ref):Array Value:=#[.int .i64 x.1,.agg #[.int .i64 x.2.keeper,.string x.2.name]]
def bwOK (xs:List Ref) (j:Nat) (x:Int×Ref):Prop:=j<xs.length∧x.1=(xs.length:Int)-1-j∧xs[xs.length-1-j]? =some x.2
theorem zaF (Y:Nat->Prop) (xs:List Ref) (A:Option Addr) (cap c L n:Nat) (T:Nat->World->Prop) (Tx:World->Prop) (hlen:xs.length≤1000000)
  (hT:∀j W,T j W->Bx W c 180 #[.slice A xs.length cap]∧Sl Y W 2 RefC (.slice A xs.length cap) xs)
  (Z Zd:World->Prop)
  (hY:∀s x W,T s W->Z W->bwOK xs s x->YieldAt Fence.wide n Tryz.prog L (bwA x) W (fun e W'=>(e=.returned (.bool true)∧T (s+1) W'∧Z W')∨(e=.returned (.bool false)∧Tx W'∧Zd W')))
  (W1:World) (h1:T 0 W1) (hz:Z W1):
  CallsIn Fence.wide (n+1) Tryz.prog 201 #[.func (.yield L) #[] #[],.pointer (some ⟨c,0,none⟩)] W1
   (fun e W'=>(∃v,e=.returned v)∧((∃s,s=xs.length∧T s W'∧Z W')∨(Tx W'∧Zd W'))):=by
 refine callsIn_of_wp Tryz.func201 rfl trivial ?_ rfl
 simp only[Tryz.ntmps201,List.size_toArray,List.length_cons,List.length_nil,Nat.reduceAdd,Nat.reduceSub,Array.replicate_succ,Array.replicate_zero,List.push_toArray,List.append_toArray,List.nil_append,List.cons_append]
 have b0:=(hT 0 W1 h1).1.c1
 have bl:=(hT 0 W1 h1).1.lt
 gi_wp2
 gi_loopw [3] (fun u wr=>∃j:Nat,j≤xs.length∧u=.int .i64 ((xs.length:Int)-1-j)∧T j wr∧Z wr) (fun u _=>(intOf u+1).toNat)
 case atStart=>exact⟨0,Nat.zero_le _,by simp,h1,hz⟩
 case round=>
  clear h1 hz b0 bl
  obtain⟨j,hj,rfl,hTj,hzj⟩:=hrel
  obtain⟨hb,hs⟩:=hT j wr hTj
  have b0:=hb.c1
  have bl:=hb.lt
  by_cases hlt:j<xs.length
  ·have hk:xs.length-1-j<xs.length:=by omega
   have hidx:((xs.length:Int)-1-j).toNat=xs.length-1-j:=by omega
   obtain⟨fn,tmps,assign,body,hy,hR⟩:=hY j ((xs.length:Int)-1-j,xs[xs.length-1-j]) wr hTj hzj ⟨hlt,rfl,lz8 hk⟩
   obtain⟨b,off,rfl,_,c0,c1,_⟩:=hs.ref hk
   have cl:=lt_of_cell c0
   dsimp only[bwA] at hy
   gi_wp2
   refine hR.mono ?_
   rintro e W3 (⟨rfl,hT3,hz3⟩ | ⟨rfl,hX3,hzd3⟩)
   ·clear b0 bl c0 c1 cl hy hR hs hb
    gi_wp2
    go_roundw
    case rel=>exact⟨j+1,by omega,by congr 1;omega,hT3,hz3⟩
    case measure=>simp[intOf];omega
   ·clear b0 bl c0 c1 cl hy hR hs hb
    gi_wp2
    refine bodyPost_ret (results_none rfl _ _ _) rfl ?_
    exact⟨⟨_,rfl⟩,.inr ⟨hX3,hzd3⟩⟩
  ·clear hs hb
   obtain rfl:j=xs.length:=by omega
   have e0:(xs.length:Int)-1-(xs.length:Int)=-1:=by omega
   rw[e0]
   clear e0
   gi_wp2
   go_end0
   exact⟨⟨_,rfl⟩,.inl ⟨xs.length,rfl,hTj,hzj⟩⟩
theorem zaG {n:Nat} {g:Operand} {ps:Array Tmp} {assign body:Code} {Q:Exit->Act->World->Prop} {a:Act} {w:World} (Y:Nat->Prop) (xs:List Ref) (A:Option Addr) (cap c:Nat) (hlen:xs.length≤1000000)
  (hg:a.eval g=.func (.func 201) #[] #[.pointer (some ⟨c,0,none⟩)]) (hps:ps.size=2) (T:Nat->World->Prop) (Tx:World->Prop)
  (hTb:∀j W,T j W->Bx W c 180 #[.slice A xs.length cap]∧Sl Y W 2 RefC (.slice A xs.length cap) xs)
  (hT:∀j W W',T j W->Fr (fun b=>b=w.heap.size+1) W W'->T j W')
  (hTx:∀W W',Tx W->Fr (fun b=>b=w.heap.size+1) W W'->Tx W')
  (h0:∀o o',T 0 ((w.alloc o).alloc o')) (hc:c<w.heap.size)
  (hround:∀j x W,T j W->bwOK xs j x->w.heap.size+1<W.heap.size->
   assign.wpIn (Fence.wide.inRound (w.heap.size+1)) (n+2-1-1) Tryz.prog (Exit.then (fun a1 W1=>(W1.heap[w.heap.size+1]? =W.heap[w.heap.size+1]?∧W1.heap[w.heap.size]? =W.heap[w.heap.size]?) ∧
    ∀W2,Fr (fun b=>b=w.heap.size+1) W1 W2->body.wpIn (Fence.wide.inRound (w.heap.size+1)) (n+2-1-1) Tryz.prog
     (zgI (T (j+1)) Tx (fun W3=>W3.heap[w.heap.size+1]? =W2.heap[w.heap.size+1]?∧W3.heap[w.heap.size]? =W2.heap[w.heap.size]?)) a1 W2) (fun _ _ _=>False))
    { tmps:=(ps.zip (bwA x)).foldl (fun t (p,v)=>t.setIfInBounds p v) a.tmps,defers:=[] } W)
  (hdone:∀W,T xs.length W->W.heap[w.heap.size]? =some (.deferred (some []))->Q .normal { a with defers:={ target:=.collected w.heap.size,args:=#[] } :: a.defers } W)
  (hstop:∀W,Tx W->W.heap[w.heap.size]? =some (.deferred (some []))->Code.ret.wpIn Fence.wide (n+2) Tryz.prog Q { a with defers:={ target:=.collected w.heap.size,args:=#[] } :: a.defers } W):
  (Code.rangeFunc g ps assign body).wpIn Fence.wide (n+2) Tryz.prog Q a w:=
 zgJ (F:=Fence.wide) rfl (by omega) hg trivial (enters_of Tryz.func201 (by kernel_rfl) rfl)
  bwA (fun _=>hps.symm) T Tx (bwOK xs) (fun j _=>j+1) 0 (fun s=>s=xs.length) c hc hT hTx h0 hround
  (fun Z Zd _ _ hY W1 h1 hz=>zaF Y xs A cap c _ _ T Tx hlen hTb Z Zd hY W1 h1 hz)
  (fun s W hs hT=>by subst hs;exact hdone W hT) hstop
theorem zaI (A:Option Addr) (n c:Nat) (w:World):Calls Tryz.prog 154 #[.slice A n c] w
  (fun e w'=>e=.returned (.func (.func 201) #[] #[.pointer (some ⟨w.heap.size,0,none⟩)])∧w'=w.alloc (.cells #[.slice A n c] 180)):=by
 have hmf:∀(fn:Fn) (first cap:Array Value) (w:World),(Instr.makeFunc fn first cap).run Tryz.prog w=.ok (.func fn first cap) w:=fun _ _ _ _=>rfl
 go_enter Tryz.func154,Tryz.ntmps154
 go_wp2
 go_ret
 exact⟨rfl,rfl⟩
theorem zaJ {w:World} {v:Value} {rs:List Ref} {b:Nat} {t:TypeId} {A:Option Addr} {n c:Nat} (h:Sl No w 2 RefC v rs) (hb:Bx w b t #[.slice A n c]):Sl (fun x=>x=b∨w.heap.size≤x) w 2 RefC v rs:=by
 obtain⟨A',cap,rfl,h1,h2,h3⟩:=h
 refine⟨A',cap,rfl,h1,h2,fun h0=>?_⟩
 obtain⟨g,off,rfl,hX,hc⟩:=h3 h0
 refine⟨g,off,rfl,?_,hc⟩
 obtain⟨cs,⟨rfl,_⟩,_,hcs⟩:=hc 0 h0
 have c0:=hcs 0 (by decide)
 simp only[Nat.zero_mul,Nat.add_zero,lz3] at c0
 have hl:=lt_of_cell c0
 rintro(rfl|h)
 ·rw[hb.cell] at c0
  rcases off with _|off
  ·simp at c0
  ·simp at c0
 ·omega
def zlt (c1 c2:Cls) (o:Mth->Bool):Bool:=c1.fields.all (fun f=>decide (ixOf (zeT f.name) c2.fields<0))&&c1.methods.all o
theorem zlu (l bl n:Nat) (p:Plan) (g:Int->Str->Option Int) (k1 i1 k2 i2:Nat) (s1 s2:Str) (w:World) (h:zgF w l bl n p g) (hh1:Here p ⟨k1,s1⟩ k1 i1) (hh2:Here p ⟨k2,s2⟩ k2 i2) (hs1:s1.size≤maxLen) (hs2:s2.size≤maxLen):
  Calls Tryz.prog 151 #[.pointer (some ⟨l,0,none⟩),.agg #[.int .i64 k1,.string s1],.agg #[.int .i64 k2,.string s2]] w (zgm (zhm p ⟨k1,s1⟩ ⟨k2,s2⟩) w):=by
 obtain⟨Af1,cf1,Am1,cm1,hR1,HC1⟩:=zbd l bl n p g k1 s1 i1 w h hh1.2.1 hs1 (zbC p k1) rfl hh1.2.2.1 hh1.2.2.2
 obtain⟨Af2,cf2,Am2,cm2,hR2,HC2⟩:=zbd l bl n p g k2 s2 i2 w h hh2.2.1 hs2 (zbC p k2) rfl hh2.2.2.1 hh2.2.2.2
 rw[<-hh1.cls] at hR1 HC1
 rw[<-hh2.cls] at hR2 HC2
 show Calls _ _ _ _ (zgm (zlt (zbG p ⟨k1,s1⟩) (zbG p ⟨k2,s2⟩) (zhl p k1 k2 (zbG p ⟨k2,s2⟩))) w)
 generalize zbG p ⟨k1,s1⟩=c1 at *
 generalize zbG p ⟨k2,s2⟩=c2 at *
 have hK1:Bx ((w.alloc (.cells #[.int .i64 k1,.string s1] 108)).alloc (.cells #[.int .i64 k2,.string s2] 108)) w.heap.size 108 #[.int .i64 k1,.string s1]:=by exact bxc
 have hK2:Bx ((w.alloc (.cells #[.int .i64 k1,.string s1] 108)).alloc (.cells #[.int .i64 k2,.string s2] 108)) (w.heap.size+1) 108 #[.int .i64 k2,.string s2]:=by exact bxc
 have hwA:Fr No w ((w.alloc (.cells #[.int .i64 k1,.string s1] 108)).alloc (.cells #[.int .i64 k2,.string s2] 108)):=((Fr.refl No w).alloc _).alloc _
 go_enter Tryz.func151,Tryz.ntmps151
 go_wp2_with fail
 generalize((w.alloc (.cells #[.int .i64 k1,.string s1] 108)).alloc (.cells #[.int .i64 k2,.string s2] 108))=wA at *
 obtain⟨a0,a1⟩:=hK1.c2
 obtain⟨b0,b1⟩:=hK2.c2
 have la:=hK1.lt
 have lb:=hK2.lt
 have mr0:¬(wA.heap.size=w.heap.size):=(by omega)
 have mr1:¬(w.heap.size=wA.heap.size):=(by omega)
 have mr2:¬(wA.heap.size=w.heap.size+1):=(by omega)
 have mr3:¬(w.heap.size+1=wA.heap.size):=(by omega)
 have mr4:¬(wA.heap.size+1=w.heap.size):=(by omega)
 have mr5:¬(w.heap.size=wA.heap.size+1):=(by omega)
 have mr6:¬(wA.heap.size+1=w.heap.size+1):=(by omega)
 have mr7:¬(w.heap.size+1=wA.heap.size+1):=(by omega)
 refine zn0 8 21 [mV (.pointer (some ⟨l,0,none⟩)),mV (.agg #[.int .i64 k1,.string s1]),mV (.agg #[.string c1.name,.string c1.super,.slice Af1 c1.fields.length cf1,.slice Am1 c1.methods.length cm1]),mV (.pointer (some ⟨l,0,none⟩)),mV (.agg #[.int .i64 k2,.string s2]),mV (.agg #[.string c2.name,.string c2.super,.slice Af2 c2.fields.length cf2,.slice Am2 c2.methods.length cm2]),mB 55 (#[.string ⟨#[]⟩,.string ⟨#[]⟩,.slice none 0 0,.slice none 0 0]) wA.heap.size,mB 55 (#[.string ⟨#[]⟩,.string ⟨#[]⟩,.slice none 0 0,.slice none 0 0]) wA.heap.size] (by kernel_rfl) (by kernel_rfl) (by simp) ?_ ?_
 ·refine hc4 ?_ ?_ ?_ ?_ <| hc4 ?_ ?_ ?_ ?_ <| hopZ
  all_goals (intro a' W hW hoff hdep;have hbs:=hW.size;have A0:=cr a0;have A1:=cr a1;have B0:=cr b0;have B1:=cr b1;have H0:=hoff 0 rfl;have H4:=hoff 4 rfl;have H5:=hoff 5 rfl;refine nE rfl ?_)
  ·simp[execOp,Act.eval,H0,go_sem,zaa];exact fr1 rfl
  ·exact gx0
  ·have D15:_=_:=hdep 0 15 rfl;have D16:_=_:=hdep 1 16 rfl;simp[Act.eval,D15,D16,go_sem,zaa];exact(HC1 _ (hwA.trans0 hW)).mono fun e w'' h=>⟨_,h.1,h.2,rfl⟩
  ·simp[execOp,Act.eval,H0,go_sem,zaa];exact fr1 rfl
  ·exact gx0
  ·have D18:_=_:=hdep 3 18 rfl;have D19:_=_:=hdep 4 19 rfl;simp[Act.eval,D18,D19,go_sem,zaa];exact(HC2 _ (hwA.trans0 hW)).mono fun e w'' h=>⟨_,h.1,h.2,rfl⟩
  ·simp[execOp,go_sem,zaa];exact⟨(Fr.refl _ _).alloc _,⟨_,rfl,Bx.new_ rfl,hbs⟩,Nat.le_refl _⟩
  ·simp[execOp,go_sem,zaa];exact⟨(Fr.refl _ _).alloc _,⟨_,rfl,Bx.new_ rfl,hbs⟩,Nat.le_refl _⟩
 intro vs W7 hW hv hne
 obtain⟨b6,e6,hb6,hl6⟩:=hv 6 (by omega)
 obtain⟨b7,e7,hb7,hl7⟩:=hv 7 (by omega)
 have hne2:=hne 6 7 (by omega) (by omega) (by omega) rfl rfl;rw[e6,e7] at hne2;clear hne;have hne:b6≠b7:=hne2;clear hne2
 simp only[lz6,List.drop_zero,znP,znK,znR,Nat.zero_add,Nat.reduceAdd,e6,e7]
 simp only[Act.put,lz0,lz1,lz2]
 clear e6 e7 hv
 have hw7:Fr No w W7:=hwA.trans0 hW
 clear a0 a1 b0 b1 la mr0 mr1 mr2 mr3 mr4 mr5 mr6 mr7
 replace hK1:=hK1.keep hW
 replace hK2:=hK2.keep hW
 obtain⟨z0,z1,z2,z3⟩:=hb6.c4
 obtain⟨y0,y1,y2,y3⟩:=hb7.c4
 have zf:=fun j=>hb6.frozen j
 have yf:=fun j=>hb7.frozen j
 have hne':¬b7=b6:=fun h=>hne h.symm
 have X7:=hb6.lt
 have X8:=hb7.lt
 have hsw:=hwA.size
 go_wp2
 refine zaE (fun W=>Bx W b6 55 #[.string c1.name,.string c1.super,.slice Af1 c1.fields.length cf1,.slice Am1 c1.methods.length cm1]∧Bx W b7 55 #[.string c2.name,.string c2.super,.slice Af2 c2.fields.length cf2,.slice Am2 c2.methods.length cm2] ∧
  Bx W w.heap.size 108 #[.int .i64 k1,.string s1]∧Bx W (w.heap.size+1) 108 #[.int .i64 k2,.string s2]∧Fr No w W) ⟨Bx.far4 hne (Bx.fillZ hb6),Bx.fillZ (Bx.far4 (Ne.symm hne) hb7),Bx.far4 (by omega) (Bx.far4 (by omega) hK1),Bx.far4 (by omega) (Bx.far4 (by omega) hK2),frc⟩ ?_
 rintro Wz ⟨hc7,hc8,hc5,hc6,hwz⟩
 clear z0 z1 z2 z3 y0 y1 y2 y3 zf yf hne hne' hb6 hb7 hK1 hK2 hw7 hW X7 X8 hwA
 obtain⟨vf1,vm1,he,hz01,hz11,hf1,hm1⟩:=hR1
 simp only[List.cons.injEq,true_and,and_true] at he
 obtain⟨rfl,rfl⟩:=he
 have hC2:=hR2
 obtain⟨vf2,vm2,he,hz02,hz12,hf2,hm2⟩:=hR2
 simp only[List.cons.injEq,true_and,and_true] at he
 obtain⟨rfl,rfl⟩:=he
 have hlens:c1.methods.length≤maxLen∧c2.methods.length≤maxLen∧c1.fields.length≤maxLen∧c2.fields.length≤maxLen:=⟨hm1.at_.2.2.1,hm2.at_.2.2.1,hf1.at_.2.2.1,hf2.at_.2.2.1⟩
 unfold maxLen at hlens
 obtain⟨hl1,hl2,hl3,hl4⟩:=hlens
 have K7:=hc7.r4
 have K8:=hc8.r4
 have K5:=hc5.r2
 have K6:=hc6.r2
 clear HC1 HC2 hc7 hc8 hc5 hc6
 clear lb hl6 hl7 hsw
 clear wA
 have hd0:Hid (zlt c1 c2 (zhl p k1 k2 c2)=(c1.fields.all (fun f=>decide (ixOf (zeT f.name) c2.fields<0))&&c1.methods.all (zhl p k1 k2 c2))):=rfl
 have HF:=fun s W (hW:Fr No w W)=>zgT _ c2 _ s W (hC2.keep hW zN)
 have HM:=fun s W (hW:Fr No w W)=>zgQ _ c2 _ s W (hC2.keep hW zN)
 have HA:=fun cs m W (hW:Fr No w W) hm=>zgN (fun b=>b=bl) l bl n p g k1 k2 m cs W (h.keep hW) hm
 replace hd0:Hid (zlt c1 c2 (zhl p k1 k2 c2)=((c1.fields.drop 0).all (fun f=>decide (ixOf (zeT f.name) c2.fields<0))&&c1.methods.all (zhl p k1 k2 c2))):=hd0
 clear hC2 h
 go_loopw [24,6] (fun i r wr=>∃k:Nat,k≤c1.fields.length∧i=.int .i64 k∧r=.bool false∧Hid (zlt c1 c2 (zhl p k1 k2 c2)=((c1.fields.drop k).all (fun f=>decide (ixOf (zeT f.name) c2.fields<0))&&c1.methods.all (zhl p k1 k2 c2)))∧Fr No Wz wr) (fun i _ _=>c1.fields.length-(intOf i).toNat)
 case atStart=>exact⟨0,Nat.zero_le _,rfl,rfl,hd0,Fr.refl _ _⟩
 case round=>
  clear hd0
  obtain⟨k,hk,rfl,rfl,hd,hf⟩:=hrel
  by_cases hlt:k<c1.fields.length
  ·obtain⟨b9,off,rfl,hX,q0,q1,q2,hz1,hz2⟩:=(hf1.keep (R':=FldC) (hwz.trans0 hf) zN (fun _ _ _ h=>h)).fld hlt
   have hbl:=lt_of_cell q0
   have HF:=fun W (hW:Fr No w W)=>HF c1.fields[k].name W hW
   rw[List.drop_eq_getElem_cons hlt,List.all_cons] at hd
   have hd:=Lib.hid hd
   have hrg:=zeS (zeT c1.fields[k].name) c2.fields
   clear hf1 hf2 hm1 hm2 HM HA
   generalize c1.fields[k]=f at *
   generalize ixOf (zeT f.name) c2.fields=ix at *
   by_cases h0:ix<0
   ·have HS:Hid (zlt c1 c2 (zhl p k1 k2 c2)=((c1.fields.drop (k+1)).all (fun f=>decide (ixOf (zeT f.name) c2.fields<0))&&c1.methods.all (zhl p k1 k2 c2))):=hd.out.out.trans (by rw[decide_eq_true h0];simp)
    clear hd
    go_wp2_with (go_at_call 198;refine(HF _ frc).mono ?_;rintro e w2 ⟨rfl,hf2⟩)
    go_roundw
    case rel=>exact⟨k+1,by omega,by go_num,rfl,HS,frc⟩
    case measure=>simp[intOf];omega
   ·have HS:Hid (zlt c1 c2 (zhl p k1 k2 c2)=false):=hd.out.out.trans (by rw[decide_eq_false h0];simp)
    clear hd
    go_wp2_with (go_at_call 198;refine(HF _ frc).mono ?_;rintro e w2 ⟨rfl,hf2⟩)
    go_ret
    exact .mk HS.out.symm frc
  ·have HS0:Hid (zlt c1 c2 (zhl p k1 k2 c2)=(c1.methods.drop 0).all (zhl p k1 k2 c2)):=hd.out.trans (by rw[List.drop_eq_nil_of_le (by omega)];rfl)
   clear hd hf1 hf2 HF
   have hwr:Fr No w wr:=hwz.trans0 hf
   go_wp2
   obtain⟨wy,rfl⟩:∃wy:World,wy=wr:=⟨_,rfl⟩
   go_loopw [37,6] (fun i r wq=>∃j:Nat,j≤c1.methods.length∧i=.int .i64 j∧r=.bool false∧Hid (zlt c1 c2 (zhl p k1 k2 c2)=(c1.methods.drop j).all (zhl p k1 k2 c2))∧Fr No Wz wq) (fun i _ _=>c1.methods.length-(intOf i).toNat)
   case atStart=>exact⟨0,Nat.zero_le _,rfl,rfl,HS0,hf⟩
   case round=>
    clear HS0 hf hwr
    obtain⟨j,hj,rfl,rfl,hd,hf⟩:=hrel
    by_cases hlj:j<c1.methods.length
    ·have hwr:Fr No w wr:=hwz.trans0 hf
     obtain⟨bm,om,Aam,cam,Acm,ccm,Axm,cxm,rfl,hXm,c0,c1',c2',c3,c4,c5,c6,c7,hr1,hr2,hr3,hr4,hr5,_,_,_,_,_,_⟩:=(hm1.keep (R':=MthC (fun b=>b=bl) wr) hwr zN (fun _ _ _ h=>h.keep hwr zN)).mth hlj
     have hRm:MthC (fun b=>b=bl) wr [.string c1.methods[j].name,.slice Aam c1.methods[j].args.length cam,.int .i64 c1.methods[j].ret.kind,.string c1.methods[j].ret.name,.int .i64 c1.methods[j].locals,.int .i64 c1.methods[j].stack,.slice Acm c1.methods[j].code.length ccm,.slice Axm c1.methods[j].maps.length cxm] c1.methods[j]:=⟨_,_,_,rfl,hr1,hr2,hr3,hr4,hr5⟩
     have lm:=lt_of_cell c0
     have HM:=fun W (hW:Fr No w W)=>HM c1.methods[j].name W hW
     have HAm:=fun W (hW:Fr No wr W)=>HA _ c1.methods[j] W (hwr.trans0 hW) (hRm.keep hW zN)
     rw[List.drop_eq_getElem_cons hlj,List.all_cons] at hd
     have hd:=Lib.hid hd
     have hrg:=zeS (zeU c1.methods[j].name) c2.methods
     clear hr1 hr2 hr4 hr5 hRm HA hm1
     generalize c1.methods[j]=m at *
     have KM:=(Bx.new wr 125 #[.string m.name,.slice Aam m.args.length cam,.int .i64 m.ret.kind,.string m.ret.name,.int .i64 m.locals,.int .i64 m.stack,.slice Acm m.code.length ccm,.slice Axm m.maps.length cxm]).r8
     by_cases h0:ixOf (zeU m.name) c2.methods<0
     ·have hov:zhl p k1 k2 c2 m=true:=by unfold zhl;rw[if_pos h0]
      have HS:Hid (zlt c1 c2 (zhl p k1 k2 c2)=(c1.methods.drop (j+1)).all (zhl p k1 k2 c2)):=hd.out.out.trans (by rw[hov,Bool.true_and])
      clear hd hm2 hov hr3 HAm
      generalize ixOf (zeU m.name) c2.methods=ix at *
      go_wp2_with (go_at_call 152;refine(HM _ frc).mono ?_;rintro e w2 ⟨rfl,hf2⟩)
      go_roundw
      case rel=>exact⟨j+1,by omega,by go_num,rfl,HS,frc⟩
      case measure=>simp[intOf];omega
     ·obtain⟨i,hi,hii⟩:∃(i:Nat) (_:i<c2.methods.length),ixOf (zeU m.name) c2.methods=(i:Int):=⟨(ixOf (zeU m.name) c2.methods).toNat,by omega,by omega⟩
      have hov:zhl p k1 k2 c2 m=(kEq m.ret c2.methods[i].ret&&ksEq m.args c2.methods[i].args&&zgM p k1 k2 m):=by
       unfold zhl
       rw[if_neg h0,hii]
       simp[List.getD,lz8 hi]
      obtain⟨bn,on,Aan,can,Acn,ccn,Axn,cxn,rfl,hXn,d0,d1,d2,d3,d4,d5,d6,d7,_,_,hs3,_,_,_,_,_,_,_,_⟩:=(hm2.keep (R':=MthC (fun b=>b=bl) wr) hwr zN (fun _ _ _ h=>h.keep hwr zN)).mth hi
      have HE:=fun W (hW:Fr No wr W)=>zgV _ _ _ _ m.args c2.methods[i].args W (hr3.k0 hW) (hs3.k0 hW)
      rw[hii] at HM
      have hcm:i<c2.methods.length:=hi
      have hk0:(0:Int)≤(i:Int):=by omega
      have hki:(i:Int)<(c2.methods.length:Int):=by omega
      clear hm2 hr3 hs3 hii h0 hrg
      replace hov:=Lib.hid hov
      generalize c2.methods[i]=n2 at *
      replace d0:=cr d0
      replace d1:=cr d1
      replace d2:=cr d2
      replace d3:=cr d3
      replace d4:=cr d4
      replace d5:=cr d5
      replace d6:=cr d6
      replace d7:=cr d7
      have hcase:(m.ret.kind == n2.ret.kind)=false∨((m.ret.kind == n2.ret.kind)=true∧(m.ret.name.toList == n2.ret.name.toList)=false)∨((m.ret.kind == n2.ret.kind)=true∧(m.ret.name.toList == n2.ret.name.toList)=true∧ksEq m.args n2.args=false) ∨
        ((m.ret.kind == n2.ret.kind)=true∧(m.ret.name.toList == n2.ret.name.toList)=true∧ksEq m.args n2.args=true∧zgM p k1 k2 m=false)∨((m.ret.kind == n2.ret.kind)=true∧(m.ret.name.toList == n2.ret.name.toList)=true∧ksEq m.args n2.args=true∧zgM p k1 k2 m=true):=by
       cases(m.ret.kind == n2.ret.kind)<;>cases(m.ret.name.toList == n2.ret.name.toList)<;>cases ksEq m.args n2.args<;>cases zgM p k1 k2 m<;>simp
      rcases hcase with g1 | ⟨g1,g2⟩ | ⟨g1,g2,g3⟩ | ⟨g1,g2,g3,g4⟩ | ⟨g1,g2,g3,g4⟩
      all_goals
       have g5:Hid (zhl p k1 k2 c2 m=(kEq m.ret n2.ret&&ksEq m.args n2.args&&zgM p k1 k2 m)):=hov.out
       unfold kEq at g5
      ·have HS:Hid (zlt c1 c2 (zhl p k1 k2 c2)=false):=hd.out.out.trans (by rw[g5.out,g1];simp)
       have g6:(m.ret.kind != n2.ret.kind)=true:=by rw[bne,g1];rfl
       clear hd hov g5
       go_wp2_with (first
        | (go_at_call 152;refine(HM _ frc).mono ?_;rintro e w2 ⟨rfl,hf2⟩;obtain⟨p2,z2⟩:Fr No wr w2∧Fr No Wz w2:=⟨frc,frc⟩)
        | (go_at_call 174;refine(HE _ frc).mono ?_;rintro e w3 ⟨rfl,hf3⟩;have k3:=KM w3 frc;obtain⟨p3,z3⟩:Fr No wr w3∧Fr No Wz w3:=⟨frc,frc⟩;have sz3:=hf3.size)
        | (go_at_call 99;refine(HAm _ frc).mono ?_;rintro e w4 ⟨rfl,hf4⟩))
       go_ret
       exact .mk HS.out.symm frc
      ·have HS:Hid (zlt c1 c2 (zhl p k1 k2 c2)=false):=hd.out.out.trans (by rw[g5.out,g2];simp)
       have g6:(m.ret.kind != n2.ret.kind)=false:=by rw[bne,g1];rfl
       have g7:(m.ret.name.toList != n2.ret.name.toList)=true:=by rw[bne,g2];rfl
       clear hd hov g5
       go_wp2_with (first
        | (go_at_call 152;refine(HM _ frc).mono ?_;rintro e w2 ⟨rfl,hf2⟩;obtain⟨p2,z2⟩:Fr No wr w2∧Fr No Wz w2:=⟨frc,frc⟩)
        | (go_at_call 174;refine(HE _ frc).mono ?_;rintro e w3 ⟨rfl,hf3⟩;have k3:=KM w3 frc;obtain⟨p3,z3⟩:Fr No wr w3∧Fr No Wz w3:=⟨frc,frc⟩;have sz3:=hf3.size)
        | (go_at_call 99;refine(HAm _ frc).mono ?_;rintro e w4 ⟨rfl,hf4⟩))
       go_ret
       exact .mk HS.out.symm frc
      all_goals
       have g6:(m.ret.kind != n2.ret.kind)=false:=by rw[bne,g1];rfl
       have g7:(m.ret.name.toList != n2.ret.name.toList)=false:=by rw[bne,g2];rfl
       rw[g3] at HE
      ·have HS:Hid (zlt c1 c2 (zhl p k1 k2 c2)=false):=hd.out.out.trans (by rw[g5.out,g3];simp)
       clear hd hov g5 g3
       go_wp2_with (first
        | (go_at_call 152;refine(HM _ frc).mono ?_;rintro e w2 ⟨rfl,hf2⟩;obtain⟨p2,z2⟩:Fr No wr w2∧Fr No Wz w2:=⟨frc,frc⟩)
        | (go_at_call 174;refine(HE _ frc).mono ?_;rintro e w3 ⟨rfl,hf3⟩;have k3:=KM w3 frc;obtain⟨p3,z3⟩:Fr No wr w3∧Fr No Wz w3:=⟨frc,frc⟩;have sz3:=hf3.size)
        | (go_at_call 99;refine(HAm _ frc).mono ?_;rintro e w4 ⟨rfl,hf4⟩))
       go_ret
       exact .mk HS.out.symm frc
      ·rw[g4] at HAm
       have HS:Hid (zlt c1 c2 (zhl p k1 k2 c2)=false):=hd.out.out.trans (by rw[g5.out,g4];simp)
       clear hd hov g5 g3 g4
       go_wp2_with (first
        | (go_at_call 152;refine(HM _ frc).mono ?_;rintro e w2 ⟨rfl,hf2⟩;obtain⟨p2,z2⟩:Fr No wr w2∧Fr No Wz w2:=⟨frc,frc⟩)
        | (go_at_call 174;refine(HE _ frc).mono ?_;rintro e w3 ⟨rfl,hf3⟩;have k3:=KM w3 frc;obtain⟨p3,z3⟩:Fr No wr w3∧Fr No Wz w3:=⟨frc,frc⟩;have sz3:=hf3.size)
        | (go_at_call 99;refine(HAm _ frc).mono ?_;rintro e w4 ⟨rfl,hf4⟩))
       go_ret
       exact .mk HS.out.symm frc
      ·rw[g4] at HAm
       have HS:Hid (zlt c1 c2 (zhl p k1 k2 c2)=(c1.methods.drop (j+1)).all (zhl p k1 k2 c2)):=hd.out.out.trans (by rw[g5.out,g1,g2,g3,g4];simp)
       clear hd hov g5 g3 g4
       go_wp2_with (first
        | (go_at_call 152;refine(HM _ frc).mono ?_;rintro e w2 ⟨rfl,hf2⟩;obtain⟨p2,z2⟩:Fr No wr w2∧Fr No Wz w2:=⟨frc,frc⟩)
        | (go_at_call 174;refine(HE _ frc).mono ?_;rintro e w3 ⟨rfl,hf3⟩;have k3:=KM w3 frc;obtain⟨p3,z3⟩:Fr No wr w3∧Fr No Wz w3:=⟨frc,frc⟩;have sz3:=hf3.size)
        | (go_at_call 99;refine(HAm _ frc).mono ?_;rintro e w4 ⟨rfl,hf4⟩))
       go_roundw
       case rel=>exact⟨j+1,by omega,by go_num,rfl,HS,frc⟩
       case measure=>simp[intOf];omega
    ·have HS:Hid (zlt c1 c2 (zhl p k1 k2 c2)=true):=hd.out.trans (by rw[List.drop_eq_nil_of_le (by omega)];rfl)
     clear hd hm1 hm2 HM HA
     go_wp2
     go_ret
     exact .mk HS.out.symm frc
theorem Sl.dropc {α:Type} {X:Nat->Prop} {w:World} {sz:Nat} {R:List Value->α->Prop} {b off n cap k:Nat} {xs:List α} (h:Sl X w sz R (.slice (some ⟨b,off,none⟩) n cap) xs) (hk:k≤xs.length):
  Sl X w sz R (.slice (some ⟨b,off+k * sz,none⟩) (n-k) (cap-k)) (xs.drop k):=by
 rcases Nat.lt_or_ge k xs.length with hlt|hge
 ·exact h.drop hlt
 ·obtain⟨A',cap',he,h1,h2,h3⟩:=h
  simp only[Value.slice.injEq] at he
  obtain⟨_,rfl,rfl⟩:=he
  rw[List.drop_eq_nil_of_le hge]
  exact⟨_,_,by rw[show xs.length-k=0 by omega];rfl,by simp,by simp,fun h=>absurd h (by simp)⟩
theorem zjm (Y:Nat->Prop) (l bl n:Nat) (p:Plan) (g:Int->Str->Option Int) (u:Value) (rs:List Ref) (w:World) (h:zgF w l bl n p g) (hu:Sl Y w 2 RefC u rs) (hall:zhb p rs):
  Calls Tryz.prog 96 #[.pointer (some ⟨l,0,none⟩),u] w (zgm (zhn p rs) w):=by
 obtain⟨A,cap,rfl,hcap,hlen⟩:=hu.form
 unfold maxLen at hlen
 go_enter Tryz.func96,Tryz.ntmps96
 go_wp2
 go_loopw [11,4] (fun i r wr=>∃k:Nat,k≤rs.length∧i=.int .i64 k∧r=.bool false∧Hid (zhn p rs=zhn p (rs.drop k))∧Fr No w wr) (fun i _ _=>rs.length-(intOf i).toNat)
 case atStart=>exact⟨0,Nat.zero_le _,rfl,rfl,rfl,Fr.refl _ _⟩
 case round=>
  obtain⟨k,hk,rfl,rfl,hd,hw⟩:=hrel
  by_cases hlt:k<rs.length
  ·have huw:=hu.k0 hw
   obtain⟨b,off,rfl,_,c0,c1,hs1⟩:=huw.ref hlt
   have hbl:=lt_of_cell c0
   obtain⟨_,k1,i1,hh1⟩:=hall _ (List.getElem_mem hlt)
   rw[List.drop_eq_getElem_cons hlt,zhn] at hd
   have hd:=Lib.hid hd
   have hall2:=hall.drop (k+1)
   by_cases hc:k+1=cap
   ·have hnil:rs.drop (k+1)=[]:=List.drop_eq_nil_of_le (by omega)
    have HS:Hid (zhn p rs=zhn p (rs.drop (k+1))):=hd.out.out.trans (by rw[hnil];rfl)
    have hle:rs.length-(k+1)=0:=by omega
    clear hd hall hall2 hu huw h hnil
    generalize rs[k]=r at *
    obtain⟨rk,s1⟩:=r
    go_wp2
    obtain⟨wz,hwz⟩:∃wz:World,wz=(wr.alloc (.cells #[.int .i64 rk,.string s1] 108)):=⟨_,rfl⟩
    have hwz':Fr No w wz:=hwz▸hw.alloc _
    rw[<-hwz]
    clear hwz
    go_loopw [21,4] (fun i r wq=>i=.int .i64 0∧r=.bool false∧Fr No w wq) (fun i _ _=>0)
    case atStart=>exact⟨rfl,rfl,hwz'⟩
    case round=>
     obtain⟨rfl,rfl,hq⟩:=hrel
     go_wp2
     go_roundw
     case rel=>exact⟨k+1,by omega,by go_num,rfl,HS,hq⟩
     case measure=>simp[intOf];omega
   ·have hdr:Sl Y wr 2 RefC (.slice (some ⟨b,off+(k+1) * 2,none⟩) (rs.length-(k+1)) (cap-(k+1))) (rs.drop (k+1)):=Sl.dropc huw (by omega)
    have hlen2:(rs.drop (k+1)).length=rs.length-(k+1):=List.length_drop
    clear hu huw hall
    generalize hxs:rs.drop (k+1)=xs at *
    replace hxs:=Lib.hid hxs
    generalize rs[k]=r at *
    obtain⟨rk,s1⟩:=r
    obtain rfl:rk=(k1:Int):=hh1.1
    have hd0:Hid (zhn p rs=(xs.all (zhm p ⟨k1,s1⟩)&&zhn p xs)):=hd.out.out
    clear hd
    dsimp only at hs1
    go_wp2
    rw[<-hlen2]
    have hlx:xs.length≤9223372036854775807:=by omega
    replace hlen2:=Lib.hid hlen2
    obtain⟨wz,hwz⟩:∃wz:World,wz=(wr.alloc (.cells #[.int .i64 k1,.string s1] 108)):=⟨_,rfl⟩
    have hwz':Fr No wr wz:=hwz▸(Fr.refl No wr).alloc _
    have hK:Bx wz wr.heap.size 108 #[.int .i64 k1,.string s1]:=hwz▸Bx.new_ rfl
    rw[<-hwz]
    clear hwz
    have K:=hK.r2
    have hdrz:=hdr.k0 hwz'
    clear hdr c0 c1 hbl
    go_loopw [21,4] (fun i r wq=>∃j:Nat,j≤xs.length∧i=.int .i64 j∧r=.bool false∧Hid (zhn p rs=((xs.drop j).all (zhm p ⟨k1,s1⟩)&&zhn p xs))∧Fr No wz wq) (fun i _ _=>xs.length-(intOf i).toNat)
    case atStart=>exact⟨0,Nat.zero_le _,rfl,rfl,hd0,Fr.refl _ _⟩
    case round=>
     clear hd0
     obtain⟨j,hj,rfl,rfl,hd,hq⟩:=hrel
     by_cases hlj:j<xs.length
     ·obtain⟨b2,off2,he,_,d0,d1,hs2⟩:=(hdrz.k0 hq).ref hlj
      simp only[Option.some.injEq,Addr.mk.injEq,and_true] at he
      obtain⟨rfl,rfl⟩:=he
      have hbl:=lt_of_cell d0
      obtain⟨_,k2,i2,hh2⟩:=hall2 _ (List.getElem_mem hlj)
      rw[List.drop_eq_getElem_cons hlj,List.all_cons] at hd
      have hd:=Lib.hid hd
      clear hdrz hall2
      generalize xs[j]=r2 at *
      obtain⟨rk2,s2⟩:=r2
      obtain rfl:rk2=(k2:Int):=hh2.1
      dsimp only at hs2
      have HP:=fun W (hW:Fr No wr W)=>zlu l bl n p g k1 i1 k2 i2 s1 s2 W (h.keep (((hw.trans0 hwz').trans0 hq).trans0 hW)) hh1 hh2 hs1 hs2
      clear h hh1 hh2
      cases hp:zhm p ⟨k1,s1⟩ ⟨k2,s2⟩
      all_goals
       rw[hp] at HP
       have hp:=Lib.hid hp
      ·have HS:Hid (zhn p rs=false):=hd.out.out.trans (by rw[hp.out];simp)
       clear hd hp
       go_wp2_with (go_at_call 151;refine(HP _ frc).mono ?_;rintro e w2 ⟨rfl,hf2⟩)
       go_ret;exact .mk HS.out.symm frc
      ·have HS:Hid (zhn p rs=((xs.drop (j+1)).all (zhm p ⟨k1,s1⟩)&&zhn p xs)):=hd.out.out.trans (by rw[hp.out];simp)
       clear hd hp
       go_wp2_with (go_at_call 151;refine(HP _ frc).mono ?_;rintro e w2 ⟨rfl,hf2⟩)
       go_roundw
       case rel=>exact⟨j+1,by omega,by go_num,rfl,HS,frc⟩
       case measure=>simp[intOf];omega
     ·have HS:Hid (zhn p rs=zhn p xs):=hd.out.trans (by rw[List.drop_eq_nil_of_le (by omega)];rfl)
      clear h hd hdrz
      go_wp2
      go_roundw
      case rel=>exact⟨k+1,by omega,by go_num,rfl,by have:=HS.out;rwa [<-hxs.out] at this,frc⟩
      case measure=>simp[intOf];omega
  ·have HS:Hid (zhn p rs=true):=by have:=hd.out;rwa [List.drop_eq_nil_of_le (by omega)] at this
   clear h hd hu
   go_wp2
   go_ret;exact .mk HS.out.symm frc
def Right (p:Plan) (g:Int->Str->Option Int):Prop:=∀k s v,g k s=some v->v=if canB p ⟨k,s⟩ then 1 else 2
def Lg (w:World) (l bl n:Nat) (p:Plan):Prop:=∃g,zgF w l bl n p g∧Right p g
theorem Lg.keep {w w':World} {l bl n:Nat} {p:Plan} (h:Lg w l bl n p) (hf:Fr No w w'):Lg w' l bl n p:=let ⟨g,h1,h2⟩:=h;⟨g,h1.keep hf,h2⟩
theorem Lg.ok {w:World} {l bl n:Nat} {p:Plan} (h:Lg w l bl n p):lodB p=true:=let ⟨_,h1,_⟩:=h;h1.1
def zjn (p:Plan) (r:Ref) (l bl n:Nat) (w:World) (e:Ending) (w':World):Prop:=
 e=.returned (.bool (canB p r))∧Fr (fun b=>b=bl) w w'∧Lg w' l bl (n+1) p
theorem zjn.mk {p:Plan} {r:Ref} {l bl n:Nat} {w w':World} {b:Bool} (hb:canB p r=b) (hf:Fr (fun b=>b=bl) w w') (hl:Lg w' l bl (n+1) p):zjn p r l bl n w (.returned (.bool b)) w':=⟨by rw[hb],hf,hl⟩
theorem Right.put {p:Plan} {g:Int->Str->Option Int} {r:Ref} {v:Int} (h:Right p g) (hv:v=if canB p r then 1 else 2):Right p (upd g r.keeper r.name v):=fun k s u hu=>by
 unfold upd at hu
 by_cases hks:k=r.keeper∧s=r.name
 ·rw[if_pos hks] at hu
  obtain⟨rfl,rfl⟩:=hks
  cases hu
  exact hv
 ·rw[if_neg hks] at hu
  exact h k s u hu
theorem zgF.mono {w:World} {l bl n m:Nat} {p:Plan} {g:Int->Str->Option Int} (h:zgF w l bl n p g) (hm:n≤m):zgF w l bl m p g:=by
 obtain⟨h0,A,cap,bo,ba,h1,h2,h3,h4,h5,h6,h7,h8⟩:=h
 exact⟨h0,A,cap,bo,ba,h1,h2,h3,h4,h5,h6,h7,h8.mono hm⟩
theorem zgF.put {w w':World} {l bl n m:Nat} {p:Plan} {g g':Int->Str->Option Int} (h:zgF w l bl n p g) (hf:Fr (fun b=>b=bl) w w') (hM:MapF w' bl m g'):zgF w' l bl m p g':=by
 obtain⟨h0,A,cap,bo,ba,h1,h2,h3,h4,h5,h6,h7,h8⟩:=h
 exact⟨h0,A,cap,bo,ba,h1.keepX hf h2,h2,h3,h4,h5.keep hf (fun _ h=>h) (fun _ _ _ h=>h.keep hf (fun _ h=>h)),h6.keepX hf h3,h7.keepX hf h4,hM⟩
theorem zjo (l bl n:Nat) (p:Plan) (r:Ref) (w:World) (h:Lg w l bl n p) (hs:r.name.size≤maxLen) (wk:(Lit.int .i64 r.keeper).wf=true) (hn:n<1000000):
  Calls Tryz.prog 51 #[.pointer (some ⟨l,0,none⟩),.agg #[.int .i64 r.keeper,.string r.name]] w (zjn p r l bl n w):=by
 obtain⟨g,h,hg⟩:=h
 obtain⟨rk,rn⟩:=r
 dsimp only at hs wk
 obtain⟨wA,hwA⟩:∃wA,wA=(w.alloc (.cells #[.int .i64 rk,.string rn] 108)):=⟨_,rfl⟩
 have hfA:Fr No w wA:=hwA▸(Fr.refl No w).alloc _
 have K0:=(hwA▸Bx.new w 108 #[.int .i64 rk,.string rn]:Bx wA w.heap.size _ _).r2
 have HC:=fun W (hW:Fr No wA W)=>zmI l bl n p g ⟨rk,rn⟩ W ((h.keep hfA).keep hW) hs
 have HL:=fun u W (hW:Fr No wA W) hu=>zjm No l bl n p g u (zmF p ⟨rk,rn⟩) W ((h.keep hfA).keep hW) hu (zhj h.1 _)
 have hcan:canB p ⟨rk,rn⟩=(!(zmF p ⟨rk,rn⟩).isEmpty&&zhn p (zmF p ⟨rk,rn⟩)):=rfl
 have hL:=h.keep hfA
 have hL0:=h
 have h':=hL
 obtain⟨_,A,cap,bo,ba,hB,hne1,hne2,hne3,hP,hO,hA,hM⟩:=h'
 have KB:=hB.r4
 have hlook:=fun W (hW:Fr No wA W)=>(hM.keep hW).look wk hs
 clear hB hP hO hA h
 cases hgk:g rk rn with
 | some v=>
  have hv:=hg rk rn v hgk
  rw[hgk] at hlook
  dsimp only[Option.getD_some] at hlook
  clear HC HL hcan hM hgk
  cases hc:canB p ⟨rk,rn⟩
  all_goals
   rw[hc] at hv
   simp only[Bool.false_eq_true,if_true,if_false] at hv
   subst hv
   replace hc:=Lib.hid hc
   go_enter Tryz.func51,Tryz.ntmps51
   go_wp2_with fail
   rw[<-hwA]
   replace hwA:=Lib.hid hwA
   (refine zgc (X:=No) (by kernel_rfl) (by kernel_rfl) ?_)
   (repeat((first|go_big_quiet_skip|(go_big_quiet_want;(apply Exists.intro;refine⟨fun W hW=>?_,?_⟩);(focus (exact fqc));go_big_quiet_on));(try simp only[Act.put,lz0,lz1,lz2])));refine wpQuiet_nil ?_
   intro w1 hf1
   clear hlook
   go_wp2
   go_ret
   exact .mk hc.out (hfA.trans0 hf1).of0 ⟨g,(hL.keep hf1).mono (by omega),hg⟩
 | none=>
  rw[hgk] at hlook
  dsimp only[Option.getD_none] at hlook
  clear hgk
  have hcase:(canB p ⟨rk,rn⟩=false∧(zmF p ⟨rk,rn⟩).length=0)∨(canB p ⟨rk,rn⟩=false∧0<(zmF p ⟨rk,rn⟩).length∧zhn p (zmF p ⟨rk,rn⟩)=false)∨(canB p ⟨rk,rn⟩=true∧0<(zmF p ⟨rk,rn⟩).length∧zhn p (zmF p ⟨rk,rn⟩)=true):=by
   rw[hcan]
   cases zmF p ⟨rk,rn⟩ with
   | nil=>exact .inl ⟨rfl,rfl⟩
   | cons a as'=>
    cases zhn p (a :: as')
    ·exact .inr (.inl ⟨rfl,by simp,rfl⟩)
    ·exact .inr (.inr ⟨rfl,by simp,rfl⟩)
  clear hcan
  generalize zmF p ⟨rk,rn⟩=xs at *
  generalize zhn p xs=ok at *
  have hput:=fun v (hv:v=if canB p ⟨rk,rn⟩ then 1 else 2)=>hg.put (r:=⟨rk,rn⟩) hv
  have hend:=fun W w3 (v:Int) (hW:Fr No wA W) (hM3:MapF w3 bl (n+1) (upd g rk rn v)) (hg3:W.grownBy w3 (some bl)) (hv:v=if canB p ⟨rk,rn⟩ then 1 else 2)=>
   (have hf3:Fr (fun b=>b=bl) wA w3:=Fr.grown (hW.of0) hg3 (fun q e=>.inr (by cases e;rfl))
   (⟨hf3,⟨_,hL.put hf3 hM3,hput v hv⟩⟩:Fr (fun b=>b=bl) wA w3∧Lg w3 l bl (n+1) p))
  clear hL hL0 hput
  rcases hcase with ⟨hc,hl0⟩ | ⟨hc,hl0,hok⟩ | ⟨hc,hl0,hok⟩
  ·rw[hc] at hend
   simp only[Bool.false_eq_true,if_false] at hend
   replace hc:=Lib.hid hc
   obtain rfl:xs=[]:=List.length_eq_zero_iff.1 hl0
   clear hl0 HL
   go_enter Tryz.func51,Tryz.ntmps51
   go_wp2_with fail
   rw[<-hwA]
   replace hwA:=Lib.hid hwA
   (refine zgc (X:=No) (by kernel_rfl) (by kernel_rfl) ?_)
   (repeat((first|go_big_quiet_skip|(go_big_quiet_want;(apply Exists.intro;refine⟨fun W hW=>?_,?_⟩);(focus (exact fqc));go_big_quiet_on));(try simp only[Act.put,lz0,lz1,lz2])));refine wpQuiet_nil ?_
   intro w1 hf1
   clear hlook
   go_wp2_with (go_at_call 95;refine(HC _ hf1).mono ?_;rintro e w2 ⟨v2,rfl,hsl,hf2⟩;obtain⟨A2,c2,rfl,_,_⟩:=hsl.form;have q2:Fr No wA w2:=frc)
   go_still_tail 5,(by kernel_rfl)
   refine zb2 rfl _ _ _ rfl rfl ((hM.keep q2).keep (Fr.drew (Fr.refl No _))) (by unfold maxLen;omega) rfl rfl wk hs (by decide) ?_
   intro w9 hM9 hg9
   obtain⟨hf9,hLg⟩:=hend _ w9 2 q2.drew hM9 hg9 rfl
   go_frame
   go_wp2
   go_ret
   exact .mk hc.out (hfA.of0.same hf9) hLg
  ·rw[hc] at hend
   simp only[Bool.false_eq_true,if_false] at hend
   subst hok
   have hl1:((xs.length:Int) == 0)=false:=by simp;intro h;subst h;simp at hl0
   replace hc:=Lib.hid hc
   go_enter Tryz.func51,Tryz.ntmps51
   go_wp2_with fail
   rw[<-hwA]
   replace hwA:=Lib.hid hwA
   (refine zgc (X:=No) (by kernel_rfl) (by kernel_rfl) ?_)
   (repeat((first|go_big_quiet_skip|(go_big_quiet_want;(apply Exists.intro;refine⟨fun W hW=>?_,?_⟩);(focus (exact fqc));go_big_quiet_on));(try simp only[Act.put,lz0,lz1,lz2])));refine wpQuiet_nil ?_
   intro w1 hf1
   clear hlook
   go_wp2_with (first
    | (go_at_call 95;refine(HC _ hf1).mono ?_;rintro e w2 ⟨v2,rfl,hsl,hf2⟩;obtain⟨A2,c2,rfl,_,hm2⟩:=hsl.form;unfold maxLen at hm2;have q2:Fr No wA w2:=frc;have HL2:=HL _ w2 q2 hsl)
    | (go_at_call 96;refine HL2.mono ?_;rintro e w3 ⟨rfl,hf3⟩;have q3:Fr No wA w3:=frc))
   go_still_tail 5,(by kernel_rfl)
   refine zb2 rfl _ _ _ rfl rfl ((hM.keep q3).keep (Fr.drew (Fr.refl No _))) (by unfold maxLen;omega) rfl rfl wk hs (by decide) ?_
   intro w9 hM9 hg9
   obtain⟨hf9,hLg⟩:=hend _ w9 2 q3.drew hM9 hg9 rfl
   go_frame
   go_wp2
   go_ret
   exact .mk hc.out (hfA.of0.same hf9) hLg
  ·rw[hc] at hend
   simp only[if_true] at hend
   subst hok
   have hl1:((xs.length:Int) == 0)=false:=by simp;intro h;subst h;simp at hl0
   replace hc:=Lib.hid hc
   go_enter Tryz.func51,Tryz.ntmps51
   go_wp2_with fail
   rw[<-hwA]
   replace hwA:=Lib.hid hwA
   (refine zgc (X:=No) (by kernel_rfl) (by kernel_rfl) ?_)
   (repeat((first|go_big_quiet_skip|(go_big_quiet_want;(apply Exists.intro;refine⟨fun W hW=>?_,?_⟩);(focus (exact fqc));go_big_quiet_on));(try simp only[Act.put,lz0,lz1,lz2])));refine wpQuiet_nil ?_
   intro w1 hf1
   clear hlook
   go_wp2_with (first
    | (go_at_call 95;refine(HC _ hf1).mono ?_;rintro e w2 ⟨v2,rfl,hsl,hf2⟩;obtain⟨A2,c2,rfl,_,hm2⟩:=hsl.form;unfold maxLen at hm2;have q2:Fr No wA w2:=frc;have HL2:=HL _ w2 q2 hsl)
    | (go_at_call 96;refine HL2.mono ?_;rintro e w3 ⟨rfl,hf3⟩;have q3:Fr No wA w3:=frc))
   go_still_tail 5,(by kernel_rfl)
   refine zb2 rfl _ _ _ rfl rfl ((hM.keep q3).keep (Fr.drew (Fr.refl No _))) (by unfold maxLen;omega) rfl rfl wk hs (by decide) ?_
   intro w9 hM9 hg9
   obtain⟨hf9,hLg⟩:=hend _ w9 1 q3.drew hM9 hg9 rfl
   go_frame
   go_wp2
   go_ret
   exact .mk hc.out (hfA.of0.same hf9) hLg
theorem Sl.oldX {α:Type} {X:Nat->Prop} {w:World} {sz:Nat} {R R':List Value->α->Prop} {v:Value} {xs:List α} (h:Sl X w sz R v xs) (hsz:0<sz) (hR:∀cs x,x∈xs->R cs x->R' cs x):Sl (fun b=>X b∨w.heap.size≤b) w sz R' v xs:=by
 obtain⟨A,cap,rfl,h1,h2,h3⟩:=h
 refine⟨A,cap,rfl,h1,h2,fun h0=>?_⟩
 obtain⟨b,off,rfl,hX,hc⟩:=h3 h0
 refine⟨b,off,rfl,?_,fun k hk=>?_⟩
 ·obtain⟨cs,_,hl,hcs⟩:=hc 0 h0
  have hv:cs[0]? =some (cs[0]'(by omega)):=lz8 (by omega)
  have:=hcs 0 hsz
  rw[hv] at this
  have:=lt_of_cell this
  rintro(h|h)
  ·exact hX h
  ·omega
 ·obtain⟨cs,hRc,hl,hcs⟩:=hc k hk
  exact⟨cs,hR cs _ (List.getElem_mem hk) hRc,hl,hcs⟩
section
variable {X:Nat->Prop} {w:World} {cs:List Value}
theorem MapC.oldX {m:Mp} (h:MapC X w cs m):MapC (fun b=>X b∨w.heap.size≤b) w cs m:=by
 obtain⟨vl,vs,rfl,h1,h2⟩:=h
 exact⟨vl,vs,rfl,h1.oldX (by decide) (fun _ _ _ h=>h),h2.oldX (by decide) (fun _ _ _ h=>h)⟩
theorem MthC.oldX {m:Mth} (h:MthC X w cs m):MthC (fun b=>X b∨w.heap.size≤b) w cs m:=by
 obtain⟨va,vc,vm,rfl,h1,h2,h3,h4,h5⟩:=h
 exact⟨va,vc,vm,rfl,h1,h2,h3.oldX (by decide) (fun _ _ _ h=>h),h4.oldX (by decide) (fun _ _ _ h=>h),h5.oldX (by decide) (fun _ _ _ h=>h.oldX)⟩
theorem ClsC.oldX {c:Cls} (h:ClsC X w cs c):ClsC (fun b=>X b∨w.heap.size≤b) w cs c:=by
 obtain⟨vf,vm,rfl,h1,h2,h3,h4⟩:=h
 exact⟨vf,vm,rfl,h1,h2,h3.oldX (by decide) (fun _ _ _ h=>h),h4.oldX (by decide) (fun _ _ _ h=>h.oldX)⟩
theorem KprC.oldX {k:Kpr} (h:KprC X w cs k):KprC (fun b=>X b∨w.heap.size≤b) w cs k:=by
 obtain⟨vo,va,rfl,h1,h2⟩:=h
 exact⟨vo,va,rfl,h1.oldX (by decide) (fun _ _ _ h=>h.oldX),h2.oldX (by decide) (fun _ _ _ h=>h)⟩
end
theorem zgF.over {w w1 w':World} {l bl n m:Nat} {p:Plan} {g g1:Int->Str->Option Int} (h:zgF w l bl n p g) (h1:zgF w1 l bl m p g1) (hf:Fr (fun b=>b=bl) w w1) (hf':Fr (fun b=>w.heap.size≤b) w1 w'):zgF w' l bl m p g1:=by
 obtain⟨h0,A,cap,bo,ba,k1,k2,k3,k4,k5,k6,k7,k8⟩:=h
 obtain⟨_,_,_,_,_,_,_,_,_,_,_,_,q8⟩:=h1
 have hb:=k8.lt
 have F:Fr (fun b=>b=bl∨w.heap.size≤b) w w':=⟨hf'.os.trans hf.os,hf'.tape.trans hf.tape,hf'.output.trans hf.output,Nat.le_trans hf.size hf'.size,fun b hb hn=>
  (hf'.block b (Nat.lt_of_lt_of_le hb hf.size) (fun h=>hn (.inr h))).trans (hf.block b hb (fun h=>hn (.inl h)))⟩
 have nb:∀b,b<w.heap.size->b≠bl->¬(b=bl∨w.heap.size≤b):=fun b h1 h2 h=>by rcases h with h|h<;>omega
 refine⟨h0,A,cap,bo,ba,k1.keepX F (nb l k1.lt k2),k2,k3,k4,?_,k6.keepX F (nb bo k6.lt k3),k7.keepX F (nb ba k7.lt k4),q8.keepX hf' (by omega)⟩
 have k5':=((k5.oldX (R':=KprC (fun b=>b=bl∨w.heap.size≤b) w) (by decide) (fun _ _ _ h=>h.oldX)).keep (R':=KprC (fun b=>b=bl∨w.heap.size≤b) w') F (fun _ h=>h) (fun _ _ _ h=>h.keep F (fun _ h=>h)))
 exact k5'.weaken (fun _ h=>.inl h) (fun _ _ _ h=>h.weaken (fun _ h=>.inl h))
theorem Lg.over {w w1 w':World} {l bl n m:Nat} {p:Plan} (h:Lg w l bl n p) (h1:Lg w1 l bl m p) (hf:Fr (fun b=>b=bl) w w1) (hf':Fr (fun b=>w.heap.size≤b) w1 w'):Lg w' l bl m p:=by
 obtain⟨g,h,_⟩:=h
 obtain⟨g1,h1,h2⟩:=h1
 exact⟨g1,h.over h1 hf hf',h2⟩
theorem Lg.mono {w:World} {l bl n m:Nat} {p:Plan} (h:Lg w l bl n p) (hm:n≤m):Lg w l bl m p:=let ⟨g,h1,h2⟩:=h;⟨g,h1.mono hm,h2⟩
theorem Lg.lt {w:World} {l bl n:Nat} {p:Plan} (h:Lg w l bl n p):bl<w.heap.size:=by
 obtain⟨g,⟨_,A,cap,bo,ba,_,_,_,_,_,_,_,hM⟩,_⟩:=h
 exact hM.lt
theorem zjq {l bl n:Nat} {p:Plan} {g:Int->Str->Option Int} {k i:Nat} {s:Str} {w:World} (h:zgF w l bl n p g) (hh:Here p ⟨k,s⟩ k i) (hs:s.size≤maxLen):
  ∃Af cf Am cm,ClsC (fun b=>b=bl) w [.string (zbG p ⟨k,s⟩).name,.string (zbG p ⟨k,s⟩).super,.slice Af (zbG p ⟨k,s⟩).fields.length cf,.slice Am (zbG p ⟨k,s⟩).methods.length cm] (zbG p ⟨k,s⟩) ∧
   ∀W,Fr No w W->Calls Tryz.prog 100 #[.pointer (some ⟨l,0,none⟩),.agg #[.int .i64 k,.string s]] W (Gives (.agg #[.string (zbG p ⟨k,s⟩).name,.string (zbG p ⟨k,s⟩).super,.slice Af (zbG p ⟨k,s⟩).fields.length cf,.slice Am (zbG p ⟨k,s⟩).methods.length cm]) W):=by
 obtain⟨Af,cf,Am,cm,hR,HC⟩:=zbd l bl n p g k s i w h hh.2.1 hs (zbC p k) rfl hh.2.2.1 hh.2.2.2
 rw[<-hh.cls] at hR HC
 exact⟨Af,cf,Am,cm,hR,HC⟩
def zjr (o:Option (Ref×Int)) (p:Plan) (l bl n:Nat) (w:World) (e:Ending) (w':World):Prop:=
 e=.returned (zku o)∧Fr (fun b=>b=bl) w w'∧Lg w' l bl n p
theorem zjr.mk {o:Option (Ref×Int)} {p:Plan} {l bl n:Nat} {w w':World} {v:Value} (hv:zku o=v) (hf:Fr (fun b=>b=bl) w w') (hl:Lg w' l bl n p):zjr o p l bl n w (.returned v) w':=⟨by rw[hv],hf,hl⟩
theorem zjs (l bl n:Nat) (p:Plan) (r:Ref) (s:Str) (w:World) (h:Lg w l bl n p) (hr:r.name.size≤maxLen) (_hs:s.size≤maxLen) (wk:(Lit.int .i64 r.keeper).wf=true) (hn:n<1000000):
  Calls Tryz.prog 98 #[.pointer (some ⟨l,0,none⟩),.agg #[.int .i64 r.keeper,.string r.name],.string s] w (zjr (zhp p r s) p l bl (n+1) w):=by
 obtain⟨rk,rn⟩:=r
 dsimp only at hr wk
 have hlt:=h.lt
 have h0:=h
 obtain⟨wA,hwA⟩:∃wA,wA=((w.alloc (.cells #[.int .i64 rk,.string rn] 108)).alloc (.cells #[.int .i64 0,.string ⟨#[]⟩,.int .i64 0] 113)):=⟨_,rfl⟩
 have hfA:Fr No w wA:=hwA▸frc
 have B0:Bx wA w.heap.size 108 #[.int .i64 rk,.string rn]:=hwA▸bxc
 have B1:Bx wA (w.heap.size+1) 113 #[.int .i64 0,.string ⟨#[]⟩,.int .i64 0]:=hwA▸bxc
 have HC:=fun W (hW:Fr No wA W)=>zjo l bl n p ⟨rk,rn⟩ W ((h.keep hfA).keep hW) hr wk hn
 have hp:=h.ok
 have hpick:zhp p ⟨rk,rn⟩ s=if canB p ⟨rk,rn⟩ then zho p s (zmF p ⟨rk,rn⟩) else none:=rfl
 have hall:=zhj hp ⟨rk,rn⟩
 generalize zhp p ⟨rk,rn⟩ s=o at *
 unfold zjn at HC
 have A0:=B0.c2
 have A1:=B1.c3
 have L0:=B0.lt
 have L1:=B1.lt
 clear h
 cases hc:canB p ⟨rk,rn⟩
 ·rw[hc] at HC hpick
  simp only[Bool.false_eq_true,if_false] at hpick
  subst hpick
  clear hc hall
  go_enter Tryz.func98,Tryz.ntmps98
  go_wp2_with fail
  rw[<-hwA]
  replace hwA:=Lib.hid hwA
  refine(HC _ (Fr.refl _ _)).mono ?_
  rintro e w1 ⟨rfl,hf1,hL1⟩
  have hw1:Fr (fun b=>b=bl) w w1:=hfA.of0.same hf1
  obtain⟨z0,z1,z2⟩:=(B1.keepX hf1 (by omega)).c3
  have zf:=fun j=>(B1.keepX hf1 (by omega)).frozen j
  have zl:=(B1.keepX hf1 (by omega)).lt
  clear A0 A1 HC
  go_wp2
  refine bodyPost_ret (v:=.tuple #[.agg #[.int .i64 0,.string ⟨#[]⟩,.int .i64 0],.bool false]) (by simp[results,Tryz.results98,go_sem, *]) rfl ?_
  exact .mk rfl frc (h0.over hL1 hw1 frx)
 ·rw[hc] at HC hpick
  simp only[if_true] at hpick
  have hlen:(zmF p ⟨rk,rn⟩).length≤6:=zhk hp _
  have HCH:=fun(g:Int->Str->Option Int) W (hW:zgF W l bl (n+1) p g)=>zmI l bl (n+1) p g ⟨rk,rn⟩ W hW hr
  generalize zmF p ⟨rk,rn⟩=xs at *
  replace hpick:=Lib.hid hpick
  clear hc
  go_enter Tryz.func98,Tryz.ntmps98
  go_wp2_with fail
  rw[<-hwA]
  replace hwA:=Lib.hid hwA
  refine(HC _ (Fr.refl _ _)).mono ?_
  rintro e w1 ⟨rfl,hf1,hL1⟩
  have hw1:Fr (fun b=>b=bl) w w1:=hfA.of0.same hf1
  have hB1:=B1.keepX hf1 (by omega)
  have hB0:=B0.keepX hf1 (by omega)
  obtain⟨g,hLo,hg⟩:=hL1
  obtain⟨z0,z1⟩:=hB0.c2
  have zl:=hB0.lt
  clear A0 A1 HC B0 B1 L0 L1
  go_wp2_with (go_at_call 95;refine(HCH g _ (hLo.keep frc)).mono ?_;rintro e w2 ⟨v2,rfl,hsl,hf2⟩;obtain⟨A2,c2,rfl,_,_⟩:=hsl.form)
  have hw2:Fr (fun b=>b=bl) w w2:=frc
  have hL2:=hLo.keep (show Fr No w1 w2 from frc)
  have R0:=(hB0.keep (show Fr No w1 w2 from frc)).r2
  have R1:=(hB1.keep (show Fr No w1 w2 from frc)).r3
  have hlim:w.heap.size+1<w2.heap.size:=(hB1.keep (show Fr No w1 w2 from frc)).lt
  clear HCH hB0 hB1 z0 z1 zl hf1 hf2 hw1
  clear hLo
  go_loopw [20] (fun i wr=>∃k:Nat,k≤xs.length∧i=.int .i64 k∧Hid (o=zho p s (xs.drop k))∧Fr No w2 wr) (fun i _=>xs.length-(intOf i).toNat)
  case atStart=>exact⟨0,Nat.zero_le _,rfl,hpick,Fr.refl _ _⟩
  case round=>
   clear hpick
   obtain⟨k,hk,rfl,hd,hf⟩:=hrel
   by_cases hlt2:k<xs.length
   ·obtain⟨b,off,rfl,_,c0,c1,hsr⟩:=(hsl.k0 hf).ref hlt2
    have hbl:=lt_of_cell c0
    obtain⟨_,kr,ir,hhr⟩:=hall _ (List.getElem_mem hlt2)
    rw[List.drop_eq_getElem_cons hlt2,zho] at hd
    have hd:=Lib.hid hd
    clear hsl hall
    generalize xs[k]=r at *
    obtain⟨rk',s1⟩:=r
    obtain rfl:rk'=(kr:Int):=hhr.1
    dsimp only at c0 c1 hsr
    obtain⟨Af,cf,Am,cm,hR,HCl⟩:=zjq (hL2.keep hf) hhr hsr
    have hrg:=zeS (zeU s) (zbG p ⟨kr,s1⟩).methods
    generalize zbG p ⟨kr,s1⟩=c at *
    have HM:=fun W (hW:Fr No wr W)=>zgQ _ c _ s W (hR.keep hW zN)
    clear hR hhr
    generalize ixOf (zeU s) c.methods=ix at *
    have KR:=(Bx.new wr 108 #[.int .i64 kr,.string s1]).r2
    by_cases hix:ix<0
    ·have HS:Hid (o=zho p s (xs.drop (k+1))):=hd.out.out.trans (if_pos hix)
     clear hd
     go_wp2_with (first
      | (go_at_call 100;refine(HCl _ frc).mono ?_;rintro e w3 ⟨rfl,hf3⟩;have q3:Fr No wr w3:=frc)
      | (go_at_call 152;refine(HM _ frc).mono ?_;rintro e w4 ⟨rfl,hf4⟩;have q4:Fr No wr w4:=frc))
     go_roundw
     case rel=>exact⟨k+1,by omega,by go_num,HS,frc⟩
     case measure=>simp[intOf];omega
    ·obtain⟨ix,rfl⟩:=Int.eq_ofNat_of_zero_le (show 0≤ix by omega)
     have HS:Hid (o=some (⟨kr,s1⟩,(ix:Int))):=hd.out.out.trans (if_neg hix)
     clear hd
     go_wp2_with (first
      | (go_at_call 100;refine(HCl _ frc).mono ?_;rintro e w3 ⟨rfl,hf3⟩;have q3:Fr No wr w3:=frc)
      | (go_at_call 152;refine(HM _ frc).mono ?_;rintro e w4 ⟨rfl,hf4⟩;have k4:=KR w4 frc;obtain⟨q4,p4⟩:Fr No wr w4∧Fr No w2 w4:=⟨frc,frc⟩))
     refine bodyPost_ret (v:=.tuple #[.agg #[.int .i64 kr,.string s1,.int .i64 ix],.bool true]) (by simp[results,Tryz.results98,go_sem, *]) rfl ?_
     exact .mk (by rw[HS.out];rfl) frc (h0.over ⟨g,hL2.keep p4,hg⟩ (hw2.trans0 p4) frx)
   ·have HS:Hid (o=none):=hd.out.trans (by rw[List.drop_eq_nil_of_le (by omega)];rfl)
    clear hd hsl hall
    go_wp2
    refine bodyPost_ret (v:=.tuple #[.agg #[.int .i64 0,.string ⟨#[]⟩,.int .i64 0],.bool false]) (by simp[results,Tryz.results98,go_sem, *]) rfl ?_
    exact .mk (by rw[HS.out];rfl) frc (h0.over ⟨g,hL2.keep hf,hg⟩ (hw2.trans0 hf) frx)
theorem zcY {r n:Nat} {P:Program} {f:FuncId} {args:Array Value} {w:World} {R:Ending->World->Prop} (h:Calls P f args w R):CallsIn (Fence.wide.inRound r) n P f args w R:=CallsIn.inRound r (callsIn_wide.2 h)
theorem zcZ {r n:Nat} {P:Program} {row:String} {args:Array Value} {w:World} {R:Value->World->Prop} (h:Rows P row args w R):RowsIn (Fence.wide.inRound r) n P row args w R:=
 fun c cs _=>let ⟨v,w',hr,s⟩:=h c cs;⟨v,w',hr,stepsIn_wide.2 s⟩
theorem zc0 {r n:Nat} {P:Program} {o:Oper} {a:Act} {w:World} {K:Act->World->Prop} {Q:Exit->Act->World->Prop} (hd:∀c,o.op≠.defer c) (h:o.wp P a w K Q):o.wpIn (Fence.wide.inRound r) n P a w K Q:=by
 refine⟨fun _ _=>trivial,?_⟩
 show Oper.uponIn _ _ _ _ _ _ _ ((Oper.semAt (some r) a.eval o).run P w)
 rw[Oper.semAt_some r a.eval o hd]
 unfold Oper.wp at h
 generalize(execOp a.eval o).run P w=res at *
 cases res with
 | ok nx w'=>
  cases nx<;>simp only[Oper.upon] at h<;>simp only[Oper.uponIn]<;>first|exact h|exact⟨fun h=>absurd h (by simp[Fence.wide]),zcY h⟩|exact⟨fun h=>absurd h (by simp[Fence.wide]),zcZ h⟩|exact h.elim
 | halt x w'=>cases x<;>simp only[Oper.upon] at h<;>simp only[Oper.uponIn]<;>first|exact h|exact h.elim
def zc1 (l:List Oper):Bool:=l.all fun o=>match o.op with | .defer _=>false|_=>true
theorem zc2 {l:List Oper} (h:zc1 l=true):∀(i:Nat) (o:Oper),l.toArray[i]? =some o->∀c,o.op≠.defer c:=fun i o ho c hc=>by
 have hm:o∈l:=List.mem_of_getElem? (by simpa using ho)
 have:=List.all_eq_true.1 h o hm
 rw[hc] at this
 cases this
theorem zc3 {r n:Nat} {P:Program} {md:Region.Mode} {ops:Array Oper} {Q:Exit->Act->World->Prop} (hd:∀(i:Nat) (o:Oper),ops[i]? =some o->∀c,o.op≠.defer c) (hQ:¬LetsOut Q):
  ∀(f:Nat) (listed:Array Bool) (a:Act) (w:World),wpAny P md ops Q f listed a w->wpAnyIn (Fence.wide.inRound r) n P md ops Q f listed a w
 | 0,_,_,_,h=>h
 | f+1,listed,a,w,h=>by
  refine⟨h.1,fun i hi=>?_⟩
  have h2:=h.2 i hi
  unfold wpOp at h2
  unfold wpOpIn
  cases ho:ops[i]? with
  | none=>rw[ho] at h2;exact zc3 hd hQ f _ _ _ h2
  | some o=>
   rw[ho] at h2
   dsimp only at h2 ⊢
   by_cases hw:Region.wanted o (yielded ops a.tmps)=true
   ·rw[if_pos hw] at h2 ⊢
    rcases h2 with h2 | ⟨_,h2⟩
    ·exact Oper.wpIn_mono (fun a w h=>zc3 hd hQ f _ _ _ h) (zc0 (hd i o ho) h2)
    ·exact absurd h2 hQ
   ·rw[if_neg hw] at h2 ⊢
    exact⟨fun _ _=>trivial,zc3 hd hQ f _ _ _ h2⟩
section
variable {P:Program} {l:List Oper} {Q:Exit->Act->World->Prop} {a:Act} {w:World} {n:Nat} {Φ:Nat->Value->World->Prop} {E:Nat->Bool}
theorem zc4 {id:Nat} {r d:Nat} (n:Nat) (Φ:Nat->Value->World->Prop) (A E:Nat->Bool) (hA:∀k v W,A k=true->Φ k v W->bk v<W.heap.size) (hf:P.follows .mixedOrders=true) (hm:monB E l n=true) (hsz:∀o∈l.take n,∀d,o.dst=some d->d<a.tmps.size) (hΦ:∀k v W W',Φ k v W->Fr No W W'->Φ k v W')
  (hop:∀k o,(l.take n)[k]? =some o->∀a' W,Fr No w W->(∀t,(∀p∈l.take n,p.dst≠some t)->a'.eval (.tmp t)=a.eval (.tmp t))->(∀e∈o.after,Region.binds .any e=true->∀p d,(l.take n)[e.on]? =some p->p.dst=some d->Φ e.on (a'.eval (.tmp d)) W)->
   (E k=true->zaw P o a' (fun v=>Φ k v W∧A k=false))∧(E k=false->zab P o a' W (fun v W'=>Fr No W W'∧Φ k v W'∧(A k=true->W.heap.size≤bk v))))
  (T:Act->World->Prop)
  (hend:∀vs W,Fr No w W->(∀k,k<n->Φ k (vs k) W)->(∀j k,j<n->k<n->j≠k->A j=true->A k=true->bk (vs j)≠bk (vs k))->wpList P l.toArray (fun e a' W'=>e=.normal∧T a' W') (l.drop n) (zad (l.take n) vs (fun _=>true) 0 a) W)
  (hT:∀a' W,T a' W->Q .normal a' W) (hdf:zc1 l=true):(Code.region id l.toArray true).wpIn (Fence.wide.inRound r) d P Q a w:=by
 have hm':=hm
 simp only[monB,lz5,decide_eq_true_eq] at hm'
 have hn:n<l.length:=hm'.1.1.1.1.1.1.2
 refine wpIn_mono (Q:=fun e a' W'=>e=.normal∧T a' W') ?_ (fun e a' W ⟨he,hx⟩=>by subst he;exact hT a' W hx)
 refine wpIn_region_any hf (zc3 (zc2 hdf) (fun⟨_,_,h⟩=>by cases h.1) _ _ _ _ ?_)
 have hcount:(List.range n).countP (fun i=>!(Array.replicate l.toArray.size false).getD i true)=n:=by
  rw[List.countP_eq_length.2 (fun i hi=>by
   have:=List.mem_range.1 hi
   have:i<l.length:=by omega
   simp[this])]
  simp
 have h:=zax (w:=w) A hA hm hsz hΦ (fun c a' w' h=>by cases h.1) hop hend n (Array.replicate l.toArray.size false) { w with drawn:=w.drawn+1 } hcount.symm
  ⟨by simp,fun j oj _ hl=>(by rw[getD_replicate_false] at hl;cases hl),fun t _ ht=>getD_in (by simpa using ht) (getD_replicate_false _ _)⟩ (fun _=>undef) (Fr.refl No w).drew (fun k _ hl=>by rw[getD_replicate_false] at hl;cases hl) (fun j k _ _ _ hl=>by rw[getD_replicate_false] at hl;cases hl)
 rw[zaj (l.take n) (fun _=>undef) (fun _=>undef) (fun i=>(Array.replicate l.toArray.size false).getD i false) (fun _=>false) 0 a (fun j _ _=>⟨rfl,getD_replicate_false _ _⟩)] at h
 have hnone:∀(l':List Oper) (k:Nat) (a:Act),zad l' (fun _=>undef) (fun _=>false) k a=a:=fun l'=>by
  induction l' with
  | nil=>intro k a;rfl
  | cons o rest ih=>intro k a;unfold zad;simpa using ih (k+1) a
 rw[hnone,show n+(l.length-n)=l.toArray.size by simp;omega] at h
 exact h
end
theorem zc5 {r d:Nat} {P:Program} {l:List Oper} {Q:Exit->Act->World->Prop} {a:Act} {w:World} {id:Nat} (n:Nat) (L:List (Value->World->Prop)) (AL EL:List Bool) (hA:∀p∈L.zip AL,p.2=true->∀v W,p.1 v W->bk v<W.heap.size)
  (hf:P.follows .mixedOrders=true) (hm:(monB (fun k=>EL.getD k false) l n&&decide (L.length=n)&&decide (AL.length=n))=true) (hsz:∀o∈l.take n,∀d,o.dst=some d->d<a.tmps.size) (hL:∀φ∈L,MonP φ)
  (hdf:zc1 l=true)
  (hop:∀k o,(l.take n)[k]? =some o->∀a' W,Fr No w W->(∀t,(∀p∈l.take n,p.dst≠some t)->a'.eval (.tmp t)=a.eval (.tmp t))->(∀e∈o.after,Region.binds .any e=true->∀p d,(l.take n)[e.on]? =some p->p.dst=some d->L.getD e.on (fun _ _=>True) (a'.eval (.tmp d)) W)->
   (EL.getD k false=true->zaw P o a' (fun v=>L.getD k (fun _ _=>True) v W∧AL.getD k false=false))∧(EL.getD k false=false->zab P o a' W (fun v W'=>Fr No W W'∧L.getD k (fun _ _=>True) v W'∧(AL.getD k false=true->W.heap.size≤bk v))))
  (hend:∀vs W,Fr No w W->(∀k,k<n->L.getD k (fun _ _=>True) (vs k) W)->(∀j k,j<n->k<n->j≠k->AL.getD j false=true->AL.getD k false=true->bk (vs j)≠bk (vs k))->wpList P l.toArray (fun e a' W'=>e=.normal∧Q .normal a' W') (l.drop n) (zad (l.take n) vs (fun _=>true) 0 a) W):(Code.region id l.toArray true).wpIn (Fence.wide.inRound r) d P Q a w:=by
 simp only[lz5,decide_eq_true_eq] at hm
 obtain⟨⟨hm,hl1⟩,hl2⟩:=hm
 refine zc4 n (fun k=>L.getD k (fun _ _=>True)) (fun k=>AL.getD k false) (fun k=>EL.getD k false) (fun k v W hk h=>?_) hf hm hsz (fun k v W W' h hf=>?_) hop (fun a' W'=>Q .normal a' W') hend (fun _ _ h=>h) hdf
 ·have hk2:k<AL.length:=by
   rcases Nat.lt_or_ge k AL.length with h|h
   ·exact h
   ·simp[List.getD,List.getElem?_eq_none h] at hk
  have hk1:k<L.length:=by omega
  have e1:L.getD k (fun _ _=>True)=L[k]:=by simp[List.getD,lz8 hk1]
  have e2:AL.getD k false=AL[k]:=by simp[List.getD,lz8 hk2]
  rw[e1] at h
  rw[e2] at hk
  exact hA (L[k],AL[k]) (List.mem_iff_getElem.2 ⟨k,by simp;omega,by simp⟩) hk v W h
 ·rcases Nat.lt_or_ge k L.length with h1|h1
  ·have e1:L.getD k (fun _ _=>True)=L[k]:=by simp[List.getD,lz8 h1]
   rw[e1] at h ⊢
   exact hL _ (List.getElem_mem h1) v W W' h hf
  ·have e1:L.getD k (fun _ _=>True)=fun _ _=>True:=by simp[List.getD,List.getElem?_eq_none h1]
   rw[e1];trivial
end Go.Proofs.YtmeaibjmnjcdfaaGreat
