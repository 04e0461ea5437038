/- A range over a function whose iterator keeps a state of its own in a cell: one law, stated over a state of the rest of memory. No program is named here. -/
import Derived.Test.YthembcdcdnffeaaGreatEG2
import Derived.Test.YthembcdcdnffeaaGreatRows
import Derived.RangeFuncNested
import Derived.RangeFuncBound
import Derived.RangeFuncCalls
import Derived.RangeFuncLeaves
import Derived.Shelf.Abstract
import Derived.Shelf.RegionOpen
import Derived.WalkKit
import Derived.OwnWalkIn
import Derived.TacticsInMore
import Derived.LoopNIn
import Derived.LoopIn
set_option maxHeartbeats 4000000
set_option maxRecDepth 100000
namespace Go.Proofs.YthembcdcdnffeaaGreat
open Go.RowKit Go.Shelf
theorem Fr.putObj {X:Nat->Prop} {a w:World} {l:Nat} (h:Fr X a w) (o:Obj) (hl:X l):Fr X a (w.putObj l o):=
 h.grown (grownBy_putObj' w l o) (fun k e=>by cases e;exact .inr hl)
def zgI (T Tx K:World->Prop):Exit->Act->World->Prop
 | .normal,_,W=>K W∧T W
 | .ret,_,W=>K W∧Tx W
 | _,_,_=>False
theorem zgJ {F:Fence} {n:Nat} {P:Program} {g:Operand} {ps:Array Tmp} {assign body:Code} {Q:Exit->Act->World->Prop} {a:Act} {w:World}
  (hro:F.round=none) (h1:1≤n) {gf:Nat} {lb:Array Value} (hg:a.eval g=.func (.func gf) #[] lb) (hFg:F.fn gf) (eg:∀args w,(callFunc gf args).run P w=.ok (.enter gf args) w)
  {σ β:Type} (args:β->Array Value) (hps:∀x,(args x).size=ps.size) (T:σ->World->Prop) (Tx:World->Prop) (OK:σ->β->Prop) (nx:σ->β->σ) (s0:σ) (Fin:σ->Prop) (cb:Nat) (hcb:cb<w.heap.size)
  (hT:∀s W W',T s W->Fr (fun b=>b=w.heap.size+1) W W'->T s W')
  (hTx:∀W W',Tx W->Fr (fun b=>b=w.heap.size+1) W W'->Tx W')
  (h0:∀o o',T s0 ((w.alloc o).alloc o'))
  (hround:∀s x W,T s W->OK s x->w.heap.size+1<W.heap.size->
   assign.wpIn (F.inRound (w.heap.size+1)) (n-1-1) P (Exit.then (fun a1 W1=>(W1.heap[w.heap.size+1]? =W.heap[w.heap.size+1]?∧W1.heap[w.heap.size]? =W.heap[w.heap.size]?) ∧
    ∀W2,Fr (fun b=>b=w.heap.size+1) W1 W2->body.wpIn (F.inRound (w.heap.size+1)) (n-1-1) P
     (zgI (T (nx s x)) Tx (fun W3=>W3.heap[w.heap.size+1]? =W2.heap[w.heap.size+1]?∧W3.heap[w.heap.size]? =W2.heap[w.heap.size]?)) a1 W2) (fun _ _ _=>False))
    { tmps:=(ps.zip (args x)).foldl (fun t (p,v)=>t.setIfInBounds p v) a.tmps,defers:=[] } W)
  (hiter:∀(Z Zd:World->Prop),(∀W W',Z W->Fr (fun b=>b=cb) W W'->Z W')->(∀W W',Zd W->Fr (fun b=>b=cb) W W'->Zd W')->
   (∀s x W,T s W->Z W->OK s x->YieldAt F (n-1-1) P (w.heap.size+1) (args x) W (fun e W'=>(e=.returned (.bool true)∧T (nx s x) W'∧Z W')∨(e=.returned (.bool false)∧Tx W'∧Zd W')))->
   ∀W1,T s0 W1->Z W1->CallsIn F (n-1) P gf (#[.func (.yield (w.heap.size+1)) #[] #[]] ++ lb) W1 (fun e W'=>(∃v,e=.returned v)∧((∃s,Fin s∧T s W'∧Z W')∨(Tx W'∧Zd W'))))
  (hdone:∀s W,Fin s->T s W->W.heap[w.heap.size]? =some (.deferred (some []))->Q .normal { a with defers:={ target:=.collected w.heap.size,args:=#[] } :: a.defers } W)
  (hstop:∀W,Tx W->W.heap[w.heap.size]? =some (.deferred (some []))->Code.ret.wpIn F n P Q { a with defers:={ target:=.collected w.heap.size,args:=#[] } :: a.defers } W):
  (Code.rangeFunc g ps assign body).wpIn F n P Q a w:=by
 refine wpIn_rangeFunc ?_
 intro fn hfn
 rw[hro]
 obtain⟨rec,hrec⟩:∃rec:LoopState->Option Code->Loop,rec=fun st pe=>{ state:=st,pending:=pe,fn,tmps:=a.tmps,params:=ps,assign,body,defers:=w.heap.size }:=⟨_,rfl⟩
 have hL:∀{A:World} {o:Obj},A.heap[w.heap.size+1]? =some o->w.heap.size+1<A.heap.size:=fun h=>(Array.getElem?_eq_some_iff.1 h).1
 refine⟨w.heap.size+1,[{ target:=.collected w.heap.size,args:=#[] }],(w.alloc (.deferred (some []))).alloc (.loop (rec .ready none)),{ target:=.fn (.func gf) lb,args:=#[.func (.yield (w.heap.size+1)) #[] #[]] },(w.alloc (.deferred (some []))).alloc (.loop (rec .ready none)),gf,
  #[.func (.yield (w.heap.size+1)) #[] #[]] ++ lb,(w.alloc (.deferred (some []))).alloc (.loop (rec .ready none)),?_,?_,?_,?_,fun _=>h1,?_⟩
 ·rw[hrec];exact run_enterLoop_outer _ _ _ _ _
 ·simp only[resolve,hg]
  simp[go_sem]
 ·intro f' hf';simp[Target.leads] at hf';subst hf';exact hFg
 ·simp[invoke,go_sem,eg]
 ·have hl1:((w.alloc (.deferred (some []))).alloc (.loop (rec .ready none))).heap[w.heap.size+1]? =some (.loop (rec .ready none)):=by
   have:=World.alloc_heap_new (w.alloc (.deferred (some []))) (.loop (rec .ready none));rwa [World.size_alloc] at this
  have hk1:((w.alloc (.deferred (some []))).alloc (.loop (rec .ready none))).heap[w.heap.size]? =some (.deferred (some [])):=
   (Below.heap_alloc _ _ _ (by simp)).trans (World.alloc_heap_new w _)
  refine(hiter (fun W=>W.heap[w.heap.size+1]? =some (.loop (rec .ready none))∧W.heap[w.heap.size]? =some (.deferred (some [])))
   (fun W=>W.heap[w.heap.size+1]? =some (.loop (rec .done (some .ret)))∧W.heap[w.heap.size]? =some (.deferred (some []))) ?_ ?_ ?_ _ (h0 _ _) ⟨hl1,hk1⟩).mono ?_
  ·rintro W W' ⟨e1,e2⟩ hf
   exact⟨(hf.block _ (hL e1) (by first|omega|(dsimp only;omega))).trans e1,(hf.block _ (by have:=hL e1;omega) (by first|omega|(dsimp only;omega))).trans e2⟩
  ·rintro W W' ⟨e1,e2⟩ hf
   exact⟨(hf.block _ (hL e1) (by first|omega|(dsimp only;omega))).trans e1,(hf.block _ (by have:=hL e1;omega) (by first|omega|(dsimp only;omega))).trans e2⟩
  ·rintro s x W hs ⟨hl,hk⟩ hok
   have hy:=run_yield (P:=P) (args:=args x) hl (by rw[hrec];exact hps x)
   rw[hrec] at hy
   refine⟨fn,_,assign,body,hy,roundIn_of_wpIn hfn (wpIn_mono (hround s x W hs hok (hL hl)) ?_)⟩
   rintro e a1 W1 he
   cases e with
   | normal=>
    obtain⟨⟨e1,e2⟩,hb⟩:=he
    have hl2:=e1.trans hl
    have hk2:=e2.trans hk
    refine⟨_,run_beginRound hl2 (by rw[hrec]),?_⟩
    have hl3:(W1.putObj (w.heap.size+1) (.loop { rec .ready none with state:=.busy })).heap[w.heap.size+1]? =some (.loop { rec .ready none with state:=.busy }):=World.putObj_heap_same (hL hl2)
    have hk3:(W1.putObj (w.heap.size+1) (.loop { rec .ready none with state:=.busy })).heap[w.heap.size]? =some (.deferred (some [])):=(World.putObj_heap_other (by omega)).trans hk2
    refine wpIn_mono (hb _ ((Fr.refl _ W1).putObj _ rfl)) ?_
    rintro e a3 W3 hp
    cases e with
    | normal=>
     obtain⟨⟨q1,q2⟩,ht⟩:=hp
     have hl4:=q1.trans hl3
     have hk4:=q2.trans hk3
     have hr:=run_endRound (P:=P) none hl4
     refine⟨_,_,hr,.inl ⟨rfl,hT _ _ _ ht ((Fr.refl _ W3).putObj _ rfl),?_,(World.putObj_heap_other (by omega)).trans hk4⟩⟩
     rw[World.putObj_heap_same (hL hl4),hrec]
     rfl
    | ret=>
     obtain⟨⟨q1,q2⟩,ht⟩:=hp
     have hl4:=q1.trans hl3
     have hk4:=q2.trans hk3
     have hr:=run_endRound (P:=P) (some .ret) hl4
     refine⟨_,_,hr,.inr ⟨rfl,hTx _ _ ht ((Fr.refl _ W3).putObj _ rfl),?_,(World.putObj_heap_other (by omega)).trans hk4⟩⟩
     rw[World.putObj_heap_same (hL hl4),hrec]
     rfl
    | exit id=>exact hp.elim
    | goto t=>exact hp.elim
    | panic ch=>exact hp.elim
    | outgrown=>exact hp.elim
   | ret=>exact he.elim
   | exit id=>exact he.elim
   | goto t=>exact he.elim
   | panic ch=>exact he.elim
   | outgrown=>exact he.elim
  ·rintro e W2 ⟨⟨v,rfl⟩,(⟨s,hf,ht,hl,hk⟩ | ⟨ht,hl,hk⟩)⟩
   ·exact⟨none,_,by have:=run_endLoop (P:=P) hl (by rw[hrec];simp);rw[hrec] at this;exact this,hdone s _ hf (hT _ _ _ ht ((Fr.refl _ W2).putObj _ rfl)) ((World.putObj_heap_other (by omega)).trans hk)⟩
   ·exact⟨some .ret,_,by have:=run_endLoop (P:=P) hl (by rw[hrec];simp);rw[hrec] at this;exact this,hstop _ (hTx _ _ ht ((Fr.refl _ W2).putObj _ rfl)) ((World.putObj_heap_other (by omega)).trans hk)⟩
def zgK (id:Nat) (T Tx K:World->Prop):Exit->Act->World->Prop
 | .normal,_,W=>K W∧T W
 | .exit j,_,W=>j=id∧K W∧Tx W
 | _,_,_=>False
theorem zgL (xid:Nat) {F:Fence} {n:Nat} {P:Program} {g:Operand} {ps:Array Tmp} {assign body:Code} {Q:Exit->Act->World->Prop} {a:Act} {w:World}
  (hro:F.round=none) (h1:1≤n) {gf:Nat} {lb:Array Value} (hg:a.eval g=.func (.func gf) #[] lb) (hFg:F.fn gf) (eg:∀args w,(callFunc gf args).run P w=.ok (.enter gf args) w)
  {σ β:Type} (args:β->Array Value) (hps:∀x,(args x).size=ps.size) (T:σ->World->Prop) (Tx:World->Prop) (OK:σ->β->Prop) (nx:σ->β->σ) (s0:σ) (Fin:σ->Prop) (cb:Nat) (hcb:cb<w.heap.size)
  (hT:∀s W W',T s W->Fr (fun b=>b=w.heap.size+1) W W'->T s W')
  (hTx:∀W W',Tx W->Fr (fun b=>b=w.heap.size+1) W W'->Tx W')
  (h0:∀o o',T s0 ((w.alloc o).alloc o'))
  (hround:∀s x W,T s W->OK s x->w.heap.size+1<W.heap.size->
   assign.wpIn (F.inRound (w.heap.size+1)) (n-1-1) P (Exit.then (fun a1 W1=>(W1.heap[w.heap.size+1]? =W.heap[w.heap.size+1]?∧W1.heap[w.heap.size]? =W.heap[w.heap.size]?) ∧
    ∀W2,Fr (fun b=>b=w.heap.size+1) W1 W2->body.wpIn (F.inRound (w.heap.size+1)) (n-1-1) P
     (zgK xid (T (nx s x)) Tx (fun W3=>W3.heap[w.heap.size+1]? =W2.heap[w.heap.size+1]?∧W3.heap[w.heap.size]? =W2.heap[w.heap.size]?)) a1 W2) (fun _ _ _=>False))
    { tmps:=(ps.zip (args x)).foldl (fun t (p,v)=>t.setIfInBounds p v) a.tmps,defers:=[] } W)
  (hiter:∀(Z Zd:World->Prop),(∀W W',Z W->Fr (fun b=>b=cb) W W'->Z W')->(∀W W',Zd W->Fr (fun b=>b=cb) W W'->Zd W')->
   (∀s x W,T s W->Z W->OK s x->YieldAt F (n-1-1) P (w.heap.size+1) (args x) W (fun e W'=>(e=.returned (.bool true)∧T (nx s x) W'∧Z W')∨(e=.returned (.bool false)∧Tx W'∧Zd W')))->
   ∀W1,T s0 W1->Z W1->CallsIn F (n-1) P gf (#[.func (.yield (w.heap.size+1)) #[] #[]] ++ lb) W1 (fun e W'=>(∃v,e=.returned v)∧((∃s,Fin s∧T s W'∧Z W')∨(Tx W'∧Zd W'))))
  (hdone:∀s W,Fin s->T s W->W.heap[w.heap.size]? =some (.deferred (some []))->Q .normal { a with defers:={ target:=.collected w.heap.size,args:=#[] } :: a.defers } W)
  (hstop:∀W,Tx W->W.heap[w.heap.size]? =some (.deferred (some []))->(Code.exit xid).wpIn F n P Q { a with defers:={ target:=.collected w.heap.size,args:=#[] } :: a.defers } W):
  (Code.rangeFunc g ps assign body).wpIn F n P Q a w:=by
 refine wpIn_rangeFunc ?_
 intro fn hfn
 rw[hro]
 obtain⟨rec,hrec⟩:∃rec:LoopState->Option Code->Loop,rec=fun st pe=>{ state:=st,pending:=pe,fn,tmps:=a.tmps,params:=ps,assign,body,defers:=w.heap.size }:=⟨_,rfl⟩
 have hL:∀{A:World} {o:Obj},A.heap[w.heap.size+1]? =some o->w.heap.size+1<A.heap.size:=fun h=>(Array.getElem?_eq_some_iff.1 h).1
 refine⟨w.heap.size+1,[{ target:=.collected w.heap.size,args:=#[] }],(w.alloc (.deferred (some []))).alloc (.loop (rec .ready none)),{ target:=.fn (.func gf) lb,args:=#[.func (.yield (w.heap.size+1)) #[] #[]] },(w.alloc (.deferred (some []))).alloc (.loop (rec .ready none)),gf,
  #[.func (.yield (w.heap.size+1)) #[] #[]] ++ lb,(w.alloc (.deferred (some []))).alloc (.loop (rec .ready none)),?_,?_,?_,?_,fun _=>h1,?_⟩
 ·rw[hrec];exact run_enterLoop_outer _ _ _ _ _
 ·simp only[resolve,hg]
  simp[go_sem]
 ·intro f' hf';simp[Target.leads] at hf';subst hf';exact hFg
 ·simp[invoke,go_sem,eg]
 ·have hl1:((w.alloc (.deferred (some []))).alloc (.loop (rec .ready none))).heap[w.heap.size+1]? =some (.loop (rec .ready none)):=by
   have:=World.alloc_heap_new (w.alloc (.deferred (some []))) (.loop (rec .ready none));rwa [World.size_alloc] at this
  have hk1:((w.alloc (.deferred (some []))).alloc (.loop (rec .ready none))).heap[w.heap.size]? =some (.deferred (some [])):=
   (Below.heap_alloc _ _ _ (by simp)).trans (World.alloc_heap_new w _)
  refine(hiter (fun W=>W.heap[w.heap.size+1]? =some (.loop (rec .ready none))∧W.heap[w.heap.size]? =some (.deferred (some [])))
   (fun W=>W.heap[w.heap.size+1]? =some (.loop (rec .done (some (.exit xid))))∧W.heap[w.heap.size]? =some (.deferred (some []))) ?_ ?_ ?_ _ (h0 _ _) ⟨hl1,hk1⟩).mono ?_
  ·rintro W W' ⟨e1,e2⟩ hf
   exact⟨(hf.block _ (hL e1) (by first|omega|(dsimp only;omega))).trans e1,(hf.block _ (by have:=hL e1;omega) (by first|omega|(dsimp only;omega))).trans e2⟩
  ·rintro W W' ⟨e1,e2⟩ hf
   exact⟨(hf.block _ (hL e1) (by first|omega|(dsimp only;omega))).trans e1,(hf.block _ (by have:=hL e1;omega) (by first|omega|(dsimp only;omega))).trans e2⟩
  ·rintro s x W hs ⟨hl,hk⟩ hok
   have hy:=run_yield (P:=P) (args:=args x) hl (by rw[hrec];exact hps x)
   rw[hrec] at hy
   refine⟨fn,_,assign,body,hy,roundIn_of_wpIn hfn (wpIn_mono (hround s x W hs hok (hL hl)) ?_)⟩
   rintro e a1 W1 he
   cases e with
   | normal=>
    obtain⟨⟨e1,e2⟩,hb⟩:=he
    have hl2:=e1.trans hl
    have hk2:=e2.trans hk
    refine⟨_,run_beginRound hl2 (by rw[hrec]),?_⟩
    have hl3:(W1.putObj (w.heap.size+1) (.loop { rec .ready none with state:=.busy })).heap[w.heap.size+1]? =some (.loop { rec .ready none with state:=.busy }):=World.putObj_heap_same (hL hl2)
    have hk3:(W1.putObj (w.heap.size+1) (.loop { rec .ready none with state:=.busy })).heap[w.heap.size]? =some (.deferred (some [])):=(World.putObj_heap_other (by omega)).trans hk2
    refine wpIn_mono (hb _ ((Fr.refl _ W1).putObj _ rfl)) ?_
    rintro e a3 W3 hp
    cases e with
    | normal=>
     obtain⟨⟨q1,q2⟩,ht⟩:=hp
     have hl4:=q1.trans hl3
     have hk4:=q2.trans hk3
     have hr:=run_endRound (P:=P) none hl4
     refine⟨_,_,hr,.inl ⟨rfl,hT _ _ _ ht ((Fr.refl _ W3).putObj _ rfl),?_,(World.putObj_heap_other (by omega)).trans hk4⟩⟩
     rw[World.putObj_heap_same (hL hl4),hrec]
     rfl
    | exit id=>
     obtain⟨rfl,⟨q1,q2⟩,ht⟩:=hp
     have hl4:=q1.trans hl3
     have hk4:=q2.trans hk3
     have hr:=run_endRound (P:=P) (some (.exit id)) hl4
     refine⟨_,_,hr,.inr ⟨rfl,hTx _ _ ht ((Fr.refl _ W3).putObj _ rfl),?_,(World.putObj_heap_other (by omega)).trans hk4⟩⟩
     rw[World.putObj_heap_same (hL hl4),hrec]
     rfl
    | ret=>exact hp.elim
    | goto t=>exact hp.elim
    | panic ch=>exact hp.elim
    | outgrown=>exact hp.elim
   | ret=>exact he.elim
   | exit id=>exact he.elim
   | goto t=>exact he.elim
   | panic ch=>exact he.elim
   | outgrown=>exact he.elim
  ·rintro e W2 ⟨⟨v,rfl⟩,(⟨s,hf,ht,hl,hk⟩ | ⟨ht,hl,hk⟩)⟩
   ·exact⟨none,_,by have:=run_endLoop (P:=P) hl (by rw[hrec];simp);rw[hrec] at this;exact this,hdone s _ hf (hT _ _ _ ht ((Fr.refl _ W2).putObj _ rfl)) ((World.putObj_heap_other (by omega)).trans hk)⟩
   ·exact⟨some (.exit xid),_,by have:=run_endLoop (P:=P) hl (by rw[hrec];simp);rw[hrec] at this;exact this,hstop _ (hTx _ _ ht ((Fr.refl _ W2).putObj _ rfl)) ((World.putObj_heap_other (by omega)).trans hk)⟩
attribute [local go_sem] Oper.semAt_some
def bwA (x:Int×Ref):Array Value:=#[.int .i64 x.1,.agg #[.int .i64 x.2.keeper,.string x.2.name]]
def bwOK (xs:List Ref) (j:Nat) (x:Int×Ref):Prop:=j<xs.length∧x.1=(xs.length:Int)-1-j∧xs[xs.length-1-j]? =some x.2
theorem zaF (Y:Nat->Prop) (xs:List Ref) (A:Option Addr) (cap c L n:Nat) (T:Nat->World->Prop) (Tx:World->Prop) (hlen:xs.length≤1000000)
  (hT:∀j W,T j W->Bx W c 66 #[.slice A xs.length cap]∧Sl Y W 2 RefC (.slice A xs.length cap) xs)
  (Z Zd:World->Prop)
  (hY:∀s x W,T s W->Z W->bwOK xs s x->YieldAt Fence.wide n Tryz.prog L (bwA x) W (fun e W'=>(e=.returned (.bool true)∧T (s+1) W'∧Z W')∨(e=.returned (.bool false)∧Tx W'∧Zd W')))
  (W1:World) (h1:T 0 W1) (hz:Z W1):
  CallsIn Fence.wide (n+1) Tryz.prog 226 #[.func (.yield L) #[] #[],.pointer (some ⟨c,0,none⟩)] W1
   (fun e W'=>(∃v,e=.returned v)∧((∃s,s=xs.length∧T s W'∧Z W')∨(Tx W'∧Zd W'))):=by
 refine callsIn_of_wp Tryz.func226 rfl trivial ?_ rfl
 simp only[Tryz.ntmps226,List.size_toArray,List.length_cons,List.length_nil,Nat.reduceAdd,Nat.reduceSub,Array.replicate_succ,Array.replicate_zero,List.push_toArray,List.append_toArray,List.nil_append,List.cons_append]
 have b0:=(hT 0 W1 h1).1.c1
 have bl:=(hT 0 W1 h1).1.lt
 gi_wp2
 gi_loopw [3] (fun u wr=>∃j:Nat,j≤xs.length∧u=.int .i64 ((xs.length:Int)-1-j)∧T j wr∧Z wr) (fun u _=>(intOf u+1).toNat)
 case atStart=>exact⟨0,Nat.zero_le _,by simp,h1,hz⟩
 case round=>
  clear h1 hz b0 bl
  obtain⟨j,hj,rfl,hTj,hzj⟩:=hrel
  obtain⟨hb,hs⟩:=hT j wr hTj
  have b0:=hb.c1
  have bl:=hb.lt
  by_cases hlt:j<xs.length
  ·have hk:xs.length-1-j<xs.length:=by omega
   have hidx:((xs.length:Int)-1-j).toNat=xs.length-1-j:=by omega
   obtain⟨fn,tmps,assign,body,hy,hR⟩:=hY j ((xs.length:Int)-1-j,xs[xs.length-1-j]) wr hTj hzj ⟨hlt,rfl,lz8 hk⟩
   obtain⟨b,off,rfl,_,c0,c1,_⟩:=hs.ref hk
   have cl:=lt_of_cell c0
   dsimp only[bwA] at hy
   gi_wp2
   refine hR.mono ?_
   rintro e W3 (⟨rfl,hT3,hz3⟩ | ⟨rfl,hX3,hzd3⟩)
   ·clear b0 bl c0 c1 cl hy hR hs hb
    gi_wp2
    go_roundw
    case rel=>exact⟨j+1,by omega,by congr 1;omega,hT3,hz3⟩
    case measure=>simp[intOf];omega
   ·clear b0 bl c0 c1 cl hy hR hs hb
    gi_wp2
    refine bodyPost_ret (results_none rfl _ _ _) rfl ?_
    exact⟨⟨_,rfl⟩,.inr ⟨hX3,hzd3⟩⟩
  ·clear hs hb
   obtain rfl:j=xs.length:=by omega
   have e0:(xs.length:Int)-1-(xs.length:Int)=-1:=by omega
   rw[e0]
   clear e0
   gi_wp2
   go_end0
   exact⟨⟨_,rfl⟩,.inl ⟨xs.length,rfl,hTj,hzj⟩⟩
theorem zaG {n:Nat} {g:Operand} {ps:Array Tmp} {assign body:Code} {Q:Exit->Act->World->Prop} {a:Act} {w:World} (Y:Nat->Prop) (xs:List Ref) (A:Option Addr) (cap c:Nat) (hlen:xs.length≤1000000)
  (hg:a.eval g=.func (.func 226) #[] #[.pointer (some ⟨c,0,none⟩)]) (hps:ps.size=2) (T:Nat->World->Prop) (Tx:World->Prop)
  (hTb:∀j W,T j W->Bx W c 66 #[.slice A xs.length cap]∧Sl Y W 2 RefC (.slice A xs.length cap) xs)
  (hT:∀j W W',T j W->Fr (fun b=>b=w.heap.size+1) W W'->T j W')
  (hTx:∀W W',Tx W->Fr (fun b=>b=w.heap.size+1) W W'->Tx W')
  (h0:∀o o',T 0 ((w.alloc o).alloc o')) (hc:c<w.heap.size)
  (hround:∀j x W,T j W->bwOK xs j x->w.heap.size+1<W.heap.size->
   assign.wpIn (Fence.wide.inRound (w.heap.size+1)) (n+2-1-1) Tryz.prog (Exit.then (fun a1 W1=>(W1.heap[w.heap.size+1]? =W.heap[w.heap.size+1]?∧W1.heap[w.heap.size]? =W.heap[w.heap.size]?) ∧
    ∀W2,Fr (fun b=>b=w.heap.size+1) W1 W2->body.wpIn (Fence.wide.inRound (w.heap.size+1)) (n+2-1-1) Tryz.prog
     (zgI (T (j+1)) Tx (fun W3=>W3.heap[w.heap.size+1]? =W2.heap[w.heap.size+1]?∧W3.heap[w.heap.size]? =W2.heap[w.heap.size]?)) a1 W2) (fun _ _ _=>False))
    { tmps:=(ps.zip (bwA x)).foldl (fun t (p,v)=>t.setIfInBounds p v) a.tmps,defers:=[] } W)
  (hdone:∀W,T xs.length W->W.heap[w.heap.size]? =some (.deferred (some []))->Q .normal { a with defers:={ target:=.collected w.heap.size,args:=#[] } :: a.defers } W)
  (hstop:∀W,Tx W->W.heap[w.heap.size]? =some (.deferred (some []))->Code.ret.wpIn Fence.wide (n+2) Tryz.prog Q { a with defers:={ target:=.collected w.heap.size,args:=#[] } :: a.defers } W):
  (Code.rangeFunc g ps assign body).wpIn Fence.wide (n+2) Tryz.prog Q a w:=
 zgJ (F:=Fence.wide) rfl (by omega) hg trivial (enters_of Tryz.func226 (by kernel_rfl) rfl)
  bwA (fun _=>hps.symm) T Tx (bwOK xs) (fun j _=>j+1) 0 (fun s=>s=xs.length) c hc hT hTx h0 hround
  (fun Z Zd _ _ hY W1 h1 hz=>zaF Y xs A cap c _ _ T Tx hlen hTb Z Zd hY W1 h1 hz)
  (fun s W hs hT=>by subst hs;exact hdone W hT) hstop
theorem zaH (xid:Nat) {n:Nat} {g:Operand} {ps:Array Tmp} {assign body:Code} {Q:Exit->Act->World->Prop} {a:Act} {w:World} (Y:Nat->Prop) (xs:List Ref) (A:Option Addr) (cap c:Nat) (hlen:xs.length≤1000000)
  (hg:a.eval g=.func (.func 226) #[] #[.pointer (some ⟨c,0,none⟩)]) (hps:ps.size=2) (T:Nat->World->Prop) (Tx:World->Prop)
  (hTb:∀j W,T j W->Bx W c 66 #[.slice A xs.length cap]∧Sl Y W 2 RefC (.slice A xs.length cap) xs)
  (hT:∀j W W',T j W->Fr (fun b=>b=w.heap.size+1) W W'->T j W')
  (hTx:∀W W',Tx W->Fr (fun b=>b=w.heap.size+1) W W'->Tx W')
  (h0:∀o o',T 0 ((w.alloc o).alloc o')) (hc:c<w.heap.size)
  (hround:∀j x W,T j W->bwOK xs j x->w.heap.size+1<W.heap.size->
   assign.wpIn (Fence.wide.inRound (w.heap.size+1)) (n+2-1-1) Tryz.prog (Exit.then (fun a1 W1=>(W1.heap[w.heap.size+1]? =W.heap[w.heap.size+1]?∧W1.heap[w.heap.size]? =W.heap[w.heap.size]?) ∧
    ∀W2,Fr (fun b=>b=w.heap.size+1) W1 W2->body.wpIn (Fence.wide.inRound (w.heap.size+1)) (n+2-1-1) Tryz.prog
     (zgK xid (T (j+1)) Tx (fun W3=>W3.heap[w.heap.size+1]? =W2.heap[w.heap.size+1]?∧W3.heap[w.heap.size]? =W2.heap[w.heap.size]?)) a1 W2) (fun _ _ _=>False))
    { tmps:=(ps.zip (bwA x)).foldl (fun t (p,v)=>t.setIfInBounds p v) a.tmps,defers:=[] } W)
  (hdone:∀W,T xs.length W->W.heap[w.heap.size]? =some (.deferred (some []))->Q .normal { a with defers:={ target:=.collected w.heap.size,args:=#[] } :: a.defers } W)
  (hstop:∀W,Tx W->W.heap[w.heap.size]? =some (.deferred (some []))->(Code.exit xid).wpIn Fence.wide (n+2) Tryz.prog Q { a with defers:={ target:=.collected w.heap.size,args:=#[] } :: a.defers } W):
  (Code.rangeFunc g ps assign body).wpIn Fence.wide (n+2) Tryz.prog Q a w:=
 zgL xid (F:=Fence.wide) rfl (by omega) hg trivial (enters_of Tryz.func226 (by kernel_rfl) rfl)
  bwA (fun _=>hps.symm) T Tx (bwOK xs) (fun j _=>j+1) 0 (fun s=>s=xs.length) c hc hT hTx h0 hround
  (fun Z Zd _ _ hY W1 h1 hz=>zaF Y xs A cap c _ _ T Tx hlen hTb Z Zd hY W1 h1 hz)
  (fun s W hs hT=>by subst hs;exact hdone W hT) hstop
theorem zaI (A:Option Addr) (n c:Nat) (w:World):Calls Tryz.prog 217 #[.slice A n c] w
  (fun e w'=>e=.returned (.func (.func 226) #[] #[.pointer (some ⟨w.heap.size,0,none⟩)])∧w'=w.alloc (.cells #[.slice A n c] 66)):=by
 have hmf:∀(fn:Fn) (first cap:Array Value) (w:World),(Instr.makeFunc fn first cap).run Tryz.prog w=.ok (.func fn first cap) w:=fun _ _ _ _=>rfl
 go_enter Tryz.func217,Tryz.ntmps217
 go_wp2
 go_ret
 exact⟨rfl,rfl⟩
theorem zaJ {w:World} {v:Value} {rs:List Ref} {b:Nat} {t:TypeId} {A:Option Addr} {n c:Nat} (h:Sl No w 2 RefC v rs) (hb:Bx w b t #[.slice A n c]):Sl (fun x=>x=b∨w.heap.size≤x) w 2 RefC v rs:=by
 obtain⟨A',cap,rfl,h1,h2,h3⟩:=h
 refine⟨A',cap,rfl,h1,h2,fun h0=>?_⟩
 obtain⟨g,off,rfl,hX,hc⟩:=h3 h0
 refine⟨g,off,rfl,?_,hc⟩
 obtain⟨cs,⟨rfl,_⟩,_,hcs⟩:=hc 0 h0
 have c0:=hcs 0 (by decide)
 simp only[Nat.zero_mul,Nat.add_zero,lz3] at c0
 have hl:=lt_of_cell c0
 rintro(rfl|h)
 ·rw[hb.cell] at c0
  rcases off with _|off
  ·simp at c0
  ·simp at c0
 ·omega
end Go.Proofs.YthembcdcdnffeaaGreat
