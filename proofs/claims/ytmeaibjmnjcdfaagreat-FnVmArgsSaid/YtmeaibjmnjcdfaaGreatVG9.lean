/- A range over a function whose iterator keeps a state of its own in a cell: one law, stated over a state of the rest of memory. No program is named here. -/
import Derived.Test.YtmeaibjmnjcdfaaGreatVG1
import Derived.RangeFuncNested
import Derived.RangeFuncBound
import Derived.RangeFuncCalls
import Derived.RangeFuncLeaves
import Derived.Shelf.Abstract
import Derived.Shelf.RegionOpen
import Derived.WalkKit
import Derived.OwnWalkIn
import Derived.TacticsInMore
import Derived.LoopNIn
import Derived.LoopIn
namespace Go.Proofs.YtmeaibjmnjcdfaaGreat
open Go.RowKit
theorem Fr.putObj {X:Nat->Prop} {a w:World} {l:Nat} (h:Fr X a w) (o:Obj) (hl:X l):Fr X a (w.putObj l o):=
 h.grown (grownBy_putObj' w l o) (fun k e=>by cases e;exact .inr hl)
def zgI (T Tx K:World->Prop):Exit->Act->World->Prop
 | .normal,_,W=>K W∧T W
 | .ret,_,W=>K W∧Tx W
 | _,_,_=>False
theorem zgJ {F:Fence} {n:Nat} {P:Program} {g:Operand} {ps:Array Tmp} {assign body:Code} {Q:Exit->Act->World->Prop} {a:Act} {w:World}
  (hro:F.round=none) (h1:1≤n) {gf:Nat} {lb:Array Value} (hg:a.eval g=.func (.func gf) #[] lb) (hFg:F.fn gf) (eg:∀args w,(callFunc gf args).run P w=.ok (.enter gf args) w)
  {σ β:Type} (args:β->Array Value) (hps:∀x,(args x).size=ps.size) (T:σ->World->Prop) (Tx:World->Prop) (OK:σ->β->Prop) (nx:σ->β->σ) (s0:σ) (Fin:σ->Prop) (cb:Nat) (hcb:cb<w.heap.size)
  (hT:∀s W W',T s W->Fr (fun b=>b=w.heap.size+1) W W'->T s W')
  (hTx:∀W W',Tx W->Fr (fun b=>b=w.heap.size+1) W W'->Tx W')
  (h0:∀o o',T s0 ((w.alloc o).alloc o'))
  (hround:∀s x W,T s W->OK s x->w.heap.size+1<W.heap.size->
   assign.wpIn (F.inRound (w.heap.size+1)) (n-1-1) P (Exit.then (fun a1 W1=>(W1.heap[w.heap.size+1]? =W.heap[w.heap.size+1]?∧W1.heap[w.heap.size]? =W.heap[w.heap.size]?) ∧
    ∀W2,Fr (fun b=>b=w.heap.size+1) W1 W2->body.wpIn (F.inRound (w.heap.size+1)) (n-1-1) P
     (zgI (T (nx s x)) Tx (fun W3=>W3.heap[w.heap.size+1]? =W2.heap[w.heap.size+1]?∧W3.heap[w.heap.size]? =W2.heap[w.heap.size]?)) a1 W2) (fun _ _ _=>False))
    { tmps:=(ps.zip (args x)).foldl (fun t (p,v)=>t.setIfInBounds p v) a.tmps,defers:=[] } W)
  (hiter:∀(Z Zd:World->Prop),(∀W W',Z W->Fr (fun b=>b=cb) W W'->Z W')->(∀W W',Zd W->Fr (fun b=>b=cb) W W'->Zd W')->
   (∀s x W,T s W->Z W->OK s x->YieldAt F (n-1-1) P (w.heap.size+1) (args x) W (fun e W'=>(e=.returned (.bool true)∧T (nx s x) W'∧Z W')∨(e=.returned (.bool false)∧Tx W'∧Zd W')))->
   ∀W1,T s0 W1->Z W1->CallsIn F (n-1) P gf (#[.func (.yield (w.heap.size+1)) #[] #[]] ++ lb) W1 (fun e W'=>(∃v,e=.returned v)∧((∃s,Fin s∧T s W'∧Z W')∨(Tx W'∧Zd W'))))
  (hdone:∀s W,Fin s->T s W->W.heap[w.heap.size]? =some (.deferred (some []))->Q .normal { a with defers:={ target:=.collected w.heap.size,args:=#[] } :: a.defers } W)
  (hstop:∀W,Tx W->W.heap[w.heap.size]? =some (.deferred (some []))->Code.ret.wpIn F n P Q { a with defers:={ target:=.collected w.heap.size,args:=#[] } :: a.defers } W):
  (Code.rangeFunc g ps assign body).wpIn F n P Q a w:=by
 refine wpIn_rangeFunc ?_
 intro fn hfn
 rw[hro]
 obtain⟨rec,hrec⟩:∃rec:LoopState->Option Code->Loop,rec=fun st pe=>{ state:=st,pending:=pe,fn,tmps:=a.tmps,params:=ps,assign,body,defers:=w.heap.size }:=⟨_,rfl⟩
 have hL:∀{A:World} {o:Obj},A.heap[w.heap.size+1]? =some o->w.heap.size+1<A.heap.size:=fun h=>(Array.getElem?_eq_some_iff.1 h).1
 refine⟨w.heap.size+1,[{ target:=.collected w.heap.size,args:=#[] }],(w.alloc (.deferred (some []))).alloc (.loop (rec .ready none)),{ target:=.fn (.func gf) lb,args:=#[.func (.yield (w.heap.size+1)) #[] #[]] },(w.alloc (.deferred (some []))).alloc (.loop (rec .ready none)),gf,
  #[.func (.yield (w.heap.size+1)) #[] #[]] ++ lb,(w.alloc (.deferred (some []))).alloc (.loop (rec .ready none)),?_,?_,?_,?_,fun _=>h1,?_⟩
 ·rw[hrec];exact run_enterLoop_outer _ _ _ _ _
 ·simp only[resolve,hg]
  simp[go_sem]
 ·intro f' hf';simp[Target.leads] at hf';subst hf';exact hFg
 ·simp[invoke,go_sem,eg]
 ·have hl1:((w.alloc (.deferred (some []))).alloc (.loop (rec .ready none))).heap[w.heap.size+1]? =some (.loop (rec .ready none)):=by
   have:=World.alloc_heap_new (w.alloc (.deferred (some []))) (.loop (rec .ready none));rwa [World.size_alloc] at this
  have hk1:((w.alloc (.deferred (some []))).alloc (.loop (rec .ready none))).heap[w.heap.size]? =some (.deferred (some [])):=
   (Below.heap_alloc _ _ _ (by simp)).trans (World.alloc_heap_new w _)
  refine(hiter (fun W=>W.heap[w.heap.size+1]? =some (.loop (rec .ready none))∧W.heap[w.heap.size]? =some (.deferred (some [])))
   (fun W=>W.heap[w.heap.size+1]? =some (.loop (rec .done (some .ret)))∧W.heap[w.heap.size]? =some (.deferred (some []))) ?_ ?_ ?_ _ (h0 _ _) ⟨hl1,hk1⟩).mono ?_
  ·rintro W W' ⟨e1,e2⟩ hf
   exact⟨(hf.block _ (hL e1) (by first|omega|(dsimp only;omega))).trans e1,(hf.block _ (by have:=hL e1;omega) (by first|omega|(dsimp only;omega))).trans e2⟩
  ·rintro W W' ⟨e1,e2⟩ hf
   exact⟨(hf.block _ (hL e1) (by first|omega|(dsimp only;omega))).trans e1,(hf.block _ (by have:=hL e1;omega) (by first|omega|(dsimp only;omega))).trans e2⟩
  ·rintro s x W hs ⟨hl,hk⟩ hok
   have hy:=run_yield (P:=P) (args:=args x) hl (by rw[hrec];exact hps x)
   rw[hrec] at hy
   refine⟨fn,_,assign,body,hy,roundIn_of_wpIn hfn (wpIn_mono (hround s x W hs hok (hL hl)) ?_)⟩
   rintro e a1 W1 he
   cases e with
   | normal=>
    obtain⟨⟨e1,e2⟩,hb⟩:=he
    have hl2:=e1.trans hl
    have hk2:=e2.trans hk
    refine⟨_,run_beginRound hl2 (by rw[hrec]),?_⟩
    have hl3:(W1.putObj (w.heap.size+1) (.loop { rec .ready none with state:=.busy })).heap[w.heap.size+1]? =some (.loop { rec .ready none with state:=.busy }):=World.putObj_heap_same (hL hl2)
    have hk3:(W1.putObj (w.heap.size+1) (.loop { rec .ready none with state:=.busy })).heap[w.heap.size]? =some (.deferred (some [])):=(World.putObj_heap_other (by omega)).trans hk2
    refine wpIn_mono (hb _ ((Fr.refl _ W1).putObj _ rfl)) ?_
    rintro e a3 W3 hp
    cases e with
    | normal=>
     obtain⟨⟨q1,q2⟩,ht⟩:=hp
     have hl4:=q1.trans hl3
     have hk4:=q2.trans hk3
     have hr:=run_endRound (P:=P) none hl4
     refine⟨_,_,hr,.inl ⟨rfl,hT _ _ _ ht ((Fr.refl _ W3).putObj _ rfl),?_,(World.putObj_heap_other (by omega)).trans hk4⟩⟩
     rw[World.putObj_heap_same (hL hl4),hrec]
     rfl
    | ret=>
     obtain⟨⟨q1,q2⟩,ht⟩:=hp
     have hl4:=q1.trans hl3
     have hk4:=q2.trans hk3
     have hr:=run_endRound (P:=P) (some .ret) hl4
     refine⟨_,_,hr,.inr ⟨rfl,hTx _ _ ht ((Fr.refl _ W3).putObj _ rfl),?_,(World.putObj_heap_other (by omega)).trans hk4⟩⟩
     rw[World.putObj_heap_same (hL hl4),hrec]
     rfl
    | exit id=>exact hp.elim
    | goto t=>exact hp.elim
    | panic ch=>exact hp.elim
    | outgrown=>exact hp.elim
   | ret=>exact he.elim
   | exit id=>exact he.elim
   | goto t=>exact he.elim
   | panic ch=>exact he.elim
   | outgrown=>exact he.elim
  ·rintro e W2 ⟨⟨v,rfl⟩,(⟨s,hf,ht,hl,hk⟩ | ⟨ht,hl,hk⟩)⟩
   ·exact⟨none,_,by have:=run_endLoop (P:=P) hl (by rw[hrec];simp);rw[hrec] at this;exact this,hdone s _ hf (hT _ _ _ ht ((Fr.refl _ W2).putObj _ rfl)) ((World.putObj_heap_other (by omega)).trans hk)⟩
   ·exact⟨some .ret,_,by have:=run_endLoop (P:=P) hl (by rw[hrec];simp);rw[hrec] at this;exact this,hstop _ (hTx _ _ ht ((Fr.refl _ W2).putObj _ rfl)) ((World.putObj_heap_other (by omega)).trans hk)⟩
end Go.Proofs.YtmeaibjmnjcdfaaGreat
