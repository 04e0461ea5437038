/- A range over a function whose body may end in a panic: laws for an activation of one known function. No program is named here. -/
import Derived.Test.YthembcdcdnffeaaGreatEG20
import Derived.Test.YthembcdcdnffeaaGreatEG4
set_option maxHeartbeats 4000000
set_option maxRecDepth 100000
namespace Go.Proofs.YthembcdcdnffeaaGreat
open Go.RowKit Go.Shelf
def zl8 (P:Program) (l:Nat) (R:Ending->World->Prop):Exit->Act->World->Prop
 | .normal,_,w=>∃v w',(Instr.endRound l none).run P w=.ok v w'∧R (.returned v) w'
 | .panic c,a,w=>a.defers=[]∧R (.panicked c) w
 | _,_,_=>False
theorem zl9 {F:Fence} {n:Nat} {P:Program} {l:Nat} {f:FuncId} {tmps:Array Value} {assign body:Code} {w:World} {R:Ending->World->Prop} (hF:F.fn f) (hf:∃fn,P.funcs[f]? =some fn)
  (h:assign.wpIn (F.inRound l) n P (Exit.then (fun a₁ w₁=>∃w₂,(Instr.beginRound l).run P w₁=.ok () w₂∧body.wpIn (F.inRound l) n P (zl8 P l R) a₁ w₂) (fun _ _ _=>False))
   { tmps:=tmps,defers:=[] } w):
  RoundIn F n P l f tmps assign body w R:=by
 refine⟨hF,fun c cs hr=>?_⟩
 let b:Frame:={ (default:Frame) with fn:=f,kind:=.normal,roundOf:=some l }
 have hb0:Frame.round l f tmps assign body .normal=b.atR { tmps:=tmps,defers:=[] } [.code assign,.beginRound,.code body]:=by
  simp[Frame.round,Frame.atR,b]
 have hr':(F.inRound l).room ((c :: cs).length+1+n):=hr
 have hF':(F.inRound l).fn b.fn:=hF
 obtain⟨e,a₁,w₁,hq,harr⟩:=h b [.beginRound,.code body] (c :: cs) rfl hF' hr'
 rw[<-hb0] at harr
 cases e with
 | normal=>
  obtain⟨w₂,hbr,hbody⟩:=hq
  have s1:StepsIn (Machine.fenced P (F.inRound l)) P (lone (b.atR a₁ [.beginRound,.code body]) (c :: cs) w₁) (lone (b.atR a₁ [.code body]) (c :: cs) w₂):=
   .one (fenced_calm (fr:=b.atR a₁ [.beginRound,.code body]) hF' hr' rfl) (stepR_beginRound rfl hbr)
  obtain⟨e₂,a₂,w₃,hq₂,harr₂⟩:=hbody b [] (c :: cs) rfl hF' hr'
  cases e₂ with
  | normal=>
   obtain⟨v,w₄,hend,hR⟩:=hq₂
   exact⟨.returned v,w₄,hR,(StepsIn.trans harr s1).trans (StepsIn.trans harr₂ (.one (fenced_calm (fr:=b.atR a₂ []) hF' hr' rfl) (stepR_round_end rfl rfl hend)))⟩
  | panic chain=>
   obtain⟨hd,hR⟩:=hq₂
   obtain⟨todo,hs⟩:=harr₂
   have hleave:({ b.atR a₂ todo with mode:=.panicking chain }:Frame).leaving P w₃ (.panicked chain):=⟨rfl,hd,hf⟩
   refine⟨.panicked chain,w₃,hR,(StepsIn.trans harr s1).trans (StepsIn.trans hs (.one ?_ (step_leave_panicked hleave)))⟩
   exact fenced_leaving (F:=F.inRound l) (n:=n) hF' hr' hleave
  | exit id=>exact hq₂.elim
  | goto t=>exact hq₂.elim
  | ret=>exact hq₂.elim
  | outgrown=>exact hq₂.elim
 | exit id=>exact hq.elim
 | goto t=>exact hq.elim
 | ret=>exact hq.elim
 | panic chain=>exact hq.elim
 | outgrown=>exact hq.elim
def wpAt (P:Program) (f:FuncId) (c:Code) (Q:Exit->Act->World->Prop) (a:Act) (w:World):Prop:=
 ∀(b:Frame) (k:List Item) (cs:List Frame),b.fn=f->b.roundOf=none->∃e a' w',Q e a' w'∧Arrives P (lone (b.at a (.code c :: k)) cs w) b k cs e a' w'
section
variable {P:Program} {f:FuncId} {Q:Exit->Act->World->Prop} {a:Act} {w:World}
theorem zma {c:Code} (h:c.wp P Q a w):wpAt P f c Q a w:=fun b k cs _ _=>h b k cs
theorem zmb {x y:Code} (h:wpAt P f x (Exit.then (wpAt P f y Q) Q) a w):wpAt P f (Code.seq x y) Q a w:=by
 intro b k cs hb hro
 obtain⟨e,a₁,w₁,hq,harr⟩:=h b (.code y :: k) cs hb hro
 have hat:∀a k,b.at a k=b.atR a k:=fun a k=>(Frame.atR_of_none hro a k).symm
 have hs:step P (lone (b.at a (.code (.seq x y) :: k)) cs w)=.next (lone (b.at a (.code x :: .code y :: k)) cs w):=by rw[hat,hat];exact stepR_seq
 have h1:Steps P (lone (b.at a (.code (.seq x y) :: k)) cs w) (lone (b.at a (.code x :: .code y :: k)) cs w):=(StepsIn.one (I:=fun _=>True) trivial hs).steps
 cases e with
 | normal=>
  obtain⟨e₂,a₂,w₂,hq₂,harr₂⟩:=hq b k cs hb hro
  exact⟨e₂,a₂,w₂,hq₂,.of_steps (h1.trans harr) harr₂⟩
 | exit id=>exact⟨_,a₁,w₁,hq,.of_steps h1 (fun k' hk=>harr k' (by rw[exitTo_plain rfl];exact hk))⟩
 | goto l=>exact⟨_,a₁,w₁,hq,.of_steps h1 (fun k' hk=>harr k' (by rw[gotoIn_plain rfl];exact hk))⟩
 | ret=>exact⟨_,a₁,w₁,hq,.of_steps h1 harr⟩
 | panic ch=>exact⟨_,a₁,w₁,hq,.of_steps h1 harr⟩
 | outgrown=>exact⟨_,a₁,w₁,hq,.of_steps h1 harr⟩
theorem zmc {x y:Code} (h:∀K:Act->World->Prop,(∀a w,wpAt P f y Q a w->K a w)->x.wp P (Exit.then K Q) a w):wpAt P f (Code.seq x y) Q a w:=
 zmb (zma (h _ fun _ _ h=>h))
theorem zmd {x y:Code} (h:∀K:Act->World->Prop,(∀a w,y.wp P Q a w->K a w)->wpAt P f x (Exit.then K Q) a w):wpAt P f (Code.seq x y) Q a w:=
 zmb (h _ fun _ _ h=>zma h)
theorem zme {id:Nat} {c:Code} (h:wpAt P f c (Exit.inBlock id Q) a w):wpAt P f (Code.block id c) Q a w:=by
 intro b k cs hb hro
 obtain⟨e,a₁,w₁,hq,harr⟩:=h b (.inBlock id :: k) cs hb hro
 have hat:∀a k,b.at a k=b.atR a k:=fun a k=>(Frame.atR_of_none hro a k).symm
 have h1:Steps P (lone (b.at a (.code (.block id c) :: k)) cs w) (lone (b.at a (.code c :: .inBlock id :: k)) cs w):=by
  rw[hat,hat];exact(StepsIn.one (I:=fun _=>True) trivial stepR_block).steps
 cases e with
 | normal=>exact⟨.normal,a₁,w₁,hq,h1.trans (Steps.trans harr (by rw[hat,hat];exact(StepsIn.one (I:=fun _=>True) trivial stepR_inBlock).steps))⟩
 | exit id'=>
  by_cases hid:id'=id
  ·simp only[Exit.inBlock,hid,if_true] at hq
   exact⟨.normal,a₁,w₁,hq,h1.trans (harr k (by simp[exitTo,hid]))⟩
  ·simp only[Exit.inBlock,hid,if_false] at hq
   have this:(id == id')=false:=by simp;exact fun h=>hid h.symm
   have hx:exitTo id' (.inBlock id :: k)=exitTo id' k:=by simp[exitTo,this]
   exact⟨.exit id',a₁,w₁,hq,fun k' hk=>h1.trans (harr k' (by rw[hx];exact hk))⟩
 | goto l=>
  have hx:gotoIn l (.inBlock id :: k)=gotoIn l k:=by simp[gotoIn]
  exact⟨_,a₁,w₁,hq,fun k' hk=>h1.trans (harr k' (by rw[hx];exact hk))⟩
 | ret=>exact⟨_,a₁,w₁,hq,.of_steps h1 harr⟩
 | panic ch=>exact⟨_,a₁,w₁,hq,.of_steps h1 harr⟩
 | outgrown=>exact⟨_,a₁,w₁,hq,.of_steps h1 harr⟩
theorem zmf (n:Nat) {fn:Func} {c:Code} {args:Array Value} {R:Ending->World->Prop} (hf:P.funcs[f]? =some fn) (hb:fn.body=some c)
  (h:wpAt P f c (bodyPostM Fence.wide n P fn R) { tmps:=args ++ Array.replicate (fn.ntmps-args.size) undef,defers:=[] } w):Calls P f args w R:=by
 intro cs
 let b:Frame:={ (default:Frame) with fn:=f,kind:=.normal,roundOf:=none }
 have henter:Frame.enter P f args .normal=b.at { tmps:=args ++ Array.replicate (fn.ntmps-args.size) undef,defers:=[] } [.code c]:=by
  simp[Frame.enter,Frame.at,hf,hb,b]
 obtain⟨e,a',w',hq,harr⟩:=h b [] cs rfl rfl
 rw[<-henter] at harr
 have hat:∀a k,b.at a k=b.atR a k:=fun a k=>(Frame.atR_of_none (b:=b) rfl a k).symm
 have hcome:∀{m m':Machine} {e:Ending},ComesIn (Machine.fenced P Fence.wide) P m m' e->Comes P m m' e:=fun h=>comesIn_wide.1 h
 cases e with
 | normal=>
  obtain⟨e',w'',fr',hR,hs,hfn,hl⟩:=leaves_stepsInM a'.defers .returning w' { b.at a' [] with mode:=.returning } cs rfl rfl rfl hf rfl trivial (room_wide _) hq
  have h1:Steps P (lone (b.at a' []) cs w') (lone { b.at a' [] with mode:=.returning } cs w'):=by
   rw[hat];exact(StepsIn.one (I:=fun _=>True) trivial (stepR_end rfl)).steps
  exact⟨e',w'',fr',hR,Comes.of_steps (harr.trans h1) (hcome hs),hfn,hl⟩
 | ret=>
  obtain⟨todo,hs₀⟩:=harr
  obtain⟨e',w'',fr',hR,hs,hfn,hl⟩:=leaves_stepsInM a'.defers .returning w' { b.at a' todo with mode:=.returning } cs rfl rfl rfl hf rfl trivial (room_wide _) hq
  exact⟨e',w'',fr',hR,Comes.of_steps hs₀ (hcome hs),hfn,hl⟩
 | panic chain=>
  obtain⟨todo,hs₀⟩:=harr
  obtain⟨e',w'',fr',hR,hs,hfn,hl⟩:=leaves_stepsInM a'.defers (.panicking chain) w' { b.at a' todo with mode:=.panicking chain } cs rfl rfl rfl hf rfl trivial (room_wide _) hq
  exact⟨e',w'',fr',hR,Comes.of_steps hs₀ (hcome hs),hfn,hl⟩
 | exit id=>exact hq.elim
 | goto l=>exact hq.elim
 | outgrown=>exact⟨.outgrown,w',b,hq,harr.resolve_left (by simp[b]),rfl,trivial⟩
end
def zmg (T K:World->Prop) (N:List PanicEntry->World->Prop):Exit->Act->World->Prop
 | .normal,_,W=>K W∧T W
 | .panic c,a,W=>a.defers=[]∧K W∧N c W
 | _,_,_=>False
theorem zmh {P:Program} {f:FuncId} {fn:Func} (hfn:P.funcs[f]? =some fn) {g:Operand} {ps:Array Tmp} {assign body:Code} {Q:Exit->Act->World->Prop} {a:Act} {w:World}
  {gf:Nat} {lb:Array Value} (hg:a.eval g=.func (.func gf) #[] lb) (eg:∀args w,(callFunc gf args).run P w=.ok (.enter gf args) w)
  {σ β:Type} (args:β->Array Value) (hps:∀x,(args x).size=ps.size) (T:σ->World->Prop) (N:List PanicEntry->World->Prop) (OK:σ->β->Prop) (nx:σ->β->σ) (s0:σ) (Fin:σ->Prop) (cb:Nat) (hcb:cb<w.heap.size)
  (hT:∀s W W',T s W->Fr (fun b=>b=w.heap.size+1) W W'->T s W')
  (h0:∀o o',T s0 ((w.alloc o).alloc o'))
  (hround:∀s x W,T s W->OK s x->w.heap.size+1<W.heap.size->
   assign.wpIn (Fence.wide.inRound (w.heap.size+1)) 0 P (Exit.then (fun a1 W1=>(W1.heap[w.heap.size+1]? =W.heap[w.heap.size+1]?∧W1.heap[w.heap.size]? =W.heap[w.heap.size]?) ∧
    ∀W2,Fr (fun b=>b=w.heap.size+1) W1 W2->body.wpIn (Fence.wide.inRound (w.heap.size+1)) 0 P
     (zmg (T (nx s x)) (fun W3=>W3.heap[w.heap.size+1]? =W2.heap[w.heap.size+1]?∧W3.heap[w.heap.size]? =W2.heap[w.heap.size]?) N) a1 W2) (fun _ _ _=>False))
    { tmps:=(ps.zip (args x)).foldl (fun t (p,v)=>t.setIfInBounds p v) a.tmps,defers:=[] } W)
  (hiter:∀(Z:World->Prop) (N':List PanicEntry->World->Prop),(∀W W',Z W->Fr (fun b=>b=cb) W W'->Z W')->
   (∀s x W,T s W->Z W->OK s x->YieldAt Fence.wide 0 P (w.heap.size+1) (args x) W (fun e W'=>(e=.returned (.bool true)∧T (nx s x) W'∧Z W')∨∃c,e=.panicked c∧N' c W'))->
   ∀W1,T s0 W1->Z W1->CallsIn Fence.wide 1 P gf (#[.func (.yield (w.heap.size+1)) #[] #[]] ++ lb) W1 (fun e W'=>(∃v,e=.returned v∧∃s,Fin s∧T s W'∧Z W')∨∃c,e=.panicked c∧N' c W'))
  (hdone:∀s W,Fin s->T s W->W.heap[w.heap.size]? =some (.deferred (some []))->Q .normal { a with defers:={ target:=.collected w.heap.size,args:=#[] } :: a.defers } W)
  (hN:∀c W,N c W->W.heap[w.heap.size]? =some (.deferred (some []))->Q (.panic c) { a with defers:={ target:=.collected w.heap.size,args:=#[] } :: a.defers } W):
  wpAt P f (Code.rangeFunc g ps assign body) Q a w:=by
 obtain⟨rec,hrec⟩:∃rec:LoopState->Option Code->Loop,rec=fun st pe=>{ state:=st,pending:=pe,fn:=f,tmps:=a.tmps,params:=ps,assign,body,defers:=w.heap.size }:=⟨_,rfl⟩
 have hL:∀{A:World} {o:Obj},A.heap[w.heap.size+1]? =some o->w.heap.size+1<A.heap.size:=fun h=>(Array.getElem?_eq_some_iff.1 h).1
 have hl1:((w.alloc (.deferred (some []))).alloc (.loop (rec .ready none))).heap[w.heap.size+1]? =some (.loop (rec .ready none)):=by
  have:=World.alloc_heap_new (w.alloc (.deferred (some []))) (.loop (rec .ready none));rwa [World.size_alloc] at this
 have hk1:((w.alloc (.deferred (some []))).alloc (.loop (rec .ready none))).heap[w.heap.size]? =some (.deferred (some [])):=
  (Below.heap_alloc _ _ _ (by simp)).trans (World.alloc_heap_new w _)
 have hcall:=hiter (fun W=>W.heap[w.heap.size+1]? =some (.loop (rec .ready none))∧W.heap[w.heap.size]? =some (.deferred (some []))) (fun c W=>N c W∧W.heap[w.heap.size]? =some (.deferred (some []))) (by
  rintro W W' ⟨e1,e2⟩ hf
  exact⟨(hf.block _ (hL e1) (by first|omega|(dsimp only;omega))).trans e1,(hf.block _ (by have:=hL e1;omega) (by first|omega|(dsimp only;omega))).trans e2⟩) (by
  rintro s x W hs ⟨hl,hk⟩ hok
  have hy:=run_yield (P:=P) (args:=args x) hl (by rw[hrec];exact hps x)
  rw[hrec] at hy
  refine⟨f,_,assign,body,hy,zl9 trivial ⟨fn,hfn⟩ (wpIn_mono (hround s x W hs hok (hL hl)) ?_)⟩
  rintro e a1 W1 he
  cases e with
  | normal=>
   obtain⟨⟨e1,e2⟩,hb⟩:=he
   have hl2:=e1.trans hl
   have hk2:=e2.trans hk
   refine⟨_,run_beginRound hl2 (by rw[hrec]),?_⟩
   have hl3:(W1.putObj (w.heap.size+1) (.loop { rec .ready none with state:=.busy })).heap[w.heap.size+1]? =some (.loop { rec .ready none with state:=.busy }):=World.putObj_heap_same (hL hl2)
   have hk3:(W1.putObj (w.heap.size+1) (.loop { rec .ready none with state:=.busy })).heap[w.heap.size]? =some (.deferred (some [])):=(World.putObj_heap_other (by omega)).trans hk2
   refine wpIn_mono (hb _ ((Fr.refl _ W1).putObj _ rfl)) ?_
   rintro e a3 W3 hp
   cases e with
   | normal=>
    obtain⟨⟨q1,q2⟩,ht⟩:=hp
    have hl4:=q1.trans hl3
    have hk4:=q2.trans hk3
    have hr:=run_endRound (P:=P) none hl4
    refine⟨_,_,hr,.inl ⟨rfl,hT _ _ _ ht ((Fr.refl _ W3).putObj _ rfl),?_,(World.putObj_heap_other (by omega)).trans hk4⟩⟩
    rw[World.putObj_heap_same (hL hl4),hrec]
    rfl
   | panic ch=>
    obtain⟨hd,⟨q1,q2⟩,hn⟩:=hp
    exact⟨hd,.inr ⟨ch,rfl,hn,q2.trans hk3⟩⟩
   | ret=>exact hp.elim
   | exit id=>exact hp.elim
   | goto t=>exact hp.elim
   | outgrown=>exact hp.elim
  | ret=>exact he.elim
  | exit id=>exact he.elim
  | goto t=>exact he.elim
  | panic ch=>exact he.elim
  | outgrown=>exact he.elim) _ (h0 _ _) ⟨hl1,hk1⟩
 intro b k cs hb hro
 have hat:∀a k,b.at a k=b.atR a k:=fun a k=>(Frame.atR_of_none hro a k).symm
 have he:(Instr.enterLoop b.fn a.tmps ps assign body b.roundOf).run P w=.ok (w.heap.size+1,[{ target:=.collected w.heap.size,args:=#[] }]) ((w.alloc (.deferred (some []))).alloc (.loop (rec .ready none))):=by
  rw[hro,hb,hrec];exact run_enterLoop_outer _ _ _ _ _
 have hres:(resolve a.eval (rangeCall g (w.heap.size+1)) 0).run P ((w.alloc (.deferred (some []))).alloc (.loop (rec .ready none)))=.ok { target:=.fn (.func gf) lb,args:=#[.func (.yield (w.heap.size+1)) #[] #[]] } ((w.alloc (.deferred (some []))).alloc (.loop (rec .ready none))):=by
  simp only[resolve,hg]
  simp[go_sem]
 have hinv:(invoke (.fn (.func gf) lb) #[.func (.yield (w.heap.size+1)) #[] #[]]).run P ((w.alloc (.deferred (some []))).alloc (.loop (rec .ready none)))=.ok (.enter gf (#[.func (.yield (w.heap.size+1)) #[] #[]] ++ lb)) ((w.alloc (.deferred (some []))).alloc (.loop (rec .ready none))):=by
  simp[invoke,go_sem,eg]
 have henter:=stepR_rangeFunc (P:=P) (b:=b) (a:=a) (k:=k) (cs:=cs) (w:=w) he hres hinv
 obtain⟨e,w₃,fr,hR,hsteps,hfr,hleave⟩:=callsIn_wide.1 hcall (b.atR { a with defers:=[{ target:=.collected w.heap.size,args:=#[] }] ++ a.defers } (.inRangeFunc (w.heap.size+1) :: k) :: cs)
 have h1:=(StepsIn.one (I:=fun _=>True) trivial henter).steps
 cases e with
 | outgrown=>rcases hR with ⟨v,h,_⟩ | ⟨c,h,_⟩<;>cases h
 | returned v=>
  rcases hR with ⟨v',_,s,hs,ht,hl,hk⟩ | ⟨c,h,_⟩
  ·obtain⟨o,hend⟩:∃o,(Instr.endLoop (w.heap.size+1)).run P w₃=.ok none (w₃.putObj (w.heap.size+1) o):=⟨_,by have:=run_endLoop (P:=P) hl (by rw[hrec];simp);rw[hrec] at this;exact this⟩
   refine⟨.normal,{ a with defers:={ target:=.collected w.heap.size,args:=#[] } :: a.defers },w₃.putObj (w.heap.size+1) o,hdone s _ hs (hT _ _ _ ht ((Fr.refl _ w₃).putObj _ rfl)) ((World.putObj_heap_other (by omega)).trans hk),?_⟩
   have h2:=(StepsIn.one (I:=fun _=>True) trivial (step_leave_returned hleave (c:=b.atR { a with defers:=[{ target:=.collected w.heap.size,args:=#[] }] ++ a.defers } (.inRangeFunc (w.heap.size+1) :: k)) (cs:=cs))).steps
   rw[finish_atR_inRangeFunc] at h2
   have h3:=(StepsIn.one (I:=fun _=>True) trivial (stepR_endRangeFunc (b:=b) (a:={ a with defers:=[{ target:=.collected w.heap.size,args:=#[] }] ++ a.defers }) (k:=k) (cs:=cs) hend)).steps
   have h4:=(h1.trans hsteps).trans (h2.trans h3)
   rw[hat]
   show Steps P _ _
   rw[hat]
   exact h4
  ·cases h
 | panicked chain=>
  rcases hR with ⟨v',h,_⟩ | ⟨c,h,hn⟩
  ·cases h
  ·cases h
   refine⟨.panic chain,_,w₃,hN _ _ hn.1 hn.2,.inRangeFunc (w.heap.size+1) :: k,?_⟩
   have h2:=(StepsIn.one (I:=fun _=>True) trivial (step_leave_panicked hleave (c:=b.atR { a with defers:=[{ target:=.collected w.heap.size,args:=#[] }] ++ a.defers } (.inRangeFunc (w.heap.size+1) :: k)) (cs:=cs))).steps
   rw[Frame.raise_atR] at h2
   rw[hat,hat]
   exact(h1.trans hsteps).trans h2
section
variable {P:Program} {l:List Oper} {Q:Exit->Act->World->Prop} {a:Act} {w:World} {n:Nat} {Φ:Nat->Value->World->Prop} {E:Nat->Bool} {N:List PanicEntry->World->Prop}
theorem zmi {id:Nat} {r d:Nat} (n:Nat) (Φ:Nat->Value->World->Prop) (A E:Nat->Bool) (u:Nat) (N:List PanicEntry->World->Prop) (C1:World->Prop) (S:World->World->Prop) (hE1:E u=false) (hA1:A u=false) (hC1:∀W W',C1 W->Fr No W W'->C1 W') (hS:∀k v W W',k≠u->Φ k v W->S W W'->Φ k v W') (hA:∀k v W,A k=true->Φ k v W->bk v<W.heap.size) (hf:P.follows .mixedOrders=true) (hm:monB E l n=true) (hsz:∀o∈l.take n,∀d,o.dst=some d->d<a.tmps.size) (hΦ:∀k v W W',Φ k v W->Fr No W W'->Φ k v W')
  (hop:∀k o,k≠u->(l.take n)[k]? =some o->∀a' W,(Fr No w W∨C1 W)->(∀t,(∀p∈l.take n,p.dst≠some t)->a'.eval (.tmp t)=a.eval (.tmp t))->(∀e∈o.after,Region.binds .any e=true->∀p d,(l.take n)[e.on]? =some p->p.dst=some d->Φ e.on (a'.eval (.tmp d)) W)->
   (E k=true->zaw P o a' (fun v=>Φ k v W∧A k=false))∧(E k=false->zab P o a' W (fun v W'=>Fr No W W'∧Φ k v W'∧(A k=true->W.heap.size≤bk v))))
  (hopu:∀o,(l.take n)[u]? =some o->∀a' W,Fr No w W->(∀t,(∀p∈l.take n,p.dst≠some t)->a'.eval (.tmp t)=a.eval (.tmp t))->(∀e∈o.after,Region.binds .any e=true->∀p d,(l.take n)[e.on]? =some p->p.dst=some d->Φ e.on (a'.eval (.tmp d)) W)->
   zlQ P o a' W N (fun v W'=>C1 W'∧S W W'∧Φ u v W'))
  (T:Act->World->Prop)
  (hend:∀vs W,((n≤u∧Fr No w W)∨C1 W)->(∀k,k<n->Φ k (vs k) W)->(∀j k,j<n->k<n->j≠k->A j=true->A k=true->bk (vs j)≠bk (vs k))->wpList P l.toArray (fun e a' W'=>(e=.normal∧T a' W')∨∃c,e=.panic c∧a'.defers=a.defers∧N c W') (l.drop n) (zad (l.take n) vs (fun _=>true) 0 a) W)
  (hT:∀a' W,T a' W->Q .normal a' W) (hN:∀c a' W,a'.defers=a.defers->N c W->Q (.panic c) a' W) (hdf:zc1 l=true):(Code.region id l.toArray true).wpIn (Fence.wide.inRound r) d P Q a w:=by
 have hm':=hm
 simp only[monB,lz5,decide_eq_true_eq] at hm'
 have hn:n<l.length:=hm'.1.1.1.1.1.1.2
 refine wpIn_mono (Q:=fun e a' W'=>(e=.normal∧T a' W')∨∃c,e=.panic c∧a'.defers=a.defers∧N c W') ?_ (fun e a' W hh=>by
  rcases hh with ⟨he,hx⟩ | ⟨c,he,hd,hx⟩
  ·subst he;exact hT a' W hx
  ·subst he;exact hN c a' W hd hx)
 refine wpIn_region_any hf (zc3 (zc2 hdf) (fun⟨_,_,h⟩=>by rcases h with ⟨h,_⟩ | ⟨_,h,_⟩<;>cases h) _ _ _ _ ?_)
 have hcount:(List.range n).countP (fun i=>!(Array.replicate l.toArray.size false).getD i true)=n:=by
  rw[List.countP_eq_length.2 (fun i hi=>by
   have:=List.mem_range.1 hi
   have:i<l.length:=by omega
   simp[this])]
  simp
 have h:=zlT (w:=w) A u C1 S hE1 hA1 hC1 hS hA hm hsz hΦ (fun c a' a'' w' hd h=>by
  rcases h with ⟨h,_⟩ | ⟨c',h,hd',h'⟩
  ·cases h
  ·cases h;exact .inr ⟨_,rfl,hd▸hd',h'⟩) (fun c a' W hd h=>.inr ⟨c,rfl,hd,h⟩) hop hopu hend n (Array.replicate l.toArray.size false) { w with drawn:=w.drawn+1 } hcount.symm
  ⟨by simp,fun j oj _ hl=>(by rw[getD_replicate_false] at hl;cases hl),fun t _ ht=>getD_in (by simpa using ht) (getD_replicate_false _ _)⟩ (fun _=>undef) (fun _=>(Fr.refl No w).drew) (fun hl=>by rw[getD_replicate_false] at hl;cases hl) (fun k _ hl=>by rw[getD_replicate_false] at hl;cases hl) (fun j k _ _ _ hl=>by rw[getD_replicate_false] at hl;cases hl)
 rw[zaj (l.take n) (fun _=>undef) (fun _=>undef) (fun i=>(Array.replicate l.toArray.size false).getD i false) (fun _=>false) 0 a (fun j _ _=>⟨rfl,getD_replicate_false _ _⟩)] at h
 have hnone:∀(l':List Oper) (k:Nat) (a:Act),zad l' (fun _=>undef) (fun _=>false) k a=a:=fun l'=>by
  induction l' with
  | nil=>intro k a;rfl
  | cons o rest ih=>intro k a;unfold zad;simpa using ih (k+1) a
 rw[hnone,show n+(l.length-n)=l.toArray.size by simp;omega] at h
 exact h
end
theorem zmj {r d:Nat} {P:Program} {l:List Oper} {Q:Exit->Act->World->Prop} {a:Act} {w:World} {id:Nat} (n:Nat) (L:List (Value->World->Prop)) (AL EL:List Bool) (u:Nat) (N:List PanicEntry->World->Prop) (C1:World->Prop) (S:World->World->Prop) (hA:∀p∈L.zip AL,p.2=true->∀v W,p.1 v W->bk v<W.heap.size)
  (hf:P.follows .mixedOrders=true) (hm:(monB (fun k=>EL.getD k false) l n&&decide (L.length=n)&&decide (AL.length=n)&&!EL.getD u false&&!AL.getD u false)=true) (hsz:∀o∈l.take n,∀d,o.dst=some d->d<a.tmps.size) (hL:∀φ∈L,MonP φ)
  (hdf:zc1 l=true) (hC1:∀W W',C1 W->Fr No W W'->C1 W') (hS:∀k (hk:k<L.length),k≠u->∀v W W',L[k] v W->S W W'->L[k] v W')
  (hop:∀k o,k≠u->(l.take n)[k]? =some o->∀a' W,(Fr No w W∨C1 W)->(∀t,(∀p∈l.take n,p.dst≠some t)->a'.eval (.tmp t)=a.eval (.tmp t))->(∀e∈o.after,Region.binds .any e=true->∀p d,(l.take n)[e.on]? =some p->p.dst=some d->L.getD e.on (fun _ _=>True) (a'.eval (.tmp d)) W)->
   (EL.getD k false=true->zaw P o a' (fun v=>L.getD k (fun _ _=>True) v W∧AL.getD k false=false))∧(EL.getD k false=false->zab P o a' W (fun v W'=>Fr No W W'∧L.getD k (fun _ _=>True) v W'∧(AL.getD k false=true->W.heap.size≤bk v))))
  (hopu:∀o,(l.take n)[u]? =some o->∀a' W,Fr No w W->(∀t,(∀p∈l.take n,p.dst≠some t)->a'.eval (.tmp t)=a.eval (.tmp t))->(∀e∈o.after,Region.binds .any e=true->∀p d,(l.take n)[e.on]? =some p->p.dst=some d->L.getD e.on (fun _ _=>True) (a'.eval (.tmp d)) W)->
   zlQ P o a' W N (fun v W'=>C1 W'∧S W W'∧L.getD u (fun _ _=>True) v W'))
  (hN:∀c a' W,a'.defers=a.defers->N c W->Q (.panic c) a' W)
  (hend:∀vs W,((n≤u∧Fr No w W)∨C1 W)->(∀k,k<n->L.getD k (fun _ _=>True) (vs k) W)->(∀j k,j<n->k<n->j≠k->AL.getD j false=true->AL.getD k false=true->bk (vs j)≠bk (vs k))->wpList P l.toArray (fun e a' W'=>(e=.normal∧Q .normal a' W')∨∃c,e=.panic c∧a'.defers=a.defers∧N c W') (l.drop n) (zad (l.take n) vs (fun _=>true) 0 a) W):(Code.region id l.toArray true).wpIn (Fence.wide.inRound r) d P Q a w:=by
 simp only[lz5,decide_eq_true_eq,Bool.not_eq_true'] at hm
 obtain⟨⟨⟨⟨hm,hl1⟩,hl2⟩,hE1⟩,hA1⟩:=hm
 refine zmi n (fun k=>L.getD k (fun _ _=>True)) (fun k=>AL.getD k false) (fun k=>EL.getD k false) u N C1 S hE1 hA1 hC1 (fun k v W W' hku h hs=>?_) (fun k v W hk h=>?_) hf hm hsz (fun k v W W' h hf=>?_) hop hopu (fun a' W'=>Q .normal a' W') hend (fun _ _ h=>h) hN hdf
 ·rcases Nat.lt_or_ge k L.length with h1|h1
  ·have e1:L.getD k (fun _ _=>True)=L[k]:=by simp[List.getD,lz8 h1]
   rw[e1] at h ⊢
   exact hS k h1 hku v W W' h hs
  ·have e1:L.getD k (fun _ _=>True)=fun _ _=>True:=by simp[List.getD,List.getElem?_eq_none h1]
   rw[e1];trivial
 ·have hk2:k<AL.length:=by
   rcases Nat.lt_or_ge k AL.length with h|h
   ·exact h
   ·simp[List.getD,List.getElem?_eq_none h] at hk
  have hk1:k<L.length:=by omega
  have e1:L.getD k (fun _ _=>True)=L[k]:=by simp[List.getD,lz8 hk1]
  have e2:AL.getD k false=AL[k]:=by simp[List.getD,lz8 hk2]
  rw[e1] at h
  rw[e2] at hk
  exact hA (L[k],AL[k]) (List.mem_iff_getElem.2 ⟨k,by simp;omega,by simp⟩) hk v W h
 ·rcases Nat.lt_or_ge k L.length with h1|h1
  ·have e1:L.getD k (fun _ _=>True)=L[k]:=by simp[List.getD,lz8 h1]
   rw[e1] at h ⊢
   exact hL _ (List.getElem_mem h1) v W W' h hf
  ·have e1:L.getD k (fun _ _=>True)=fun _ _=>True:=by simp[List.getD,List.getElem?_eq_none h1]
   rw[e1];trivial
theorem zmk {r d:Nat} {P:Program} {l:List Oper} {Q:Exit->Act->World->Prop} {a:Act} {w:World} {id:Nat} (n:Nat) (L:List (Value->World->Prop)) (AL EL:List Bool) (N:List PanicEntry->World->Prop) (hA:∀p∈L.zip AL,p.2=true->∀v W,p.1 v W->bk v<W.heap.size)
  (hf:P.follows .mixedOrders=true) (hm:(monB (fun k=>EL.getD k false) l n&&decide (L.length=n)&&decide (AL.length=n)&&!EL.getD n false&&!AL.getD n false)=true) (hsz:∀o∈l.take n,∀d,o.dst=some d->d<a.tmps.size) (hL:∀φ∈L,MonP φ) (hdf:zc1 l=true)
  (hop:∀k o,(l.take n)[k]? =some o->∀a' W,Fr No w W->(∀t,(∀p∈l.take n,p.dst≠some t)->a'.eval (.tmp t)=a.eval (.tmp t))->(∀e∈o.after,Region.binds .any e=true->∀p d,(l.take n)[e.on]? =some p->p.dst=some d->L.getD e.on (fun _ _=>True) (a'.eval (.tmp d)) W)->
   (EL.getD k false=true->zaw P o a' (fun v=>L.getD k (fun _ _=>True) v W∧AL.getD k false=false))∧(EL.getD k false=false->zab P o a' W (fun v W'=>Fr No W W'∧L.getD k (fun _ _=>True) v W'∧(AL.getD k false=true->W.heap.size≤bk v))))
  (hN:∀c a' W,a'.defers=a.defers->N c W->Q (.panic c) a' W)
  (hend:∀vs W,Fr No w W->(∀k,k<n->L.getD k (fun _ _=>True) (vs k) W)->(∀j k,j<n->k<n->j≠k->AL.getD j false=true->AL.getD k false=true->bk (vs j)≠bk (vs k))->wpList P l.toArray (fun e a' W'=>(e=.normal∧Q .normal a' W')∨∃c,e=.panic c∧a'.defers=a.defers∧N c W') (l.drop n) (zad (l.take n) vs (fun _=>true) 0 a) W):(Code.region id l.toArray true).wpIn (Fence.wide.inRound r) d P Q a w:=
 zmj n L AL EL n N (fun _=>False) (fun _ _=>False) hA hf hm hsz hL hdf (fun _ _ h=>h.elim) (fun _ _ _ _ _ _ _ h=>h.elim)
  (fun k o _ ho a' W hW=>hop k o ho a' W (hW.resolve_right (fun h=>h))) (fun o ho=>by
   have:=(List.getElem?_eq_some_iff.1 ho).1
   simp at this;omega) hN (fun vs W hW=>hend vs W ((hW.resolve_right (fun h=>h)).2))
attribute [local go_sem] Oper.semAt_some
def bkA (x:Int×Knd):Array Value:=#[.int .i64 x.1,.agg #[.int .i64 x.2.kind,.string x.2.name]]
def bkOK (xs:List Knd) (j:Nat) (x:Int×Knd):Prop:=j<xs.length∧x.1=(xs.length:Int)-1-j∧xs[xs.length-1-j]? =some x.2
theorem zml (Y:Nat->Prop) (xs:List Knd) (A:Option Addr) (cap c L:Nat) (T:Nat->World->Prop) (hlen:xs.length≤1000000)
  (hT:∀j W,T j W->Bx W c 54 #[.slice A xs.length cap]∧Sl Y W 2 KndC (.slice A xs.length cap) xs)
  (Z:World->Prop) (N:List PanicEntry->World->Prop)
  (hY:∀s x W,T s W->Z W->bkOK xs s x->YieldAt Fence.wide 0 Tryz.prog L (bkA x) W (fun e W'=>(e=.returned (.bool true)∧T (s+1) W'∧Z W')∨∃c,e=.panicked c∧N c W'))
  (W1:World) (h1:T 0 W1) (hz:Z W1):
  CallsIn Fence.wide 1 Tryz.prog 180 #[.func (.yield L) #[] #[],.pointer (some ⟨c,0,none⟩)] W1
   (fun e W'=>(∃v,e=.returned v∧∃s,s=xs.length∧T s W'∧Z W')∨∃c,e=.panicked c∧N c W'):=by
 refine callsIn_of_wp Tryz.func180 rfl trivial ?_ rfl
 simp only[Tryz.ntmps180,List.size_toArray,List.length_cons,List.length_nil,Nat.reduceAdd,Nat.reduceSub,Array.replicate_succ,Array.replicate_zero,List.push_toArray,List.append_toArray,List.nil_append,List.cons_append]
 have b0:=(hT 0 W1 h1).1.c1
 have bl:=(hT 0 W1 h1).1.lt
 gi_wp2
 gi_loopw [3] (fun u wr=>∃j:Nat,j≤xs.length∧u=.int .i64 ((xs.length:Int)-1-j)∧T j wr∧Z wr) (fun u _=>(intOf u+1).toNat)
 case atStart=>exact⟨0,Nat.zero_le _,by simp,h1,hz⟩
 case round=>
  clear h1 hz b0 bl
  obtain⟨j,hj,rfl,hTj,hzj⟩:=hrel
  obtain⟨hb,hs⟩:=hT j wr hTj
  have b0:=hb.c1
  have bl:=hb.lt
  by_cases hlt:j<xs.length
  ·have hk:xs.length-1-j<xs.length:=by omega
   have hidx:((xs.length:Int)-1-j).toNat=xs.length-1-j:=by omega
   obtain⟨fn,tmps,assign,body,hy,hR⟩:=hY j ((xs.length:Int)-1-j,xs[xs.length-1-j]) wr hTj hzj ⟨hlt,rfl,lz8 hk⟩
   obtain⟨b,off,rfl,_,c0,c1,_⟩:=hs.knd hk
   have cl:=lt_of_cell c0
   dsimp only[bkA] at hy
   gi_wp2
   refine hR.mono ?_
   rintro e W3 (⟨rfl,hT3,hz3⟩ | ⟨ch,rfl,hX3⟩)
   ·clear b0 bl c0 c1 cl hy hR hs hb
    gi_wp2
    go_roundw
    case rel=>exact⟨j+1,by omega,by congr 1;omega,hT3,hz3⟩
    case measure=>simp[intOf];omega
   ·clear b0 bl c0 c1 cl hy hR hs hb
    exact⟨rfl,.inr ⟨ch,rfl,hX3⟩⟩
  ·clear hs hb
   obtain rfl:j=xs.length:=by omega
   have e0:(xs.length:Int)-1-(xs.length:Int)=-1:=by omega
   rw[e0]
   clear e0
   gi_wp2
   go_end0
   exact .inl ⟨_,rfl,xs.length,rfl,hTj,hzj⟩
theorem zmm (A:Option Addr) (n c:Nat) (w:World):Calls Tryz.prog 146 #[.slice A n c] w
  (fun e w'=>e=.returned (.func (.func 180) #[] #[.pointer (some ⟨w.heap.size,0,none⟩)])∧w'=w.alloc (.cells #[.slice A n c] 54)):=by
 have hmf:∀(fn:Fn) (first cap:Array Value) (w:World),(Instr.makeFunc fn first cap).run Tryz.prog w=.ok (.func fn first cap) w:=fun _ _ _ _=>rfl
 go_enter Tryz.func146,Tryz.ntmps146
 go_wp2
 go_ret
 exact⟨rfl,rfl⟩
theorem zmn {f:FuncId} {fn:Func} (hfn:Tryz.prog.funcs[f]? =some fn) {g:Operand} {ps:Array Tmp} {assign body:Code} {Q:Exit->Act->World->Prop} {a:Act} {w:World} (Y:Nat->Prop) (xs:List Knd) (A:Option Addr) (cap c:Nat) (hlen:xs.length≤1000000)
  (hg:a.eval g=.func (.func 180) #[] #[.pointer (some ⟨c,0,none⟩)]) (hps:ps.size=2) (T:Nat->World->Prop) (N:List PanicEntry->World->Prop)
  (hTb:∀j W,T j W->Bx W c 54 #[.slice A xs.length cap]∧Sl Y W 2 KndC (.slice A xs.length cap) xs)
  (hT:∀j W W',T j W->Fr (fun b=>b=w.heap.size+1) W W'->T j W')
  (h0:∀o o',T 0 ((w.alloc o).alloc o')) (hc:c<w.heap.size)
  (hround:∀j x W,T j W->bkOK xs j x->w.heap.size+1<W.heap.size->
   assign.wpIn (Fence.wide.inRound (w.heap.size+1)) 0 Tryz.prog (Exit.then (fun a1 W1=>(W1.heap[w.heap.size+1]? =W.heap[w.heap.size+1]?∧W1.heap[w.heap.size]? =W.heap[w.heap.size]?) ∧
    ∀W2,Fr (fun b=>b=w.heap.size+1) W1 W2->body.wpIn (Fence.wide.inRound (w.heap.size+1)) 0 Tryz.prog
     (zmg (T (j+1)) (fun W3=>W3.heap[w.heap.size+1]? =W2.heap[w.heap.size+1]?∧W3.heap[w.heap.size]? =W2.heap[w.heap.size]?) N) a1 W2) (fun _ _ _=>False))
    { tmps:=(ps.zip (bkA x)).foldl (fun t (p,v)=>t.setIfInBounds p v) a.tmps,defers:=[] } W)
  (hdone:∀W,T xs.length W->W.heap[w.heap.size]? =some (.deferred (some []))->Q .normal { a with defers:={ target:=.collected w.heap.size,args:=#[] } :: a.defers } W)
  (hN:∀c W,N c W->W.heap[w.heap.size]? =some (.deferred (some []))->Q (.panic c) { a with defers:={ target:=.collected w.heap.size,args:=#[] } :: a.defers } W):
  wpAt Tryz.prog f (Code.rangeFunc g ps assign body) Q a w:=
 zmh hfn hg (enters_of Tryz.func180 (by kernel_rfl) rfl)
  bkA (fun _=>hps.symm) T N (bkOK xs) (fun j _=>j+1) 0 (fun s=>s=xs.length) c hc hT h0 hround
  (fun Z N' _ hY W1 h1 hz=>zml Y xs A cap c _ T hlen hTb Z N' hY W1 h1 hz)
  (fun s W hs hT=>by subst hs;exact hdone W hT) hN
end Go.Proofs.YthembcdcdnffeaaGreat
