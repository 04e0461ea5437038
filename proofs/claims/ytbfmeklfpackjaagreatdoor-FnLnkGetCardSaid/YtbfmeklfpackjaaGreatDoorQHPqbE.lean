/- What this claim adds to its base. -/
import Derived.Test.YtbfmeklfpackjaaGreatDoorQG44
set_option maxHeartbeats 8000000
set_option maxRecDepth 100000
namespace Go.Proofs.YtbfmeklfpackjaaGreatDoor
open Go.RowKit
section
variable {κ β:Type} {L:El κ β} {X:Nat->Prop} {W W':World}
theorem Els.get:∀{ks:List κ} {xs:List β},Els L W ks xs->∀i (h1:i<ks.length) (h2:i<xs.length),L.R W ks[i] xs[i]
 | _ :: _,_ :: _,h,0,_,_=>h.1
 | _ :: ks,_ :: xs,h,i+1,h1,h2=>Els.get (ks:=ks) (xs:=xs) h.2 i (by simpa using h1) (by simpa using h2)
 | [],[],_,i,h1,_=>absurd h1 (by simp)
 | [],_ :: _,h,_,_,_=>h.elim
 | _ :: _,[],h,_,_,_=>h.elim
end
def zgK (id:Nat) (T Tx K:World->Prop):Exit->Act->World->Prop
 | .normal,_,W=>K W∧T W
 | .exit j,_,W=>j=id∧K W∧Tx W
 | _,_,_=>False
theorem zgL (xid:Nat) {F:Fence} {n:Nat} {P:Program} {g:Operand} {ps:Array Tmp} {assign body:Code} {Q:Exit->Act->World->Prop} {a:Act} {w:World}
  (hro:F.round=none) (h1:1≤n) {gf:Nat} {lb:Array Value} (hg:a.eval g=.func (.func gf) #[] lb) (hFg:F.fn gf) (eg:∀args w,(callFunc gf args).run P w=.ok (.enter gf args) w)
  {σ β:Type} (args:β->Array Value) (hps:∀x,(args x).size=ps.size) (T:σ->World->Prop) (Tx:World->Prop) (OK:σ->β->Prop) (nx:σ->β->σ) (s0:σ) (Fin:σ->Prop) (cb:Nat) (hcb:cb<w.heap.size)
  (hT:∀s W W',T s W->Fr (fun b=>b=w.heap.size+1) W W'->T s W')
  (hTx:∀W W',Tx W->Fr (fun b=>b=w.heap.size+1) W W'->Tx W')
  (h0:∀o o',T s0 ((w.alloc o).alloc o'))
  (hround:∀s x W,T s W->OK s x->w.heap.size+1<W.heap.size->
   assign.wpIn (F.inRound (w.heap.size+1)) (n-1-1) P (Exit.then (fun a1 W1=>(W1.heap[w.heap.size+1]? =W.heap[w.heap.size+1]?∧W1.heap[w.heap.size]? =W.heap[w.heap.size]?) ∧
    ∀W2,Fr (fun b=>b=w.heap.size+1) W1 W2->body.wpIn (F.inRound (w.heap.size+1)) (n-1-1) P
     (zgK xid (T (nx s x)) Tx (fun W3=>W3.heap[w.heap.size+1]? =W2.heap[w.heap.size+1]?∧W3.heap[w.heap.size]? =W2.heap[w.heap.size]?)) a1 W2) (fun _ _ _=>False))
    { tmps:=(ps.zip (args x)).foldl (fun t (p,v)=>t.setIfInBounds p v) a.tmps,defers:=[] } W)
  (hiter:∀(Z Zd:World->Prop),(∀W W',Z W->Fr (fun b=>b=cb) W W'->Z W')->(∀W W',Zd W->Fr (fun b=>b=cb) W W'->Zd W')->
   (∀s x W,T s W->Z W->OK s x->YieldAt F (n-1-1) P (w.heap.size+1) (args x) W (fun e W'=>(e=.returned (.bool true)∧T (nx s x) W'∧Z W')∨(e=.returned (.bool false)∧Tx W'∧Zd W')))->
   ∀W1,T s0 W1->Z W1->CallsIn F (n-1) P gf (#[.func (.yield (w.heap.size+1)) #[] #[]] ++ lb) W1 (fun e W'=>(∃v,e=.returned v)∧((∃s,Fin s∧T s W'∧Z W')∨(Tx W'∧Zd W'))))
  (hdone:∀s W,Fin s->T s W->W.heap[w.heap.size]? =some (.deferred (some []))->Q .normal { a with defers:={ target:=.collected w.heap.size,args:=#[] } :: a.defers } W)
  (hstop:∀W,Tx W->W.heap[w.heap.size]? =some (.deferred (some []))->(Code.exit xid).wpIn F n P Q { a with defers:={ target:=.collected w.heap.size,args:=#[] } :: a.defers } W):
  (Code.rangeFunc g ps assign body).wpIn F n P Q a w:=by
 refine wpIn_rangeFunc ?_
 intro fn hfn
 rw[hro]
 obtain⟨rec,hrec⟩:∃rec:LoopState->Option Code->Loop,rec=fun st pe=>{ state:=st,pending:=pe,fn,tmps:=a.tmps,params:=ps,assign,body,defers:=w.heap.size }:=⟨_,rfl⟩
 have hL:∀{A:World} {o:Obj},A.heap[w.heap.size+1]? =some o->w.heap.size+1<A.heap.size:=fun h=>(Array.getElem?_eq_some_iff.1 h).1
 refine⟨w.heap.size+1,[{ target:=.collected w.heap.size,args:=#[] }],(w.alloc (.deferred (some []))).alloc (.loop (rec .ready none)),{ target:=.fn (.func gf) lb,args:=#[.func (.yield (w.heap.size+1)) #[] #[]] },(w.alloc (.deferred (some []))).alloc (.loop (rec .ready none)),gf,
  #[.func (.yield (w.heap.size+1)) #[] #[]] ++ lb,(w.alloc (.deferred (some []))).alloc (.loop (rec .ready none)),?_,?_,?_,?_,fun _=>h1,?_⟩
 ·rw[hrec];exact run_enterLoop_outer _ _ _ _ _
 ·simp only[resolve,hg]
  simp[go_sem]
 ·intro f' hf';simp[Target.leads] at hf';subst hf';exact hFg
 ·simp[invoke,go_sem,eg]
 ·have hl1:((w.alloc (.deferred (some []))).alloc (.loop (rec .ready none))).heap[w.heap.size+1]? =some (.loop (rec .ready none)):=by
   have:=World.alloc_heap_new (w.alloc (.deferred (some []))) (.loop (rec .ready none));rwa [World.size_alloc] at this
  have hk1:((w.alloc (.deferred (some []))).alloc (.loop (rec .ready none))).heap[w.heap.size]? =some (.deferred (some [])):=
   (Below.heap_alloc _ _ _ (by simp)).trans (World.alloc_heap_new w _)
  refine(hiter (fun W=>W.heap[w.heap.size+1]? =some (.loop (rec .ready none))∧W.heap[w.heap.size]? =some (.deferred (some [])))
   (fun W=>W.heap[w.heap.size+1]? =some (.loop (rec .done (some (.exit xid))))∧W.heap[w.heap.size]? =some (.deferred (some []))) ?_ ?_ ?_ _ (h0 _ _) ⟨hl1,hk1⟩).mono ?_
  ·rintro W W' ⟨e1,e2⟩ hf
   exact⟨(hf.block _ (hL e1) (by first|omega|(dsimp only;omega))).trans e1,(hf.block _ (by have:=hL e1;omega) (by first|omega|(dsimp only;omega))).trans e2⟩
  ·rintro W W' ⟨e1,e2⟩ hf
   exact⟨(hf.block _ (hL e1) (by first|omega|(dsimp only;omega))).trans e1,(hf.block _ (by have:=hL e1;omega) (by first|omega|(dsimp only;omega))).trans e2⟩
  ·rintro s x W hs ⟨hl,hk⟩ hok
   have hy:=run_yield (P:=P) (args:=args x) hl (by rw[hrec];exact hps x)
   rw[hrec] at hy
   refine⟨fn,_,assign,body,hy,roundIn_of_wpIn hfn (wpIn_mono (hround s x W hs hok (hL hl)) ?_)⟩
   rintro e a1 W1 he
   cases e with
   | normal=>
    obtain⟨⟨e1,e2⟩,hb⟩:=he
    have hl2:=e1.trans hl
    have hk2:=e2.trans hk
    refine⟨_,run_beginRound hl2 (by rw[hrec]),?_⟩
    have hl3:(W1.putObj (w.heap.size+1) (.loop { rec .ready none with state:=.busy })).heap[w.heap.size+1]? =some (.loop { rec .ready none with state:=.busy }):=World.putObj_heap_same (hL hl2)
    have hk3:(W1.putObj (w.heap.size+1) (.loop { rec .ready none with state:=.busy })).heap[w.heap.size]? =some (.deferred (some [])):=(World.putObj_heap_other (by omega)).trans hk2
    refine wpIn_mono (hb _ ((Fr.refl _ W1).putObj _ rfl)) ?_
    rintro e a3 W3 hp
    cases e with
    | normal=>
     obtain⟨⟨q1,q2⟩,ht⟩:=hp
     have hl4:=q1.trans hl3
     have hk4:=q2.trans hk3
     have hr:=run_endRound (P:=P) none hl4
     refine⟨_,_,hr,.inl ⟨rfl,hT _ _ _ ht ((Fr.refl _ W3).putObj _ rfl),?_,(World.putObj_heap_other (by omega)).trans hk4⟩⟩
     rw[World.putObj_heap_same (hL hl4),hrec]
     rfl
    | exit id=>
     obtain⟨rfl,⟨q1,q2⟩,ht⟩:=hp
     have hl4:=q1.trans hl3
     have hk4:=q2.trans hk3
     have hr:=run_endRound (P:=P) (some (.exit id)) hl4
     refine⟨_,_,hr,.inr ⟨rfl,hTx _ _ ht ((Fr.refl _ W3).putObj _ rfl),?_,(World.putObj_heap_other (by omega)).trans hk4⟩⟩
     rw[World.putObj_heap_same (hL hl4),hrec]
     rfl
    | ret=>exact hp.elim
    | goto t=>exact hp.elim
    | panic ch=>exact hp.elim
    | outgrown=>exact hp.elim
   | ret=>exact he.elim
   | exit id=>exact he.elim
   | goto t=>exact he.elim
   | panic ch=>exact he.elim
   | outgrown=>exact he.elim
  ·rintro e W2 ⟨⟨v,rfl⟩,(⟨s,hf,ht,hl,hk⟩ | ⟨ht,hl,hk⟩)⟩
   ·exact⟨none,_,by have:=run_endLoop (P:=P) hl (by rw[hrec];simp);rw[hrec] at this;exact this,hdone s _ hf (hT _ _ _ ht ((Fr.refl _ W2).putObj _ rfl)) ((World.putObj_heap_other (by omega)).trans hk)⟩
   ·exact⟨some (.exit xid),_,by have:=run_endLoop (P:=P) hl (by rw[hrec];simp);rw[hrec] at this;exact this,hstop _ (hTx _ _ ht ((Fr.refl _ W2).putObj _ rfl)) ((World.putObj_heap_other (by omega)).trans hk)⟩
theorem zg0:∀(seen fs:List Fld),zeI seen fs=true->∀c∈fs,namB c.name=true∧kndB c.kind=true
 | _,[],_,_,h=>by cases h
 | seen,f :: fs,h,c,hc=>by
  rw[zeI] at h
  simp only[lz5] at h
  rcases List.mem_cons.1 hc with rfl|hc
  ·exact h.1.1
  ·exact zg0 _ fs h.2 c hc
theorem zg2 {c:Cls} (h:clsB c=true):∀f∈c.fields,namB f.name=true∧kndB f.kind=true:=by
 unfold clsB at h
 simp only[lz5] at h
 exact zg0 _ _ h.1.2
def zvp:Array Value:=#[.string ⟨#[118]⟩,.string ⟨#[110,101,120,116]⟩,.string ⟨#[119]⟩,.string ⟨#[110,111,110,101]⟩,.string ⟨#[65]⟩]
theorem zvq (v:Value) (bs:List Int) (w:World) (h:Sl No w 1 BytC v bs):
  Calls Tryz.prog 13 #[v] w (zuX w):=by
 obtain⟨Ab,cb,rfl,_,_⟩:=h.form
 have H1:=fun W (hW:Fr No w W)=>zr9 _ bs W (h.keep (R':=BytC) hW zN (fun _ _ _ h=>h))
 have B2:=Bx.new w 25 #[.slice none 0 0]
 have hfA:=(Fr.refl No w).alloc (.cells #[.slice none 0 0] 25)
 clear h
 go_enter Tryz.func13,Tryz.ntmps13
 go_wp2_with (go_at_call 21;refine(H1 _ (by exact frc)).mono ?_;rintro e w1 ⟨rb,rfl,hr1,hf1,hrb,hs1⟩;rw[World.size_alloc] at hrb;replace hrb:=Lib.hid hrb;replace hs1:=Lib.hid hs1;refine Hid.out ?_)
 refine Lib.hid ?_
 have hrb9:=hrb.out
 have hs19:=hs1.out
 have B21:=B2.keep hf1
 have hw1:=hfA.trans0 hf1
 have hb2l:w.heap.size<w1.heap.size:=by omega
 have hb2r:w.heap.size≠rb:=by omega
 have hrbl:rb<w1.heap.size:=by omega
 have hC0:dC rb w.heap.size w1.heap.size w1 0 w1:=⟨hr1,Fr.refl _ _,_,[],B21,Sl.nil _ _ _ _⟩
 clear hrb9 hs19 H1 B2 hfA hf1 hr1 B21
 go_wp2_with fail
 have HR:=fun W j (hW:dC rb w.heap.size w1.heap.size w1 j W)=>hW.1
 have hG:∀j W,dC rb w.heap.size w1.heap.size w1 j W->Fr (fun b=>b=rb∨b=w.heap.size) w1 W:=fun _ _ h=>h.2.1
 have hGs:∀W,Fr (fun b=>b=rb∨b=w.heap.size) w1 W->w1.heap.size≤W.heap.size:=fun _ h=>h.size
 have hst:∀{b:Nat},w1.heap.size≤b->¬(b=rb∨b=w.heap.size):=fun h=>by omega
 refine zpN 5 23 [aV (.pointer (some ⟨rb,0,none⟩)),aW (plV9 w1.heap.size) (zuS _),aC (roV zuV rK9 5 w1.heap.size) (zuT _ _ _ _),aV (.pointer (some ⟨rb,0,none⟩)),aW (pkV 5) (zuq _),aC (rpV zuV rK9 5 w1.heap.size) (zuU _ _ _ _),aC (iiV) (zuJ),aV (.pointer (some ⟨rb,0,none⟩)),aW (st20 10) (zuQ _),aC (roV zuW zvp 5 w1.heap.size) (zuT _ _ _ _),aV (.pointer (some ⟨rb,0,none⟩)),aW (pkV 5) (zuq _),aC (rpV zuW zvp 5 w1.heap.size) (zuU _ _ _ _),aC (st20 10) (zuQ _),aX (undef),aC (iiV) (zuJ),aC (st20 10) (zuQ _),aC (st20 10) (zuQ _)] (dC rb w.heap.size w1.heap.size w1) (Fr (fun b=>b=rb∨b=w.heap.size)) (by kernel_rfl) (by kernel_rfl) (by simp) (dC.mono) (dC.mono _ _ _ hC0 ((Fr.refl No _).drew)) ?_ ?_ ?_
 ·exact fun v W W' hs=>hSA rfl <| hopA (fun _ h=>by exact let ⟨A,n,c,ks,g1,g2⟩:=h;⟨A,n,c,ks,g1,g2.keep hs (fun b e=>by show b<w1.heap.size;omega) (fun _ _ _ h=>h.keep hs (fun b e=>by show b<w1.heap.size;omega))⟩) <| hopA (fun _ h=>by exact let ⟨b,g1,g2,g3⟩:=h;⟨b,g1,g2.keepX hs (hst g3),g3⟩) <| hSA rfl <| hopA (fun _ h=>by exact h) <| hopA (fun _ h=>by exact let ⟨b,k,g0,g1,g2,g3⟩:=h;⟨b,k,g0,g1,g2.keepX hs (hst g3),g3⟩) <| hopA (fun _ h=>by exact h) <| hSA rfl <| hopA (fun _ h=>by exact h) <| hopA (fun _ h=>by exact let ⟨b,g1,g2,g3⟩:=h;⟨b,g1,g2.keepX hs (hst g3),g3⟩) <| hSA rfl <| hopA (fun _ h=>by exact h) <| hopA (fun _ h=>by exact let ⟨b,k,g0,g1,g2,g3⟩:=h;⟨b,k,g0,g1,g2.keepX hs (hst g3),g3⟩) <| hopA (fun _ h=>by exact h) <| hSA rfl <| hopA (fun _ h=>by exact h) <| hopA (fun _ h=>by exact h) <| hopA (fun _ h=>by exact h) <| zpL
 ·refine hopA ?_ <| hopA ?_ <| hopA ?_ <| hopA ?_ <| hopA ?_ <| hopA ?_ <| hopA ?_ <| hopA ?_ <| hopA ?_ <| hopA ?_ <| hopA ?_ <| hopA ?_ <| hopA ?_ <| hopA ?_ <| hopA ?_ <| hopA ?_ <| hopA ?_ <| hopA ?_ <| zpL
  all_goals (intro _ a' W jc hjc hW0 hoff hdep;have hW:=hG jc _ hW0;have hbs:=hGs _ hW;have H6:=hoff 6 rfl;have H2:=hoff 2 rfl)
  ·simp[execOp,Act.eval,H6,go_sem,zaa];exact fr1 rfl
  ·have D9:_=_:=hdep 0 9 rfl;replace hjc:jc<5:=hjc;simp[Act.eval,D9,go_sem,zaa];exact(zuR rb (200 * jc) 14 W hW0.1 (by omega) (by omega) (by omega)).mono (fun e w' h=>by obtain⟨vp,ks,g1,g2,g3,g4⟩:=h;obtain⟨A,c,rfl,_,_⟩:=g2.form;exact⟨_,g1,hW0.step g4 g3 (by omega) hrbl hb2r,g4.mono (fun _ _ e=>.inl e),A,_,c,ks,rfl,g2.weaken (fun b e=>Nat.lt_of_lt_of_le e hbs) (fun _ _ _ h=>h.weaken (fun b e=>Nat.lt_of_lt_of_le e hbs))⟩)
  ·simp[execOp,go_sem,zaa];exact⟨(Fr.refl _ _).alloc _,_,rfl,Bx.new_ rfl,hbs⟩
  ·simp[execOp,Act.eval,H6,go_sem,zaa];exact fr1 rfl
  ·have D12:_=_:=hdep 3 12 rfl;replace hjc:jc<5:=hjc;simp[Act.eval,D12,go_sem,zaa];exact(zrd rb (200 * jc) 5 W hW0.1 (by omega) (by omega) (by omega)).mono (fun e w' h=>by obtain⟨k,g1,g2,g3,g4⟩:=h;exact⟨_,g2,hW0.step g4 g3 (by omega) hrbl hb2r,g4.mono (fun _ _ e=>.inl e),k,g1,rfl⟩)
  ·obtain⟨b,D11,hB,hl⟩:(roV zuV rK9 5 w1.heap.size) _ W:=hdep 2 11 rfl
   obtain⟨k,hk,D13⟩:(pkV 5) _ W:=hdep 4 13 rfl
   clear hoff hdep;simp[execOp,Act.eval,go_sem,zaa,↓IntWalk.iteOmega, *]
   exact⟨Fr.refl _ _,b,k,hk,rfl,hB,hl⟩
  ·obtain⟨b,k,hk,D14,hB,hl⟩:(rpV zuV rK9 5 w1.heap.size) _ W:=hdep 5 14 rfl
   clear hoff hdep;simp[execOp,Act.eval,go_sem,zaa, *]
   obtain⟨y,hv,_,_⟩:=zsf (l:=rK9.toList) (by decide) hk rfl;have cy:W.cell? ⟨b,k,none⟩=some (.int .i64 y):=(by rw[hB.cell,<-hv];simp);rw[cy];exact⟨Fr.refl _ _,y,rfl⟩
  ·simp[execOp,Act.eval,H6,go_sem,zaa];exact fr1 rfl
  ·have D16:_=_:=hdep 7 16 rfl;replace hjc:jc<5:=hjc;simp[Act.eval,D16,go_sem,zaa];exact(zsm rb (200 * jc) W hW0.1 (by omega)).mono (fun e w' h=>by obtain⟨s,g1,g2,g3,g4⟩:=h;exact⟨_,g1,hW0.step g4 g3 (by omega) hrbl hb2r,g4.mono (fun _ _ e=>.inl e),s,rfl,g2⟩)
  ·simp[execOp,go_sem,zaa];exact⟨(Fr.refl _ _).alloc _,_,rfl,Bx.new_ rfl,hbs⟩
  ·simp[execOp,Act.eval,H6,go_sem,zaa];exact fr1 rfl
  ·have D19:_=_:=hdep 10 19 rfl;replace hjc:jc<5:=hjc;simp[Act.eval,D19,go_sem,zaa];exact(zrd rb (200 * jc) 5 W hW0.1 (by omega) (by omega) (by omega)).mono (fun e w' h=>by obtain⟨k,g1,g2,g3,g4⟩:=h;exact⟨_,g2,hW0.step g4 g3 (by omega) hrbl hb2r,g4.mono (fun _ _ e=>.inl e),k,g1,rfl⟩)
  ·obtain⟨b,D18,hB,hl⟩:(roV zuW zvp 5 w1.heap.size) _ W:=hdep 9 18 rfl
   obtain⟨k,hk,D20⟩:(pkV 5) _ W:=hdep 11 20 rfl
   clear hoff hdep;simp[execOp,Act.eval,go_sem,zaa,↓IntWalk.iteOmega, *]
   exact⟨Fr.refl _ _,b,k,hk,rfl,hB,hl⟩
  ·obtain⟨b,k,hk,D21,hB,hl⟩:(rpV zuW zvp 5 w1.heap.size) _ W:=hdep 12 21 rfl
   clear hoff hdep;simp[execOp,Act.eval,go_sem,zaa, *]
   obtain⟨s,hv,hz⟩:=zse (l:=zvp.toList) (by decide) hk rfl;have cy:W.cell? ⟨b,k,none⟩=some (.string s):=(by rw[hB.cell,<-hv];simp);rw[cy];exact⟨Fr.refl _ _,s,rfl,hz⟩
  ·obtain⟨A,n,c,ks,D10,hk⟩:(plV9 w1.heap.size) _ W:=hdep 1 10 rfl
   obtain⟨vz,ksz,hBz,hSz⟩:=hW0.2.2;obtain⟨Az,cz,rfl,_,_⟩:=hSz.form;have z0:=hBz.c1;have zf:=fun i=>hBz.frozen i;have zl:=hBz.lt
   clear hoff hdep;simp[execOp,Act.eval,go_sem,zaa, *]
   exact⟨hW0.put hk hb2l hb2r,(Fr.put1 _ _ _ _).mono (fun _ _ e=>.inr e),rfl⟩
  ·obtain⟨y,D15⟩:(iiV) _ W:=hdep 6 15 rfl
   simp[execOp,Act.eval,D15,go_sem,zaa]
   exact⟨Fr.refl _ _,y,rfl⟩
  ·obtain⟨s,D17,hz⟩:(st20 10) _ W:=hdep 8 17 rfl
   simp[execOp,Act.eval,D17,go_sem,zaa]
   exact⟨Fr.refl _ _,s,rfl,hz⟩
  ·obtain⟨s,D22,hz⟩:(st20 10) _ W:=hdep 13 22 rfl
   simp[execOp,Act.eval,D22,go_sem,zaa]
   exact⟨Fr.refl _ _,s,rfl,hz⟩
 intro vs WR hWR hv
 obtain⟨AR1,nR1,cR1,ksR1,e1,hkR1⟩:=hv 1 (by decide)
 obtain⟨bR2,e2,hBR2,hlR2⟩:=hv 2 (by decide)
 obtain⟨kR4,hkR4,e4⟩:=hv 4 (by decide)
 obtain⟨bR5,kR5,hkR5,e5,hBR5,hlR5⟩:=hv 5 (by decide)
 obtain⟨yR6,e6⟩:=hv 6 (by decide)
 obtain⟨sR8,e8,hzR8⟩:=hv 8 (by decide)
 obtain⟨bR9,e9,hBR9,hlR9⟩:=hv 9 (by decide)
 obtain⟨kR11,hkR11,e11⟩:=hv 11 (by decide)
 obtain⟨bR12,kR12,hkR12,e12,hBR12,hlR12⟩:=hv 12 (by decide)
 obtain⟨sR13,e13,hzR13⟩:=hv 13 (by decide)
 obtain⟨yR15,e15⟩:=hv 15 (by decide)
 obtain⟨sR16,e16,hzR16⟩:=hv 16 (by decide)
 obtain⟨sR17,e17,hzR17⟩:=hv 17 (by decide)
 simp only[zpH,zpE,zpI,zpF,zpJ,Nat.zero_add,Nat.reduceAdd,e1,e2,e4,e5,e6,e8,e9,e11,e12,e13,e15,e16,e17]
 simp only[Act.put,lz0,lz1,lz2]
 clear e1 e2 e4 e5 e6 e8 e9 e11 e12 e13 e15 e16 e17 hv
 obtain⟨hr9,hf9,vp,ks,hBp,hSp⟩:=hWR
 obtain⟨Ap,cp,rfl,_,_⟩:=hSp.form
 have z0:=hBp.c1
 have zl:=hBp.lt
 have hfin:=Lib.hid (show zuX w (.returned (.tuple #[.agg #[.slice Ap ks.length cp],.int .i64 yR15,.string sR16,.string sR17])) WR from⟨_,ks,_,_,_,rfl,hzR16,hzR17,hSp.weaken (fun b e=>by have:b<w.heap.size:=e;show b<w1.heap.size;omega) (fun _ _ _ h=>h.weaken (fun b e=>by have:b<w.heap.size:=e;show b<w1.heap.size;omega)),hw1.trans hf9 (fun b hb e=>by have:=hrb.out;omega)⟩)
 clear hC0 HR hG hGs hr9 hf9 hSp hBp
 go_wp2_with fail
 refine bodyPost_ret (v:=.tuple #[.agg #[.slice Ap ks.length cp],.int .i64 yR15,.string sR16,.string sR17]) (by simp[results,Tryz.results13,go_sem, *]) rfl ?_
 exact hfin.out
end Go.Proofs.YtbfmeklfpackjaaGreatDoor
