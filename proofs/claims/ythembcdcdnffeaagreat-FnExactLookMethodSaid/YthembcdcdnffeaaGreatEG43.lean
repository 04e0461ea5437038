/- The program's verifier: a call's instruction. -/
import Derived.Test.YthembcdcdnffeaaGreatEG40
import Derived.Test.YthembcdcdnffeaaGreatEG41
import Derived.Test.YthembcdcdnffeaaGreatEG42
set_option maxHeartbeats 8000000
set_option maxRecDepth 100000
namespace Go.Proofs.YthembcdcdnffeaaGreat
open Go.RowKit Go.Shelf
attribute [local go_sem] Oper.semAt_some
theorem zkw (p:Plan) (k:Int):∀(l l':List Knd) (st:List Tag),zcF p k st (l ++ l')=(zcF p k st l).bind (fun s=>zcF p k s l')
 | [],_,_=>rfl
 | a :: l,l',st=>by
  rw[List.cons_append,zcF,zcF]
  cases popF p k st (zel a) with
  | none=>rfl
  | some r=>exact zkw p k l l' r
theorem zkx (p:Plan) (k:Int) (st:List Tag) (a:Knd):zcF p k st [a]=popF p k st (zel a):=by
 rw[zcF]
 cases popF p k st (zel a)<;>rfl
theorem zky {p:Plan} {k:Int} {st:List Tag} {xs:List Knd} {j:Nat} {x:Int×Knd} (h:bkOK xs j x):zcF p k st (xs.reverse.take (j+1))=(zcF p k st (xs.reverse.take j)).bind (fun s=>popF p k s (zel x.2)):=by
 obtain⟨h1,_,h3⟩:=h
 rw[List.take_add_one,List.getElem?_reverse h1,h3,zkw]
 congr 1
 funext s
 exact zkx _ _ _ _
theorem zkz {p:Plan} {k:Int} {st:List Tag} {xs:List Knd} {j:Nat} (h:zcF p k st (xs.reverse.take j)=none):zcF p k st xs.reverse=none:=by
 rw[<-List.take_append_drop j xs.reverse,zkw,h]
 rfl
def clV (q:(Ref×Int)×Int):Value:=.agg #[.int .i64 q.1.1.keeper,.string q.1.1.name,.int .i64 q.1.2]
theorem zkA {P:Program} {f:FuncId} {c:Code} {Q:Exit->Act->World->Prop} {a:Act} {w:World} (R:World->Prop) (h:R w) (k:∀W,R W->wpAt P f c Q a W):wpAt P f c Q a w:=k w h
def calV (q:(Ref×Int)×Int):Value->World->Prop:=fun v _=>∃ev,v=.tuple #[clV q,ev]∧errT q.2 ev
theorem zkB (q:(Ref×Int)×Int):MonP (calV q):=fun _ _ _ h _=>h
theorem Bx.fill8 {w:World} {g:Nat} {t:TypeId} {x0 x1 x2 x3 x4 x5 x6 x7 c0 c1 c2 c3 c4 c5 c6 c7:Value} (h:Bx w g t #[x0,x1,x2,x3,x4,x5,x6,x7]):Bx ((((((((w.setCell ⟨g,0,none⟩ c0).setCell ⟨g,1,none⟩ c1).setCell ⟨g,2,none⟩ c2).setCell ⟨g,3,none⟩ c3).setCell ⟨g,4,none⟩ c4).setCell ⟨g,5,none⟩ c5).setCell ⟨g,6,none⟩ c6).setCell ⟨g,7,none⟩ c7) g t #[c0,c1,c2,c3,c4,c5,c6,c7]:=by
 have h0:Bx (w.setCell ⟨g,0,none⟩ c0) g t #[c0,x1,x2,x3,x4,x5,x6,x7]:=h.setc rfl
 have h1:Bx ((w.setCell ⟨g,0,none⟩ c0).setCell ⟨g,1,none⟩ c1) g t #[c0,c1,x2,x3,x4,x5,x6,x7]:=h0.setc rfl
 have h2:Bx (((w.setCell ⟨g,0,none⟩ c0).setCell ⟨g,1,none⟩ c1).setCell ⟨g,2,none⟩ c2) g t #[c0,c1,c2,x3,x4,x5,x6,x7]:=h1.setc rfl
 have h3:Bx ((((w.setCell ⟨g,0,none⟩ c0).setCell ⟨g,1,none⟩ c1).setCell ⟨g,2,none⟩ c2).setCell ⟨g,3,none⟩ c3) g t #[c0,c1,c2,c3,x4,x5,x6,x7]:=h2.setc rfl
 have h4:Bx (((((w.setCell ⟨g,0,none⟩ c0).setCell ⟨g,1,none⟩ c1).setCell ⟨g,2,none⟩ c2).setCell ⟨g,3,none⟩ c3).setCell ⟨g,4,none⟩ c4) g t #[c0,c1,c2,c3,c4,x5,x6,x7]:=h3.setc rfl
 have h5:Bx ((((((w.setCell ⟨g,0,none⟩ c0).setCell ⟨g,1,none⟩ c1).setCell ⟨g,2,none⟩ c2).setCell ⟨g,3,none⟩ c3).setCell ⟨g,4,none⟩ c4).setCell ⟨g,5,none⟩ c5) g t #[c0,c1,c2,c3,c4,c5,x6,x7]:=h4.setc rfl
 have h6:Bx (((((((w.setCell ⟨g,0,none⟩ c0).setCell ⟨g,1,none⟩ c1).setCell ⟨g,2,none⟩ c2).setCell ⟨g,3,none⟩ c3).setCell ⟨g,4,none⟩ c4).setCell ⟨g,5,none⟩ c5).setCell ⟨g,6,none⟩ c6) g t #[c0,c1,c2,c3,c4,c5,c6,x7]:=h5.setc rfl
 have h7:Bx ((((((((w.setCell ⟨g,0,none⟩ c0).setCell ⟨g,1,none⟩ c1).setCell ⟨g,2,none⟩ c2).setCell ⟨g,3,none⟩ c3).setCell ⟨g,4,none⟩ c4).setCell ⟨g,5,none⟩ c5).setCell ⟨g,6,none⟩ c6).setCell ⟨g,7,none⟩ c7) g t #[c0,c1,c2,c3,c4,c5,c6,c7]:=h6.setc rfl
 exact h7
theorem Fr.fill8 {X:Nat->Prop} {b w:World} {g:Nat} {c0 c1 c2 c3 c4 c5 c6 c7:Value} (h:Fr X b w) (hg:b.heap.size≤g):Fr X b ((((((((w.setCell ⟨g,0,none⟩ c0).setCell ⟨g,1,none⟩ c1).setCell ⟨g,2,none⟩ c2).setCell ⟨g,3,none⟩ c3).setCell ⟨g,4,none⟩ c4).setCell ⟨g,5,none⟩ c5).setCell ⟨g,6,none⟩ c6).setCell ⟨g,7,none⟩ c7):=((((((((h.setCell (p:=⟨g,0,none⟩) hg c0).setCell (p:=⟨g,1,none⟩) hg c1).setCell (p:=⟨g,2,none⟩) hg c2).setCell (p:=⟨g,3,none⟩) hg c3).setCell (p:=⟨g,4,none⟩) hg c4).setCell (p:=⟨g,5,none⟩) hg c5).setCell (p:=⟨g,6,none⟩) hg c6).setCell (p:=⟨g,7,none⟩) hg c7)
def LcT (K:LkP) (n:Nat) (Z:Nat->Prop) (j:Int) (f:Frm) (xs:List Knd) (a:World) (t:Nat) (W:World):Prop:=
 ∃st Z' vl vs,zcF K.p K.k f.stack (xs.reverse.take t)=some st∧LkS K n Z' j ⟨f.locals,st⟩ vl vs W∧(∀b,Z b->Z' b)∧(∀b,Z' b->Z b∨a.heap.size+2≤b)∧Fr (fun b=>Z b∨b=a.heap.size+1) a W
def LcN (K:LkP) (n:Nat) (Z:Nat->Prop) (j:Int) (f:Frm) (xs:List Knd) (a:World) (c:List PanicEntry) (W:World):Prop:=
 zcF K.p K.k f.stack xs.reverse=none∧c=zeZ j∧Fr K.late K.w0 W∧Lg W K.l K.bl n K.p∧Fr (fun b=>Z b∨b=a.heap.size+1) a W
theorem LcT.step {K:LkP} {n:Nat} {Z:Nat->Prop} {j:Int} {f:Frm} {xs:List Knd} {a W W':World} {t:Nat} (E:LkE K) (h:LcT K n Z j f xs a t W) (hZ:∀b,Z b->b<a.heap.size) (h0:K.w0.heap.size≤a.heap.size) (hf:Fr (fun b=>b=a.heap.size+1) W W'):LcT K n Z j f xs a t W':=by
 obtain⟨st,Z',vl,vs,h1,h2,h3,h4,h5⟩:=h
 refine⟨st,Z',vl,vs,h1,h2.far E hf (fun b hb=>⟨by omega,fun hz=>?_⟩),h3,h4,h5.trans hf (fun b _ hb=>.inr hb)⟩
 rcases h4 b hz with h|h
 ·have:=hZ b h;omega
 ·omega
theorem zkC {P:Program} {fn:Func} {R:Ending->World->Prop} {D:Nat} {c:List PanicEntry} {a:Act} {W:World} (hd:a.defers=[{ target:=.collected D,args:=#[] }]) (hD:W.heap[D]? =some (.deferred (some []))) (hR:R (.panicked c) (W.putObj D (.deferred none))):bodyPostM Fence.wide 4 P fn R (.panic c) a W:=by
 show LeavesInM _ _ _ _ _ _ a.defers _ _
 rw[hd]
 exact⟨by simp,.inl ⟨_,_,rfl,run_takeDeferred hD,hR⟩⟩
theorem zkD {P:Program} {fn:Func} {R:Ending->World->Prop} {D:Nat} {a:Act} {W:World} {v:Value} (hd:a.defers=[{ target:=.collected D,args:=#[] }]) (hD:W.heap[D]? =some (.deferred (some []))) (hv:∀W,(results fn a.tmps).run P W=.ok v W) (hR:R (.returned v) (W.putObj D (.deferred none))):bodyPostM Fence.wide 4 P fn R .normal a W:=by
 show LeavesInM _ _ _ _ _ _ a.defers _ _
 rw[hd]
 exact⟨by simp,.inl ⟨_,_,rfl,run_takeDeferred hD,v,hv _,hR⟩⟩
theorem LkNo.shut {K:LkP} (E:LkE K) {n:Nat} {Z Z':Nat->Prop} {j:Int} {c:List PanicEntry} {w W W':World} {D:Nat} (h:LkNo K n Z' j c W W') (hz:∀b,Z' b->Z b∨w.heap.size≤b) (hf:Fr Z w W) (hD:w.heap.size≤D) (h0:K.w0.heap.size≤w.heap.size):LkNo K n Z j c w (W'.putObj D (.deferred none)):=by
 have h2:=LkNo.then hz hf h
 have hp:Fr (fun b=>b=D) W' (W'.putObj D (.deferred none)):=(Fr.refl _ W').putObj _ rfl
 exact⟨h2.1,h2.2.1.late hp (fun b hb=>.inr (by omega)),(let ⟨_,hl⟩:=E.lg;hl.over2 h2.2.2.1 h2.2.1 (hp.mono (fun b _ hb=>by omega))),h2.2.2.2.trans hp (fun b hb hx=>by omega)⟩
theorem zkE (K:LkP) (E:LkE K) (n:Nat) (Z:Nat->Prop) (j:Int) (f:Frm) (vl vt:Value) (w:World) (h:LkS K n Z j f vl vt w) (hj:0≤j) (hj2:j<1000) (i:Ins) (h1:i.name.size≤maxLen) (h2:i.member.size≤maxLen) (hn:n<999999):
  Calls Tryz.prog 99 #[.pointer (some ⟨K.kb,0,none⟩),.agg #[.int .i64 i.op,.int .i64 i.a,.string i.name,.string i.member]] w (ze0 K (n+2) Z j (if (zd4 K.p K.k i.name i.member).2=1 then ((zcF K.p K.k f.stack (zcG K.p (zd4 K.p K.k i.name i.member).1).args.reverse).bind fun s=>(popF K.p K.k s (clsT i.name)).bind fun s=>zcE K.m.stack s (zel (zcG K.p (zd4 K.p K.k i.name i.member).1).ret)).map (⟨f.locals,·⟩) else none) w):=by
 obtain⟨wA,hwA⟩:∃wA,wA=((w.alloc (.cells #[.pointer (some ⟨K.kb,0,none⟩)] 113)).alloc (.cells #[.int .i64 i.op,.int .i64 i.a,.string i.name,.string i.member] 101)):=⟨_,rfl⟩
 have hfA:Fr No w wA:=hwA▸frc
 have B0:=(hwA▸bxc:Bx wA w.heap.size 113 #[.pointer (some ⟨K.kb,0,none⟩)])
 have B1:=(hwA▸bxc:Bx wA (w.heap.size+1) 101 #[.int .i64 i.op,.int .i64 i.a,.string i.name,.string i.member])
 have hA:=h.keep E hfA
 have hbl:=E.bl_lt
 have han:=h.anchor.size
 have hlt:=fun b hz=>h.lt (b:=b) hz
 have hzb:=h.zbl
 have HG:=fun W (hW:Fr No wA W)=>zd7 K.l K.bl n K.p K.k i.name i.member W ((hA.keep E hW).lg) h1 h2 hn
 have hone:=zcm E.okp (k:=(K.k:Int)) (s:=i.name) (m:=i.member)
 unfold zd6 at HG
 generalize zd4 K.p K.k i.name i.member=q at *
 obtain⟨G,hG,hGs,KC⟩:∃G:World->Prop,(∀W,(Fr No wA W∨GotC K (n+2) wA W)->G W)∧(∀W,G W->wA.heap.size≤W.heap.size) ∧
   (∀W,G W->W.cell? ⟨K.kb,0,none⟩=some (.pointer (some ⟨K.l,0,none⟩))∧W.cell? ⟨K.kb,1,none⟩=some (.int .i64 K.k)∧K.kb<W.heap.size∧W.cell? ⟨w.heap.size,0,none⟩=some (.pointer (some ⟨K.kb,0,none⟩))∧W.cell? ⟨w.heap.size+1,2,none⟩=some (.string i.name)∧W.cell? ⟨w.heap.size+1,3,none⟩=some (.string i.member)∧w.heap.size+1<W.heap.size):=by
  have hall:∀W (X:Nat->Prop),Fr X wA W->(∀b,X b->b=K.bl)->W.cell? ⟨K.kb,0,none⟩=some (.pointer (some ⟨K.l,0,none⟩))∧W.cell? ⟨K.kb,1,none⟩=some (.int .i64 K.k)∧K.kb<W.heap.size∧W.cell? ⟨w.heap.size,0,none⟩=some (.pointer (some ⟨K.kb,0,none⟩))∧W.cell? ⟨w.heap.size+1,2,none⟩=some (.string i.name)∧W.cell? ⟨w.heap.size+1,3,none⟩=some (.string i.member)∧w.heap.size+1<W.heap.size:=fun W X hW hX=>by
   have hb:=hA.box.keepX hW (fun hx=>by have:=hX _ hx;have:=hA.kb;omega)
   have h0:=B0.keepX hW (fun hx=>by have:=hX _ hx;omega)
   have h1:=B1.keepX hW (fun hx=>by have:=hX _ hx;omega)
   exact⟨hb.cell 0,hb.cell 1,hb.lt,h0.cell 0,h1.cell 2,h1.cell 3,h1.lt⟩
  refine⟨fun W=>Fr No wA W∨GotC K (n+2) wA W,fun _ h=>h,fun W hW=>?_,fun W hW=>?_⟩
  ·rcases hW with hW | ⟨hW,_⟩<;>exact hW.size
  ·rcases hW with hW | ⟨hW,_⟩
   ·exact hall W No hW zN
   ·exact hall W _ hW (fun _ h=>h)
 replace h:=Lib.hid h
 replace hA:=Lib.hid hA
 by_cases hq:q.2=1
 ·rw[if_pos hq]
  obtain⟨hnm,kq,iq,a,hh,hqa,hal⟩:=hone hq
  obtain⟨hm2,hok2⟩:=zcn E.okp hh hqa hal
  obtain⟨⟨⟨rk,rn⟩,ra⟩,rc⟩:=q
  dsimp only at hq hnm hh hqa hal hm2 hok2 HG ⊢
  obtain rfl:rk=(kq:Int):=hh.1
  subst hqa hq
  generalize zcG K.p (⟨(kq:Int),rn⟩,(a:Int))=m2 at *
  replace hm2:=Lib.hid hm2
  obtain⟨hna,hkr,hka,_⟩:=ze7 hok2
  have hrs:=zee hkr
  refine zmf 4 Tryz.func99 rfl ?_
  simp only[Tryz.ntmps99,List.size_toArray,List.length_cons,List.length_nil,Nat.reduceAdd,Nat.reduceSub,Array.replicate_succ,Array.replicate_zero,List.push_toArray,List.append_toArray,List.nil_append,List.cons_append]
  refine zmc fun K1 hK1=>?_
  go_wp2_with fail
  rw[<-hwA]
  replace hwA:=Lib.hid hwA
  refine zmc fun K2 hK2=>?_
  refine zn2 17 25 [mV (.pointer (some ⟨K.kb,0,none⟩)),mV (.pointer (some ⟨K.kb,0,none⟩)),mV (.pointer (some ⟨K.kb,0,none⟩)),mV (.pointer (some ⟨K.l,0,none⟩)),mV (.pointer (some ⟨K.kb,0,none⟩)),mV (.pointer (some ⟨K.kb,0,none⟩)),mV (.pointer (some ⟨K.kb,1,none⟩)),mV (.int .i64 K.k),mV (.pointer (some ⟨w.heap.size+1,2,none⟩)),mV (.string i.name),mV (.pointer (some ⟨w.heap.size+1,3,none⟩)),mV (.string i.member),mC (calV ((⟨(kq:Int),rn⟩,(a:Int)),1)) (zkB _),mC (calV ((⟨(kq:Int),rn⟩,(a:Int)),1)) (zkB _),mV (clV ((⟨(kq:Int),rn⟩,(a:Int)),1)),mE (mC (errP 1) (zlr 1)),mB 71 (#[.int .i64 0,.string ⟨#[]⟩,.int .i64 0]) wA.heap.size] 12 (fun _ _=>False) (GotC K (n+2) wA) (Fr (fun b=>b=K.bl)) (by kernel_rfl) (by kernel_rfl) (by simp) (fun W W' h hf=>h.to hf) ?_ ?_ ?_ ?_ ?_
  ·exact fun v W W' hs=>hSV <| hSV <| hSV <| hSV <| hSV <| hSV <| hSV <| hSV <| hSV <| hSV <| hSV <| hSV <| hopC (fun _ h=>by first|exact h|(obtain⟨b,g1,g2,g3⟩:=h;exact⟨b,g1,g2.keepX hs (by have:=hfA.size;omega),g3⟩)) <| hSV <| hopC (fun _ h=>by first|exact h|(obtain⟨b,g1,g2,g3⟩:=h;exact⟨b,g1,g2.keepX hs (by have:=hfA.size;omega),g3⟩)) <| hopC (fun _ h=>by first|exact h|(obtain⟨b,g1,g2,g3⟩:=h;exact⟨b,g1,g2.keepX hs (by have:=hfA.size;omega),g3⟩)) <| hopZ
  ·refine hc4 ?_ ?_ ?_ ?_ <| hc4 ?_ ?_ ?_ ?_ <| hc4 ?_ ?_ ?_ ?_ <| hc4 ?_ ?_ ?_ ?_ <| hopZ
   all_goals (intro a' W hW hoff hdep;replace hW:=hG _ hW;have hbs:=hGs _ hW;have H2:=hoff 2 rfl;have H3:=hoff 3 rfl)
   ·exact nE rfl gx0
   ·have D10:_=_:=hdep 0 10 rfl;refine nE rfl ?_;simp[execOp,Act.eval,D10,go_sem,zaa];exact fr1 rfl
   ·have D11:_=_:=hdep 1 11 rfl;refine nE rfl ?_;simp[execOp,Act.eval,D11,go_sem,zaa];exact fr1 rfl
   ·have D12:_=_:=hdep 2 12 rfl;refine nE rfl ?_;clear hoff hdep;simp[execOp,Act.eval,go_sem,zaa, *];exact fr1 rfl
   ·exact nE rfl gx0
   ·have D14:_=_:=hdep 4 14 rfl;refine nE rfl ?_;simp[execOp,Act.eval,D14,go_sem,zaa];exact fr1 rfl
   ·have D15:_=_:=hdep 5 15 rfl;refine nE rfl ?_;simp[execOp,Act.eval,D15,go_sem,zaa];exact fr1 rfl
   ·have D16:_=_:=hdep 6 16 rfl;refine nE rfl ?_;clear hoff hdep;simp[execOp,Act.eval,go_sem,zaa, *];exact fr1 rfl
   ·refine nE rfl ?_;simp[execOp,Act.eval,H3,go_sem,zaa];exact fr1 rfl
   ·have D18:_=_:=hdep 8 18 rfl;refine nE rfl ?_;clear hoff hdep;simp[execOp,Act.eval,go_sem,zaa, *];exact fr1 rfl
   ·refine nE rfl ?_;simp[execOp,Act.eval,H3,go_sem,zaa];exact fr1 rfl
   ·have D20:_=_:=hdep 10 20 rfl;refine nE rfl ?_;clear hoff hdep;simp[execOp,Act.eval,go_sem,zaa, *];exact fr1 rfl
   ·obtain⟨ev,D22,he⟩:(calV ((⟨(kq:Int),rn⟩,(a:Int)),1)) _ W:=hdep 12 22 rfl;refine nE rfl ?_;simp[execOp,Act.eval,D22,go_sem,zaa];exact⟨Fr.refl _ _,_,rfl,he⟩
   ·obtain⟨ev,D9,he⟩:(calV ((⟨(kq:Int),rn⟩,(a:Int)),1)) _ W:=hdep 13 9 rfl;refine nE rfl ?_;simp[execOp,Act.eval,D9,go_sem,zaa];exact fr1 rfl
   ·obtain⟨ev,D9,he⟩:(calV ((⟨(kq:Int),rn⟩,(a:Int)),1)) _ W:=hdep 13 9 rfl;exact yE rfl ⟨ev,fun W=>by simp[execOp,Act.eval,D9,go_sem],⟨_,rfl,he⟩,rfl⟩
   ·refine nE rfl ?_;simp[execOp,go_sem,zaa];exact⟨(Fr.refl _ _).alloc _,⟨_,rfl,Bx.new_ rfl,hbs⟩,Nat.le_refl _⟩
  ·intro o r ho hr a' W hW hoff hdep
   have hbs:=hW.size
   cases ho;cases hr
   have D13:_=_:=hdep 3 13 rfl
   have D17:_=_:=hdep 7 17 rfl
   have D19:_=_:=hdep 9 19 rfl
   have D21:_=_:=hdep 11 21 rfl
   simp[Act.eval,D13,D17,D19,D21,go_sem,zlP]
   exact(HG _ hW).mono (fun e w' h=>by obtain⟨ev,g1,g2,g3,g4⟩:=h;exact⟨_,g1,⟨hW.of0.same g3,g4⟩,g3,ev,rfl,g2.t⟩)
  ·exact fun _ _ _ _ h=>h.elim
  intro vs WR hWR hv hne
  replace hWR:=hWR.resolve_left (fun h=>absurd h.1 (by decide))
  obtain⟨evR12,e12,heR12⟩:=hv 12 (by omega)
  obtain⟨evR13,e13,heR13⟩:=hv 13 (by omega)
  obtain⟨xR15,e15,heR15⟩:=hv 15 (by omega)
  obtain⟨b16,e16,hb16,hl16⟩:=hv 16 (by omega)
  simp only[lz6,List.drop_zero,znP,znM,znN,znK,znR,Nat.zero_add,Nat.reduceAdd,e12,e13,e15,e16]
  simp only[Act.put,lz0,lz1,lz2]
  clear e12 e13 e15 e16 hv
  obtain⟨hC1,hC2⟩:=hWR
  have hS:=hA.out.got E hC1 hC2
  obtain⟨y0,y1,y2⟩:=hb16.c3
  have yf:=fun i=>hb16.frozen i
  have yl:=hb16.lt
  have hB0:=B0.keepX hC1 (by omega)
  have hB1:=B1.keepX hC1 (by omega)
  have hwb:wA.heap.size≤b16:=hl16
  have hfr:Fr Z wA WR:=hC1.mono (fun b _ hb=>by subst hb;exact hzb)
  clear HG KC hne heR12 heR13
  obtain⟨_,rfl⟩:(1:Int)=1∧xR15=.nilIface:=by
   rcases heR15 with ⟨h9,h8⟩ | ⟨h9,_⟩
   ·exact⟨h9,h8⟩
   ·exact absurd rfl h9
  unfold clV at *
  dsimp only at *
  have hfz:Fr (fun b=>b=b16) WR (((WR.setCell ⟨b16,0,none⟩ (.int .i64 kq)).setCell ⟨b16,1,none⟩ (.string rn)).setCell ⟨b16,2,none⟩ (.int .i64 a)):=((Fr.one _ _ _ _).same (Fr.one _ _ _ _)).same (Fr.one _ _ _ _)
  have hlA:=hfA.size
  go_wp2
  clear y0 y1 y2 yf yl
  refine zkA (fun W=>Bx W b16 71 #[.int .i64 kq,.string rn,.int .i64 a]∧LkS K (n+2) Z j f vl vt W∧Bx W w.heap.size 113 #[.pointer (some ⟨K.kb,0,none⟩)]∧Bx W (w.heap.size+1) 101 #[.int .i64 i.op,.int .i64 i.a,.string i.name,.string i.member]∧Fr Z wA W) ⟨((hb16.set_ 0 _).set_ 1 _).set_ 2 _,hS.far E hfz (fun b hb=>⟨by omega,fun hz=>by have:=hlt b hz;omega⟩),hB0.keepX hfz (by have:=B0.lt;omega),hB1.keepX hfz (by have:=B1.lt;omega),hfr.trans hfz (fun b hb hx=>by omega)⟩ ?_
  rintro W1 ⟨hbm,hS1,hk1,hi1,hf1⟩
  clear hb16 hS hB0 hB1 hfz hfr hC1 hC2
  have hS1:=Lib.hid hS1
  have hlw1:=hf1.size
  refine zmc fun K3 hK3=>?_
  go_wp2
  refine zmc fun K4 hK4=>?_
  obtain⟨mcs,hMR,HMv⟩:=zc9 (E.lodge hS1.out.anchor) hh hnm hal
  rw[<-hm2.out] at hMR
  obtain⟨va2,vc2,vm2,rfl,hsn2,hsr2,hav,hcv,hmv⟩:=hMR
  obtain⟨Aa,ca,rfl,_,_⟩:=hav.form
  obtain⟨Ac,cc,rfl,_,_⟩:=hcv.form
  obtain⟨Ax,cx,rfl,_,_⟩:=hmv.form
  have K0:=hk1.r1
  have KB:=hbm.r3
  have KC:=hS1.out.cells
  clear hcv hmv
  refine zn0 7 35 [mV (.pointer (some ⟨K.kb,0,none⟩)),mV (.pointer (some ⟨K.kb,0,none⟩)),mV (.pointer (some ⟨K.kb,0,none⟩)),mV (.pointer (some ⟨K.l,0,none⟩)),mV (.agg #[.int .i64 kq,.string rn,.int .i64 a]),mV (.agg #[.string m2.name,.slice Aa m2.args.length ca,.int .i64 m2.ret.kind,.string m2.ret.name,.int .i64 m2.locals,.int .i64 m2.stack,.slice Ac m2.code.length cc,.slice Ax m2.maps.length cx]),mB 60 (#[.string ⟨#[]⟩,.slice none 0 0,.int .i64 0,.string ⟨#[]⟩,.int .i64 0,.int .i64 0,.slice none 0 0,.slice none 0 0]) W1.heap.size] (by kernel_rfl) (by kernel_rfl) (by simp) ?_ ?_
  ·refine hc4 ?_ ?_ ?_ ?_ <| hopC ?_ <| hopC ?_ <| hopC ?_ <| hopZ
   all_goals (intro a' W hW hoff hdep;have hbs:=hW.size;have H2:=hoff 2 rfl;have H4:=hoff 4 rfl;refine nE rfl ?_)
   ·exact gx0
   ·have D29:_=_:=hdep 0 29 rfl;simp[execOp,Act.eval,D29,go_sem,zaa];exact fr1 rfl
   ·have D30:_=_:=hdep 1 30 rfl;simp[execOp,Act.eval,D30,go_sem,zaa];exact fr1 rfl
   ·have D31:_=_:=hdep 2 31 rfl;clear hoff hdep;simp[execOp,Act.eval,go_sem,zaa, *];exact fr1 rfl
   ·exact gx0
   ·have D32:_=_:=hdep 3 32 rfl;have D33:_=_:=hdep 4 33 rfl;simp[Act.eval,D32,D33,go_sem,zaa];exact(HMv _ hW).mono fun e w' h=>⟨_,h.1,h.2,rfl⟩
   ·simp[execOp,go_sem,zaa];exact⟨(Fr.refl _ _).alloc _,⟨_,rfl,Bx.new_ rfl,hbs⟩,Nat.le_refl _⟩
  intro vs WR hWR hv hne
  obtain⟨b6,e6,hb6,hl6⟩:=hv 6 (by omega)
  simp only[lz6,List.drop_zero,znP,znK,znR,Nat.zero_add,Nat.reduceAdd,e6]
  simp only[Act.put,lz0,lz1,lz2]
  clear e6 hv
  obtain⟨y0,y1,y2,y3,y4,y5,y6,y7⟩:=hb6.c8
  have yf:=fun i=>hb6.frozen i
  have yl:=hb6.lt
  clear KC KB K0 hne HMv
  go_wp2
  clear y0 y1 y2 y3 y4 y5 y6 y7 yf yl
  refine zkA (fun W=>Bx W b6 60 #[.string m2.name,.slice Aa m2.args.length ca,.int .i64 m2.ret.kind,.string m2.ret.name,.int .i64 m2.locals,.int .i64 m2.stack,.slice Ac m2.code.length cc,.slice Ax m2.maps.length cx]∧Fr No W1 W) ⟨Bx.fill8 hb6,Fr.fill8 hWR hl6⟩ ?_
  rintro W2 ⟨hbm2,hf2⟩
  clear hb6 hWR
  have hS2:=Lib.hid (hS1.out.keep E hf2)
  have hk2:=hk1.keep hf2
  have hi2:=hi1.keep hf2
  have hlw2:=hf2.size
  have hlb6:=hbm2.lt
  have hav2:=hav.k0 hf2
  refine zmd fun K5 hK5=>?_
  refine zmc fun K6 hK6=>?_
  obtain⟨y0,y1,y2,y3,y4,y5,y6,y7⟩:=hbm2.c8
  go_wp2_with (go_at_call 146;refine(zmm _ _ _ _).mono ?_;rintro e w' ⟨rfl,rfl⟩)
  clear y0 y1 y2 y3 y4 y5 y6 y7
  refine zkA (fun W=>Bx W W2.heap.size 54 #[.slice Aa m2.args.length ca]∧Fr No W2 W∧W.heap.size=W2.heap.size+1) ⟨Bx.new W2 _ _,(Fr.refl No W2).alloc _,by simp⟩ ?_
  rintro W3 ⟨hc3,hf3,hsz3⟩
  have hc3l:W2.heap.size<W3.heap.size:=by omega
  have hb6w:w.heap.size+2≤b6:=by have:=B1.lt;omega
  have hb6l:b6<W3.heap.size:=by omega
  replace hsz3:=Lib.hid hsz3
  have hS3:=Lib.hid (hS2.out.keep E hf3)
  have hk3:=hk2.keep hf3
  have hi3:=hi2.keep hf3
  have hm3:=hbm2.keep hf3
  have hav3:=hav2.k0 hf3
  have hf13:Fr Z wA W3:=(hf1.trans0 hf2).trans0 hf3
  have hwf3:Fr Z w W3:=hfA.of0.same hf13
  have hw3:w.heap.size+2≤W3.heap.size:=by have:=hi3.lt;omega
  have hz3:∀b,Z b->b<w.heap.size:=hlt
  have hl3:∀b,Z b->K.late b:=fun b hb=>(hS3.out.z b hb).1
  clear hS1 hS2 hk1 hk2 hi1 hi2 hbm hbm2 hav hav2 hlw1 hlw2 hf1 hf2
  refine zme ?_
  refine zmn Tryz.func99 K.late m2.args Aa ca W2.heap.size (by omega) rfl rfl (LcT K (n+2) Z j f m2.args W3) (LcN K (n+2) Z j f m2.args W3) ?tb (fun t W W' h hf=>h.step E (fun b hb=>by have:=hz3 b hb;omega) (by omega) hf) ?t0 (by omega) ?round ?done ?no
  case tb=>
   rintro t W ⟨st,Z',vl',vs',_,hS,_,hz',hfr⟩
   exact⟨hc3.keepX hfr (fun hx=>by rcases hx with hx|hx;(have:=hz3 _ hx;omega);omega),hav3.keep hfr (fun b hb=>by rcases hb with hb|hb;exact hl3 b hb;exact .inr (by omega)) (fun _ _ _ h=>h)⟩
  case t0=>
   intro o o'
   have hfo:Fr No W3 ((W3.alloc o).alloc o'):=((Fr.refl No _).alloc _).alloc _
   exact⟨f.stack,Z,vl,vt,rfl,hS3.out.keep E hfo,fun _ h=>h,fun _ h=>.inl h,hfo.of0⟩
  case round=>
   intro t x W hT hO hlt'
   have e:∀u:Array Value,((#[38,39]:Array Nat).zip (bkA x)).foldl (fun t x=>t.setIfInBounds x.1 x.2) u=(u.setIfInBounds 38 (.int .i64 x.1)).setIfInBounds 39 (.agg #[.int .i64 x.2.kind,.string x.2.name]):=fun u=>by simp[bkA]
   simp only[e,lz0,lz2,lz1]
   clear e
   obtain⟨px,⟨xk,xn⟩⟩:=x
   have hxs:xn.size≤maxLen:=zee (hka ⟨xk,xn⟩ (List.mem_of_getElem? hO.2.2))
   have hst:=zky (p:=K.p) (k:=K.k) (st:=f.stack) hO
   obtain⟨st,Z',vl',vs',g1,hS,hz,hz',hfr⟩:=hT
   rw[g1,Option.bind_some] at hst
   have hf4:Fr No W (W.alloc (.cells #[.int .i64 xk,.string xn] 56)):=(Fr.refl No W).alloc _
   have hS4:=Lib.hid (hS.keep E hf4)
   have hk4:=(hk3.keepX hfr (fun hx=>by rcases hx with hx|hx;(have:=hz3 _ hx;omega);omega)).keep hf4
   have hx4:=Bx.new W 56 #[.int .i64 xk,.string xn]
   have hfr4:=hfr.trans0 hf4
   have hq1:=Below.heap_alloc W (.cells #[.int .i64 xk,.string xn] 56) (W3.heap.size+1) hlt'
   have hq2:=Below.heap_alloc W (.cells #[.int .i64 xk,.string xn] 56) W3.heap.size (by omega)
   replace hlt':=Lib.hid hlt'
   gi_wp2
   intro W5 hf5
   replace hlt':=hlt'.out
   have hnz:∀b,Z' b->b≠W3.heap.size∧b≠W3.heap.size+1:=fun b hb=>by
    rcases hz' b hb with h9|h9
    ·have:=hz3 b h9;omega
    ·omega
   have hS5:=Lib.hid (hS4.out.far E hf5 (fun b hb=>⟨by omega,fun h9=>(hnz b h9).2 hb⟩))
   have hk5:=hk4.keepX hf5 (by omega)
   have hx5:=hx4.keepX hf5 (by omega)
   have hfr5:Fr (fun b=>Z b∨b=W3.heap.size+1) W3 W5:=hfr4.trans hf5 (fun b _ hb=>.inr hb)
   have hs5:=hf5.size
   simp at hs5
   have K0:=hk5.r1
   have KX:=hx5.r2
   clear hS hS4 hk4 hx4 hfr hfr4 hf4 hf5
   gi_wp2_with fail
   refine zmk 3 [isV (.pointer (some ⟨K.kb,0,none⟩)),isV (.agg #[.int .i64 xk,.string xn]),isV (.agg #[.int .i64 (zel ⟨xk,xn⟩).kind,.string (zel ⟨xk,xn⟩).name])] [false,false,false] [false,false,false] (fun c W9=>(W9.heap[W3.heap.size+1]? =W5.heap[W3.heap.size+1]?∧W9.heap[W3.heap.size]? =W5.heap[W3.heap.size]?)∧LcN K (n+2) Z j f m2.args W3 c W9) ?_ (by kernel_rfl) (by kernel_rfl) ?_ ?_ (by kernel_rfl) ?_ ?_ ?_
   ·intro x hx hb v W h
    simp only[List.zip_cons_cons,List.zip_nil_left,List.mem_cons,List.not_mem_nil,or_false] at hx
    rcases hx with rfl|rfl|rfl<;>first|(cases hb;done)|exact zaB h
   ·intro o ho d hd;simp only[lz7,List.take_zero,List.mem_cons,List.not_mem_nil,or_false] at ho;rcases ho with rfl|rfl|rfl<;>(cases hd;simp)
   ·intro x hx
    simp only[List.mem_cons,List.not_mem_nil,or_false] at hx
    rcases hx with rfl|rfl|rfl
    ·exact zaz _
    ·exact zaz _
    ·exact zaz _
   ·intro k o ho a' W hW hoff hdep
    have hbs:=hW.size
    have H2:=hoff 2 (by simp)
    have H8:=hoff 8 (by simp)
    simp only[Act.eval] at H2 H8
    simp only[lz7,List.take_zero] at ho hdep
    rcases k with _|_|_|k
    all_goals (first|(simp at ho;done)|skip)
    all_goals simp only[lz3,lz4,Option.some.injEq] at ho
    all_goals subst ho
    ·refine⟨fun h=>absurd h (by decide),fun _=>?_⟩
     unfold zab
     simp[execOp,Act.eval,go_sem,zaa, *]
     exact⟨Fr.refl _ _,rfl⟩
    ·refine⟨fun h=>absurd h (by decide),fun _=>?_⟩
     unfold zab
     simp[execOp,Act.eval,go_sem,zaa, *]
     exact⟨Fr.refl _ _,rfl⟩
    ·have D41:a'.eval (.tmp 41)=.agg #[.int .i64 xk,.string xn]:=hdep ⟨1,.data⟩ (by simp) rfl _ 41 rfl rfl
     simp only[Act.eval] at D41
     refine⟨fun h=>absurd h (by decide),fun _=>?_⟩
     unfold zab
     simp[Act.eval,D41,go_sem,zaa]
     exact(zkL ⟨xk,xn⟩ _ hxs).mono fun e w' h=>⟨_,h.1,h.2,rfl⟩
   ·intro c a' W9 hd hN;exact⟨hd,hN.1,hN.2⟩
   intro vs WR hWR hv hne
   have e0:vs 0=_:=hv 0 (by omega)
   have e1:vs 1=_:=hv 1 (by omega)
   have e2:vs 2=_:=hv 2 (by omega)
   simp only[lz7,List.take_zero,lz6,List.drop_zero,zad,if_true,Nat.zero_add,Nat.reduceAdd,e0,e1,e2]
   simp only[Act.put,lz0,lz1,lz2]
   clear e0 e1 e2 hv
   have hSR:=hS5.out.keep E hWR
   have HA:=zdk K E (n+2) Z' j ⟨f.locals,st⟩ vl' vs' WR hSR hj hj2 (zel ⟨xk,xn⟩) (zer hxs)
   have hsR:=hWR.size
   clear K0 KX hne
   have hblk:∀W9,Fr Z' WR W9->W9.heap[W3.heap.size+1]? =W5.heap[W3.heap.size+1]?∧W9.heap[W3.heap.size]? =W5.heap[W3.heap.size]?:=fun W9 h9=>
    ⟨(h9.block _ (by omega) (fun hb=>(hnz _ hb).2 rfl)).trans (hWR.block _ (by omega) (fun h=>h)),(h9.block _ (by omega) (fun hb=>(hnz _ hb).1 rfl)).trans (hWR.block _ (by omega) (fun h=>h))⟩
   have hfrm:∀W9,Fr Z' WR W9->Fr (fun b=>Z b∨b=W3.heap.size+1) W3 W9:=fun W9 h9=>(hfr5.trans0 hWR).trans h9 (fun b hb hx=>by
    rcases hz' b hx with h|h
    ·exact .inl h
    ·omega)
   replace hSR:=Lib.hid hSR
   cases hp:popF K.p K.k st (zel ⟨xk,xn⟩) with
   | none=>
    simp only[hp,Option.map_none] at HA
    go_wp2_with (go_at_call 143;refine HA.mono ?_;rintro e w9 ⟨c,rfl,hN⟩)
    exact⟨hblk _ hN.2.2.2,zkz (hst.trans hp),hN.1,hN.2.1,hN.2.2.1,hfrm _ hN.2.2.2⟩
   | some s2=>
    simp only[hp,Option.map_some] at HA
    go_wp2_with (go_at_call 143;refine HA.mono ?_;rintro e w9 ⟨rfl,hOk⟩;obtain⟨Z2,vl2,vs2,hS9,hz9,hy9,hf9⟩:=hOk)
    refine⟨hblk _ hf9,s2,Z2,vl2,vs2,hst.trans hp,hS9,fun b hb=>hz9 b (hz b hb),fun b hb=>?_,hfrm _ hf9⟩
    rcases hy9 b hb with h9|h9
    ·exact hz' b h9
    ·exact .inr (by omega)
  case done=>
   intro W hT hD
   obtain⟨st,Z',vl',vs',g1,hS,hz,hz',hfr⟩:=hT
   rw[List.take_of_length_le (by simp)] at g1
   have hnb:∀b,w.heap.size≤b->b<W3.heap.size->¬(Z b∨b=W3.heap.size+1):=fun b h8 h9 hx=>by
    rcases hx with hx|hx
    ·have:=hz3 _ hx;omega
    ·omega
   have hk4:=hk3.keepX hfr (hnb _ (by omega) (by omega))
   have hi4:=hi3.keepX hfr (hnb _ (by omega) (by omega))
   have hm4:=hm3.keepX hfr (hnb _ (by omega) (by omega))
   have hfw:Fr Z w W:=hwf3.trans hfr (fun b hb hx=>by rcases hx with hx|hx;exact hx;omega)
   have hzw:∀b,Z' b->Z b∨w.heap.size≤b:=fun b hb=>(hz' b hb).imp id (fun h=>by omega)
   have hnz:∀b,Z' b->b≠W3.heap.size:=fun b hb=>by
    rcases hz' b hb with h9|h9
    ·have:=hz3 b h9;omega
    ·omega
   have hWs:=hfr.size
   have hnk:∀b,w.heap.size≤b->b<W3.heap.size->¬Z' b:=fun b h8 h9 hx=>by
    rcases hz' b hx with hx|hx
    ·have:=hz3 _ hx;omega
    ·omega
   have K0:=hk4.r1
   have K1:=hi4.r4
   have hDl:W3.heap.size<W.heap.size:=(Array.getElem?_eq_some_iff.1 hD).1
   replace hD:=Lib.hid hD
   replace hS:=Lib.hid hS
   have HA:=fun W' (hW:Fr No W W')=>zdk K E (n+2) Z' j ⟨f.locals,st⟩ vl' vs' W' (hS.out.keep E hW) hj hj2 (clsT i.name) h1
   refine hK5 _ _ ?_
   clear hK5 hk3 hi3 hm3 hav3 hc3
   cases g2:popF K.p K.k st (clsT i.name) with
   | none=>
    simp only[g1,g2,Option.bind_some,Function.comp_apply,Option.bind_none,Option.map_none]
    simp only[g2,Option.map_none] at HA
    go_wp2_with fail
    refine zn1 4 48 [mV (.pointer (some ⟨K.kb,0,none⟩)),mV (.pointer (some ⟨w.heap.size+1,2,none⟩)),mV (.string i.name),mV (.agg #[.int .i64 2,.string i.name])] (fun c W9=>LkNo K (n+2) Z' j c W W9∧W9.heap[W3.heap.size]? =some (.deferred (some []))) (by kernel_rfl) (by kernel_rfl) (by simp) ?_ ?_ ?_
    ·refine hc4 ?_ ?_ ?_ ?_ <| hopZ
     all_goals (intro a' W hW hoff hdep;have hbs:=hW.size;have H2:=hoff 2 rfl;have H3:=hoff 3 rfl;refine nE rfl ?_)
     ·exact gx0
     ·simp[execOp,Act.eval,H3,go_sem,zaa];exact fr1 rfl
     ·have D45:_=_:=hdep 1 45 rfl;clear hoff hdep;simp[execOp,Act.eval,go_sem,zaa, *];exact fr1 rfl
     ·have D46:_=_:=hdep 2 46 rfl;simp[Act.eval,D46,go_sem,zaa];exact(zet _ _).mono fun e w' h=>⟨_,h.1,h.2,rfl⟩
    ·intro c a' W9 hd hN;exact zkC hd hN.2 ⟨c,rfl,LkNo.shut E hN.1 hzw hfw (by omega) (by omega)⟩
    intro vs WR hWR hv hne
    simp only[lz6,List.drop_zero,znK,znR,Nat.zero_add,Nat.reduceAdd]
    simp only[Act.put,lz0,lz1,lz2]
    clear hv
    clear K0 K1 hne
    go_wp2_with (go_at_call 143;refine(HA _ hWR).mono ?_;rintro e w9 ⟨c,rfl,hN⟩)
    exact⟨hN.from hWR,(hN.2.2.2.block _ (Nat.lt_of_lt_of_le hDl hWR.size) (fun hb=>hnz _ hb rfl)).trans ((hWR.block _ hDl (fun h=>h)).trans hD.out)⟩
   | some s2=>
    simp only[g1,g2,Option.bind_some,Function.comp_apply]
    simp only[g2,Option.map_some] at HA
    go_wp2_with fail
    refine zn0 4 48 [mV (.pointer (some ⟨K.kb,0,none⟩)),mV (.pointer (some ⟨w.heap.size+1,2,none⟩)),mV (.string i.name),mV (.agg #[.int .i64 2,.string i.name])] (by kernel_rfl) (by kernel_rfl) (by simp) ?_ ?_
    ·refine hc4 ?_ ?_ ?_ ?_ <| hopZ
     all_goals (intro a' W hW hoff hdep;have hbs:=hW.size;have H2:=hoff 2 rfl;have H3:=hoff 3 rfl;refine nE rfl ?_)
     ·exact gx0
     ·simp[execOp,Act.eval,H3,go_sem,zaa];exact fr1 rfl
     ·have D45:_=_:=hdep 1 45 rfl;clear hoff hdep;simp[execOp,Act.eval,go_sem,zaa, *];exact fr1 rfl
     ·have D46:_=_:=hdep 2 46 rfl;simp[Act.eval,D46,go_sem,zaa];exact(zet _ _).mono fun e w' h=>⟨_,h.1,h.2,rfl⟩
    intro vs WR hWR hv hne
    simp only[lz6,List.drop_zero,znK,znR,Nat.zero_add,Nat.reduceAdd]
    simp only[Act.put,lz0,lz1,lz2]
    clear hv
    clear K0 K1 hne
    have hsR:=hWR.size
    have hDR:=(hWR.block _ hDl (fun h=>h)).trans hD.out
    have hkR:=hk4.keep hWR
    have hmR:=hm4.keep hWR
    replace hDR:=Lib.hid hDR
    go_wp2_with (go_at_call 143;refine(HA _ hWR).mono ?_;rintro e w9 ⟨rfl,hOk⟩;obtain⟨Z2,vl2,vs2,hS9,hz9,hy9,hf9⟩:=hOk;replace hS9:=Lib.hid hS9)
    clear HA
    have hD9:=Lib.hid ((hf9.block _ (Nat.lt_of_lt_of_le hDl hsR) (fun hb=>hnz _ hb rfl)).trans hDR.out)
    have hk9:=hkR.keepX hf9 (hnk _ (by omega) (by omega))
    have hm9:=hmR.keepX hf9 (hnk _ (by omega) (by omega))
    have hs9:=hf9.size
    have hfw9:Fr Z w w9:=hfw.trans (hWR.of0.same hf9) (fun b hb hx=>(hzw b hx).resolve_right (by omega))
    have hnz2:¬Z2 W3.heap.size:=fun hb=>by
     rcases hy9 _ hb with h9|h9
     ·exact hnz _ h9 rfl
     ·omega
    have hzw2:∀b,Z2 b->Z b∨w.heap.size≤b:=fun b hb=>by
     rcases hy9 _ hb with h9|h9
     ·exact hzw _ h9
     ·exact .inr (by omega)
    have hz2:∀b,Z b->Z2 b:=fun b hb=>hz9 b (hz b hb)
    have HP:=fun W' (hW:Fr No w9 W')=>zdh K E (n+2) Z2 j ⟨f.locals,s2⟩ vl2 vs2 W' (hS9.out.keep E hW) hj hj2 (zel m2.ret) (zer hrs)
    have K0:=hk9.r1
    have K1:=hm9.r8
    have hDl9:W3.heap.size<w9.heap.size:=by omega
    clear hk4 hi4 hm4 hkR hmR hfr hnk hf9 hWR hnz hzw hy9 hS hD hDR hz9
    cases g3:zcE K.m.stack s2 (zel m2.ret) with
    | none=>
     simp only[g3,Option.map_none] at HP
     refine zn1 4 53 [mV (.pointer (some ⟨K.kb,0,none⟩)),mV (.pointer (some ⟨b6,2,none⟩)),mV (.agg #[.int .i64 m2.ret.kind,.string m2.ret.name]),mV (.agg #[.int .i64 (zel m2.ret).kind,.string (zel m2.ret).name])] (fun c W9=>LkNo K (n+2) Z2 j c w9 W9∧W9.heap[W3.heap.size]? =some (.deferred (some []))) (by kernel_rfl) (by kernel_rfl) (by simp) ?_ ?_ ?_
     ·refine hc4 ?_ ?_ ?_ ?_ <| hopZ
      all_goals (intro a' W hW hoff hdep;have hbs:=hW.size;have H2:=hoff 2 rfl;have H6:=hoff 6 rfl;refine nE rfl ?_)
      ·exact gx0
      ·simp[execOp,Act.eval,H6,go_sem,zaa];exact fr1 rfl
      ·have D50:_=_:=hdep 1 50 rfl;clear hoff hdep;simp[execOp,Act.eval,go_sem,zaa, *];exact fr1 rfl
      ·have D51:_=_:=hdep 2 51 rfl;simp[Act.eval,D51,go_sem,zaa];exact(zkL m2.ret _ hrs).mono fun e w' h=>⟨_,h.1,h.2,rfl⟩
     ·intro c a' W9 hd hN;refine zkC hd hN.2 ?_;rw[g3];exact⟨c,rfl,LkNo.shut E hN.1 hzw2 hfw9 (by omega) (by omega)⟩
     intro vs WR hWR hv hne
     simp only[lz6,List.drop_zero,znK,znR,Nat.zero_add,Nat.reduceAdd]
     simp only[Act.put,lz0,lz1,lz2]
     clear hv
     clear K0 K1 hne
     go_wp2_with (go_at_call 140;refine(HP _ hWR).mono ?_;rintro e wN ⟨c,rfl,hN⟩)
     exact⟨hN.from hWR,(hN.2.2.2.block _ (Nat.lt_of_lt_of_le hDl9 hWR.size) hnz2).trans ((hWR.block _ hDl9 (fun h=>h)).trans hD9.out)⟩
    | some s3=>
     simp only[g3,Option.map_some] at HP
     refine zn0 4 53 [mV (.pointer (some ⟨K.kb,0,none⟩)),mV (.pointer (some ⟨b6,2,none⟩)),mV (.agg #[.int .i64 m2.ret.kind,.string m2.ret.name]),mV (.agg #[.int .i64 (zel m2.ret).kind,.string (zel m2.ret).name])] (by kernel_rfl) (by kernel_rfl) (by simp) ?_ ?_
     ·refine hc4 ?_ ?_ ?_ ?_ <| hopZ
      all_goals (intro a' W hW hoff hdep;have hbs:=hW.size;have H2:=hoff 2 rfl;have H6:=hoff 6 rfl;refine nE rfl ?_)
      ·exact gx0
      ·simp[execOp,Act.eval,H6,go_sem,zaa];exact fr1 rfl
      ·have D50:_=_:=hdep 1 50 rfl;clear hoff hdep;simp[execOp,Act.eval,go_sem,zaa, *];exact fr1 rfl
      ·have D51:_=_:=hdep 2 51 rfl;simp[Act.eval,D51,go_sem,zaa];exact(zkL m2.ret _ hrs).mono fun e w' h=>⟨_,h.1,h.2,rfl⟩
     intro vs WR hWR hv hne
     simp only[lz6,List.drop_zero,znK,znR,Nat.zero_add,Nat.reduceAdd]
     simp only[Act.put,lz0,lz1,lz2]
     clear hv
     clear K0 K1 hne
     go_wp2_with (go_at_call 140;refine(HP _ hWR).mono ?_;rintro e w10 ⟨rfl,hOk⟩;have hOk:=Lib.hid hOk)
     obtain⟨Z5,vl5,vs5,hS10,hz10,hy10,hf10⟩:=hOk.out.from hWR
     have hD10:=(hf10.block _ hDl9 hnz2).trans hD9.out
     have hp:Fr (fun b=>b=W3.heap.size) w10 (w10.putObj W3.heap.size (.deferred none)):=(Fr.refl _ w10).putObj _ rfl
     have hnz5:¬Z5 W3.heap.size:=fun hb=>by
      rcases hy10 _ hb with h9|h9
      ·exact hnz2 h9
      ·omega
     refine zkD rfl hD10 (v:=.tuple #[]) (by simp[results,Tryz.results99,go_sem]) ?_
     rw[g3]
     refine⟨rfl,Z5,vl5,vs5,hS10.far E hp (fun b hb=>by subst hb;exact⟨by omega,hnz5⟩),fun b hb=>hz10 b (hz2 b hb),fun b hb=>?_,?_⟩
     ·rcases hy10 b hb with h9|h9
      ·exact hzw2 b h9
      ·exact .inr (by omega)
     ·refine(hfw9.trans hf10 (fun b hb hx=>(hzw2 b hx).resolve_right (by omega))).trans hp (fun b hb hx=>by omega)
  case no=>
   rintro c W ⟨hp,hc,hfl,hlg,hfr⟩ hD
   have hfw:Fr Z w W:=hwf3.trans hfr (fun b hb hx=>by rcases hx with hx|hx;exact hx;omega)
   refine zkC rfl hD ?_
   rw[hp]
   exact⟨c,rfl,LkNo.shut E (Z':=Z) ⟨hc,hfl,hlg,hfw⟩ (fun _ h=>.inl h) (Fr.refl _ _) (by omega) (by omega)⟩
 ·rw[if_neg hq]
  go_enter Tryz.func99,Tryz.ntmps99
  go_wp2_with fail
  rw[<-hwA]
  replace hwA:=Lib.hid hwA
  refine zn2 17 25 [mV (.pointer (some ⟨K.kb,0,none⟩)),mV (.pointer (some ⟨K.kb,0,none⟩)),mV (.pointer (some ⟨K.kb,0,none⟩)),mV (.pointer (some ⟨K.l,0,none⟩)),mV (.pointer (some ⟨K.kb,0,none⟩)),mV (.pointer (some ⟨K.kb,0,none⟩)),mV (.pointer (some ⟨K.kb,1,none⟩)),mV (.int .i64 K.k),mV (.pointer (some ⟨w.heap.size+1,2,none⟩)),mV (.string i.name),mV (.pointer (some ⟨w.heap.size+1,3,none⟩)),mV (.string i.member),mC (calV q) (zkB q),mC (calV q) (zkB q),mV (clV q),mE (mC (errP q.2) (zlr q.2)),mB 71 (#[.int .i64 0,.string ⟨#[]⟩,.int .i64 0]) wA.heap.size] 12 (fun _ _=>False) (GotC K (n+2) wA) (Fr (fun b=>b=K.bl)) (by kernel_rfl) (by kernel_rfl) (by simp) (fun W W' h hf=>h.to hf) ?_ ?_ ?_ ?_ ?_
  ·exact fun v W W' hs=>hSV <| hSV <| hSV <| hSV <| hSV <| hSV <| hSV <| hSV <| hSV <| hSV <| hSV <| hSV <| hopC (fun _ h=>by first|exact h|(obtain⟨b,g1,g2,g3⟩:=h;exact⟨b,g1,g2.keepX hs (by have:=hfA.size;omega),g3⟩)) <| hSV <| hopC (fun _ h=>by first|exact h|(obtain⟨b,g1,g2,g3⟩:=h;exact⟨b,g1,g2.keepX hs (by have:=hfA.size;omega),g3⟩)) <| hopC (fun _ h=>by first|exact h|(obtain⟨b,g1,g2,g3⟩:=h;exact⟨b,g1,g2.keepX hs (by have:=hfA.size;omega),g3⟩)) <| hopZ
  ·refine hc4 ?_ ?_ ?_ ?_ <| hc4 ?_ ?_ ?_ ?_ <| hc4 ?_ ?_ ?_ ?_ <| hc4 ?_ ?_ ?_ ?_ <| hopZ
   all_goals (intro a' W hW hoff hdep;replace hW:=hG _ hW;have hbs:=hGs _ hW;have H2:=hoff 2 rfl;have H3:=hoff 3 rfl)
   ·exact nE rfl gx0
   ·have D10:_=_:=hdep 0 10 rfl;refine nE rfl ?_;simp[execOp,Act.eval,D10,go_sem,zaa];exact fr1 rfl
   ·have D11:_=_:=hdep 1 11 rfl;refine nE rfl ?_;simp[execOp,Act.eval,D11,go_sem,zaa];exact fr1 rfl
   ·have D12:_=_:=hdep 2 12 rfl;refine nE rfl ?_;clear hoff hdep;simp[execOp,Act.eval,go_sem,zaa, *];exact fr1 rfl
   ·exact nE rfl gx0
   ·have D14:_=_:=hdep 4 14 rfl;refine nE rfl ?_;simp[execOp,Act.eval,D14,go_sem,zaa];exact fr1 rfl
   ·have D15:_=_:=hdep 5 15 rfl;refine nE rfl ?_;simp[execOp,Act.eval,D15,go_sem,zaa];exact fr1 rfl
   ·have D16:_=_:=hdep 6 16 rfl;refine nE rfl ?_;clear hoff hdep;simp[execOp,Act.eval,go_sem,zaa, *];exact fr1 rfl
   ·refine nE rfl ?_;simp[execOp,Act.eval,H3,go_sem,zaa];exact fr1 rfl
   ·have D18:_=_:=hdep 8 18 rfl;refine nE rfl ?_;clear hoff hdep;simp[execOp,Act.eval,go_sem,zaa, *];exact fr1 rfl
   ·refine nE rfl ?_;simp[execOp,Act.eval,H3,go_sem,zaa];exact fr1 rfl
   ·have D20:_=_:=hdep 10 20 rfl;refine nE rfl ?_;clear hoff hdep;simp[execOp,Act.eval,go_sem,zaa, *];exact fr1 rfl
   ·obtain⟨ev,D22,he⟩:(calV q) _ W:=hdep 12 22 rfl;refine nE rfl ?_;simp[execOp,Act.eval,D22,go_sem,zaa];exact⟨Fr.refl _ _,_,rfl,he⟩
   ·obtain⟨ev,D9,he⟩:(calV q) _ W:=hdep 13 9 rfl;refine nE rfl ?_;simp[execOp,Act.eval,D9,go_sem,zaa];exact fr1 rfl
   ·obtain⟨ev,D9,he⟩:(calV q) _ W:=hdep 13 9 rfl;exact yE rfl ⟨ev,fun W=>by simp[execOp,Act.eval,D9,go_sem],⟨_,rfl,he⟩,rfl⟩
   ·refine nE rfl ?_;simp[execOp,go_sem,zaa];exact⟨(Fr.refl _ _).alloc _,⟨_,rfl,Bx.new_ rfl,hbs⟩,Nat.le_refl _⟩
  ·intro o r ho hr a' W hW hoff hdep
   have hbs:=hW.size
   cases ho;cases hr
   have D13:_=_:=hdep 3 13 rfl
   have D17:_=_:=hdep 7 17 rfl
   have D19:_=_:=hdep 9 19 rfl
   have D21:_=_:=hdep 11 21 rfl
   simp[Act.eval,D13,D17,D19,D21,go_sem,zlP]
   exact(HG _ hW).mono (fun e w' h=>by obtain⟨ev,g1,g2,g3,g4⟩:=h;exact⟨_,g1,⟨hW.of0.same g3,g4⟩,g3,ev,rfl,g2.t⟩)
  ·exact fun _ _ _ _ h=>h.elim
  intro vs WR hWR hv hne
  replace hWR:=hWR.resolve_left (fun h=>absurd h.1 (by decide))
  obtain⟨evR12,e12,heR12⟩:=hv 12 (by omega)
  obtain⟨evR13,e13,heR13⟩:=hv 13 (by omega)
  obtain⟨xR15,e15,heR15⟩:=hv 15 (by omega)
  obtain⟨b16,e16,hb16,hl16⟩:=hv 16 (by omega)
  simp only[lz6,List.drop_zero,znP,znM,znN,znK,znR,Nat.zero_add,Nat.reduceAdd,e12,e13,e15,e16]
  simp only[Act.put,lz0,lz1,lz2]
  clear e12 e13 e15 e16 hv
  obtain⟨hC1,hC2⟩:=hWR
  have hS:=hA.out.got E hC1 hC2
  obtain⟨y0,y1,y2⟩:=hb16.c3
  have yf:=fun i=>hb16.frozen i
  have yl:=hb16.lt
  have hB0:=B0.keepX hC1 (by omega)
  have z0:=hB0.c1
  have zl:=hB0.lt
  have hne2:b16≠w.heap.size:=by have:=B0.lt;omega
  have hwb:w.heap.size≤b16:=Nat.le_trans hfA.size hl16
  have hfr:Fr Z w WR:=hfA.of0.same (hC1.mono (fun b _ hb=>by subst hb;exact hzb))
  have HW:=fun W (hW:Fr (fun b=>w.heap.size≤b) WR W)=>zdf K (n+2) Z j f vl _ W (hS.far E hW (fun b hb=>⟨by omega,fun hz=>by have:=hlt b hz;omega⟩)) hj hj2
  have hN:∀W,Fr (fun b=>w.heap.size≤b) WR W->LkNo K (n+2) Z j (zeZ j) w W:=fun W hW=>let h:=(hS.far E hW (fun b hb=>⟨by omega,fun hz=>by have:=hlt b hz;omega⟩)).no;⟨h.1,h.2.1,h.2.2.1,hfr.trans hW (fun b hb hx=>by omega)⟩
  clear HG KC hne hb16 hS hB0 heR12 heR13
  rcases heR15 with ⟨hq1,rfl⟩ | ⟨_,eb,rfl⟩
  ·exact absurd hq1 hq
  ·unfold clV at *
   have hfz:Fr (fun b=>w.heap.size≤b) WR (((WR.setCell ⟨b16,0,none⟩ (.int .i64 q.1.1.keeper)).setCell ⟨b16,1,none⟩ (.string q.1.1.name)).setCell ⟨b16,2,none⟩ (.int .i64 q.1.2)):=
    (((Fr.refl (fun b=>w.heap.size≤b) WR).setCellX (p:=⟨b16,0,none⟩) hwb _).setCellX (p:=⟨b16,1,none⟩) hwb _).setCellX (p:=⟨b16,2,none⟩) hwb _
   go_wp2_with (go_at_call 108;refine(HW _ hfz).mono ?_;rintro e w4 ⟨rfl,rfl⟩)
   exact⟨rfl,_,rfl,hN _ hfz⟩
end Go.Proofs.YthembcdcdnffeaaGreat
