/- The draws: keepers, one of them, a class's name and a member's (DrawLnkCall, DrawLnkGet). -/
import Derived.Test.YtbfmeklfpackjaaGreatDoorQG43
set_option maxHeartbeats 8000000
set_option maxRecDepth 100000
namespace Go.Proofs.YtbfmeklfpackjaaGreatDoor
open Go.RowKit
theorem RdB.box {W:World} {rb q b2 n c:Nat} {t:TypeId} {A:Option Addr} {u:Value} (h:RdB W rb q) (hB:Bx W b2 t #[.slice A n c]) (hne:b2≠rb):RdB (W.setCell ⟨b2,0,none⟩ u) rb q:=by
 obtain⟨v,bs,p,h1,h2,h3⟩:=h
 have hp:=Fr.put1 b2 0 u W
 refine⟨v,bs,p,h1.keepX hp (fun e=>hne e.symm),?_,h3⟩
 have h4:Sl (fun b=>rb≤b∨b=b2) W 1 BytC v bs:=by
  obtain⟨A',c',e,l1,l2,hat⟩:=h2
  refine⟨A',c',e,l1,l2,fun h0=>?_⟩
  obtain⟨b,off,e1,hX,hk⟩:=hat h0
  refine⟨b,off,e1,?_,hk⟩
  rintro(hb|rfl)
  ·exact hX hb
  ·obtain⟨cs,⟨rfl,_⟩,hl,hc⟩:=hk 0 h0
   have h9:=hc 0 (by omega)
   rw[hB.cell] at h9
   by_cases ho:off=0
   ·subst ho
    simp at h9
   ·rw[Array.getElem?_eq_none (by simp;omega)] at h9
    simp at h9
 exact(h4.keep hp (fun b e=>.inr e) (fun _ _ _ h=>h)).weaken (fun b e=>.inl e) (fun _ _ _ h=>h)
def dC (rb b2 n0:Nat) (w1:World) (j:Nat) (W:World):Prop:=RdB W rb (200 * j)∧Fr (fun b=>b=rb∨b=b2) w1 W∧∃(vp:Value) (ks:List Kpr),Bx W b2 zuG #[vp]∧Sl (fun b=>b<n0) W 2 (KprC (fun b=>b<n0) W) vp ks
section
variable {rb b2 n0 j q:Nat} {w1 W W':World}
theorem dC.mono:∀j W W',dC rb b2 n0 w1 j W->Fr No W W'->dC rb b2 n0 w1 j W':=fun _ _ _ ⟨h1,h2,vp,ks,h3,h4⟩ hf=>⟨h1.keep hf,h2.trans0 hf,vp,ks,h3.keep hf,h4.keep hf zN (fun _ _ _ h=>h.keep hf zN)⟩
theorem dC.step (h:dC rb b2 n0 w1 j W) (hf:Fr (fun b=>b=rb) W W') (hr:RdB W' rb q) (hq:q≤200 * (j+1)) (hl:rb<n0) (hne:b2≠rb):dC rb b2 n0 w1 (j+1) W':=by
 obtain⟨h1,h2,vp,ks,h3,h4⟩:=h
 exact⟨hr.up hq,h2.trans hf (fun b _ e=>.inl e),vp,ks,h3.keepX hf hne,h4.keep hf (fun b e=>by show b<n0;omega) (fun _ _ _ h=>h.keep hf (fun b e=>by show b<n0;omega))⟩
theorem dC.put (h:dC rb b2 n0 w1 j W) {A:Option Addr} {n c:Nat} {ks:List Kpr} (hv:Sl (fun b=>b<n0) W 2 (KprC (fun b=>b<n0) W) (.slice A n c) ks) (hl:b2<n0) (hne:b2≠rb):dC rb b2 n0 w1 (j+1) (W.setCell ⟨b2,0,none⟩ (.slice A n c)):=by
 obtain⟨h1,h2,vp,ks',h3,h4⟩:=h
 obtain⟨A',c',rfl,_,_⟩:=h4.form
 have hp:=Fr.put1 b2 0 (.slice A n c) W
 exact⟨(h1.box h3 hne).up (by omega),h2.trans hp (fun b _ e=>.inr e),_,ks,h3.set_ 0 _,hv.keep hp (fun b e=>by show b<n0;omega) (fun _ _ _ h=>h.keep hp (fun b e=>by show b<n0;omega))⟩
end
def plV9 (n0:Nat):Value->World->Prop:=fun v W=>∃(A:Option Addr) (n c:Nat) (ks:List Kpr),v=.agg #[.slice A n c]∧Sl (fun b=>b<n0) W 2 (KprC (fun b=>b<n0) W) (.slice A n c) ks
theorem zuS (n0:Nat):MonP (plV9 n0):=fun _ _ _ ⟨A,n,c,ks,h1,h2⟩ hf=>⟨A,n,c,ks,h1,h2.keep hf zN (fun _ _ _ h=>h.keep hf zN)⟩
def roV (t:TypeId) (cs:Array Value) (n base:Nat):Value->World->Prop:=fun v W=>∃b:Nat,v=.slice (some ⟨b,0,none⟩) n n∧Bx W b t cs∧base≤b
theorem zuT (t:TypeId) (cs:Array Value) (n base:Nat):MonP (roV t cs n base):=fun _ _ _ ⟨b,h1,h2,h3⟩ hf=>⟨b,h1,h2.keep hf,h3⟩
def rpV (t:TypeId) (cs:Array Value) (n base:Nat):Value->World->Prop:=fun v W=>∃b k:Nat,k<n∧v=.pointer (some ⟨b,k,none⟩)∧Bx W b t cs∧base≤b
theorem zuU (t:TypeId) (cs:Array Value) (n base:Nat):MonP (rpV t cs n base):=fun _ _ _ ⟨b,k,h1,h2,h3,h4⟩ hf=>⟨b,k,h1,h2,h3.keep hf,h4⟩
abbrev zuV:TypeId:=3
abbrev zuW:TypeId:=9
def rK9:Array Value:=#[.int .i64 0,.int .i64 0,.int .i64 1,.int .i64 2,.int .i64 (-1)]
def zuX (w:World) (e:Ending) (w':World):Prop:=∃(vp:Value) (ks:List Kpr) (k:Int) (s m:Str),e=.returned (.tuple #[.agg #[vp],.int .i64 k,.string s,.string m])∧s.size≤10∧m.size≤10∧Sl (fun b=>b<w.heap.size) w' 2 (KprC (fun b=>b<w.heap.size) w') vp ks∧Fr No w w'
def zuY:Array Value:=#[.string ⟨#[103,101,116]⟩,.string ⟨#[98,117,109,112]⟩,.string ⟨#[108,105,110,107]⟩,.string ⟨#[114,117,110]⟩,.string ⟨#[115,117,109]⟩,.string ⟨#[65]⟩]
theorem zuZ (v:Value) (bs:List Int) (w:World) (h:Sl No w 1 BytC v bs):
  Calls Tryz.prog 6 #[v] w (zuX w):=by
 obtain⟨Ab,cb,rfl,_,_⟩:=h.form
 have H1:=fun W (hW:Fr No w W)=>zr9 _ bs W (h.keep (R':=BytC) hW zN (fun _ _ _ h=>h))
 have B2:=Bx.new w 25 #[.slice none 0 0]
 have hfA:=(Fr.refl No w).alloc (.cells #[.slice none 0 0] 25)
 clear h
 go_enter Tryz.func6,Tryz.ntmps6
 go_wp2_with (go_at_call 21;refine(H1 _ (by exact frc)).mono ?_;rintro e w1 ⟨rb,rfl,hr1,hf1,hrb,hs1⟩;rw[World.size_alloc] at hrb;replace hrb:=Lib.hid hrb;replace hs1:=Lib.hid hs1;refine Hid.out ?_)
 refine Lib.hid ?_
 have hrb9:=hrb.out
 have hs19:=hs1.out
 have B21:=B2.keep hf1
 have hw1:=hfA.trans0 hf1
 have hb2l:w.heap.size<w1.heap.size:=by omega
 have hb2r:w.heap.size≠rb:=by omega
 have hrbl:rb<w1.heap.size:=by omega
 have hC0:dC rb w.heap.size w1.heap.size w1 0 w1:=⟨hr1,Fr.refl _ _,_,[],B21,Sl.nil _ _ _ _⟩
 clear hrb9 hs19 H1 B2 hfA hf1 hr1 B21
 go_wp2_with fail
 have HR:=fun W j (hW:dC rb w.heap.size w1.heap.size w1 j W)=>hW.1
 have hG:∀j W,dC rb w.heap.size w1.heap.size w1 j W->Fr (fun b=>b=rb∨b=w.heap.size) w1 W:=fun _ _ h=>h.2.1
 have hGs:∀W,Fr (fun b=>b=rb∨b=w.heap.size) w1 W->w1.heap.size≤W.heap.size:=fun _ h=>h.size
 have hst:∀{b:Nat},w1.heap.size≤b->¬(b=rb∨b=w.heap.size):=fun h=>by omega
 refine zpN 5 23 [aV (.pointer (some ⟨rb,0,none⟩)),aW (plV9 w1.heap.size) (zuS _),aC (roV zuV rK9 5 w1.heap.size) (zuT _ _ _ _),aV (.pointer (some ⟨rb,0,none⟩)),aW (pkV 5) (zuq _),aC (rpV zuV rK9 5 w1.heap.size) (zuU _ _ _ _),aC (iiV) (zuJ),aV (.pointer (some ⟨rb,0,none⟩)),aW (st20 10) (zuQ _),aC (roV zuW zuY 6 w1.heap.size) (zuT _ _ _ _),aV (.pointer (some ⟨rb,0,none⟩)),aW (pkV 6) (zuq _),aC (rpV zuW zuY 6 w1.heap.size) (zuU _ _ _ _),aC (st20 10) (zuQ _),aX (undef),aC (iiV) (zuJ),aC (st20 10) (zuQ _),aC (st20 10) (zuQ _)] (dC rb w.heap.size w1.heap.size w1) (Fr (fun b=>b=rb∨b=w.heap.size)) (by kernel_rfl) (by kernel_rfl) (by simp) (dC.mono) (dC.mono _ _ _ hC0 ((Fr.refl No _).drew)) ?_ ?_ ?_
 ·exact fun v W W' hs=>hSA rfl <| hopA (fun _ h=>by exact let ⟨A,n,c,ks,g1,g2⟩:=h;⟨A,n,c,ks,g1,g2.keep hs (fun b e=>by show b<w1.heap.size;omega) (fun _ _ _ h=>h.keep hs (fun b e=>by show b<w1.heap.size;omega))⟩) <| hopA (fun _ h=>by exact let ⟨b,g1,g2,g3⟩:=h;⟨b,g1,g2.keepX hs (hst g3),g3⟩) <| hSA rfl <| hopA (fun _ h=>by exact h) <| hopA (fun _ h=>by exact let ⟨b,k,g0,g1,g2,g3⟩:=h;⟨b,k,g0,g1,g2.keepX hs (hst g3),g3⟩) <| hopA (fun _ h=>by exact h) <| hSA rfl <| hopA (fun _ h=>by exact h) <| hopA (fun _ h=>by exact let ⟨b,g1,g2,g3⟩:=h;⟨b,g1,g2.keepX hs (hst g3),g3⟩) <| hSA rfl <| hopA (fun _ h=>by exact h) <| hopA (fun _ h=>by exact let ⟨b,k,g0,g1,g2,g3⟩:=h;⟨b,k,g0,g1,g2.keepX hs (hst g3),g3⟩) <| hopA (fun _ h=>by exact h) <| hSA rfl <| hopA (fun _ h=>by exact h) <| hopA (fun _ h=>by exact h) <| hopA (fun _ h=>by exact h) <| zpL
 ·refine hopA ?_ <| hopA ?_ <| hopA ?_ <| hopA ?_ <| hopA ?_ <| hopA ?_ <| hopA ?_ <| hopA ?_ <| hopA ?_ <| hopA ?_ <| hopA ?_ <| hopA ?_ <| hopA ?_ <| hopA ?_ <| hopA ?_ <| hopA ?_ <| hopA ?_ <| hopA ?_ <| zpL
  all_goals (intro _ a' W jc hjc hW0 hoff hdep;have hW:=hG jc _ hW0;have hbs:=hGs _ hW;have H6:=hoff 6 rfl;have H2:=hoff 2 rfl)
  ·simp[execOp,Act.eval,H6,go_sem,zaa];exact fr1 rfl
  ·have D9:_=_:=hdep 0 9 rfl;replace hjc:jc<5:=hjc;simp[Act.eval,D9,go_sem,zaa];exact(zuR rb (200 * jc) 14 W hW0.1 (by omega) (by omega) (by omega)).mono (fun e w' h=>by obtain⟨vp,ks,g1,g2,g3,g4⟩:=h;obtain⟨A,c,rfl,_,_⟩:=g2.form;exact⟨_,g1,hW0.step g4 g3 (by omega) hrbl hb2r,g4.mono (fun _ _ e=>.inl e),A,_,c,ks,rfl,g2.weaken (fun b e=>Nat.lt_of_lt_of_le e hbs) (fun _ _ _ h=>h.weaken (fun b e=>Nat.lt_of_lt_of_le e hbs))⟩)
  ·simp[execOp,go_sem,zaa];exact⟨(Fr.refl _ _).alloc _,_,rfl,Bx.new_ rfl,hbs⟩
  ·simp[execOp,Act.eval,H6,go_sem,zaa];exact fr1 rfl
  ·have D12:_=_:=hdep 3 12 rfl;replace hjc:jc<5:=hjc;simp[Act.eval,D12,go_sem,zaa];exact(zrd rb (200 * jc) 5 W hW0.1 (by omega) (by omega) (by omega)).mono (fun e w' h=>by obtain⟨k,g1,g2,g3,g4⟩:=h;exact⟨_,g2,hW0.step g4 g3 (by omega) hrbl hb2r,g4.mono (fun _ _ e=>.inl e),k,g1,rfl⟩)
  ·obtain⟨b,D11,hB,hl⟩:(roV zuV rK9 5 w1.heap.size) _ W:=hdep 2 11 rfl
   obtain⟨k,hk,D13⟩:(pkV 5) _ W:=hdep 4 13 rfl
   clear hoff hdep;simp[execOp,Act.eval,go_sem,zaa,↓IntWalk.iteOmega, *]
   exact⟨Fr.refl _ _,b,k,hk,rfl,hB,hl⟩
  ·obtain⟨b,k,hk,D14,hB,hl⟩:(rpV zuV rK9 5 w1.heap.size) _ W:=hdep 5 14 rfl
   clear hoff hdep;simp[execOp,Act.eval,go_sem,zaa, *]
   obtain⟨y,hv,_,_⟩:=zsf (l:=rK9.toList) (by decide) hk rfl;have cy:W.cell? ⟨b,k,none⟩=some (.int .i64 y):=(by rw[hB.cell,<-hv];simp);rw[cy];exact⟨Fr.refl _ _,y,rfl⟩
  ·simp[execOp,Act.eval,H6,go_sem,zaa];exact fr1 rfl
  ·have D16:_=_:=hdep 7 16 rfl;replace hjc:jc<5:=hjc;simp[Act.eval,D16,go_sem,zaa];exact(zsm rb (200 * jc) W hW0.1 (by omega)).mono (fun e w' h=>by obtain⟨s,g1,g2,g3,g4⟩:=h;exact⟨_,g1,hW0.step g4 g3 (by omega) hrbl hb2r,g4.mono (fun _ _ e=>.inl e),s,rfl,g2⟩)
  ·simp[execOp,go_sem,zaa];exact⟨(Fr.refl _ _).alloc _,_,rfl,Bx.new_ rfl,hbs⟩
  ·simp[execOp,Act.eval,H6,go_sem,zaa];exact fr1 rfl
  ·have D19:_=_:=hdep 10 19 rfl;replace hjc:jc<5:=hjc;simp[Act.eval,D19,go_sem,zaa];exact(zrd rb (200 * jc) 6 W hW0.1 (by omega) (by omega) (by omega)).mono (fun e w' h=>by obtain⟨k,g1,g2,g3,g4⟩:=h;exact⟨_,g2,hW0.step g4 g3 (by omega) hrbl hb2r,g4.mono (fun _ _ e=>.inl e),k,g1,rfl⟩)
  ·obtain⟨b,D18,hB,hl⟩:(roV zuW zuY 6 w1.heap.size) _ W:=hdep 9 18 rfl
   obtain⟨k,hk,D20⟩:(pkV 6) _ W:=hdep 11 20 rfl
   clear hoff hdep;simp[execOp,Act.eval,go_sem,zaa,↓IntWalk.iteOmega, *]
   exact⟨Fr.refl _ _,b,k,hk,rfl,hB,hl⟩
  ·obtain⟨b,k,hk,D21,hB,hl⟩:(rpV zuW zuY 6 w1.heap.size) _ W:=hdep 12 21 rfl
   clear hoff hdep;simp[execOp,Act.eval,go_sem,zaa, *]
   obtain⟨s,hv,hz⟩:=zse (l:=zuY.toList) (by decide) hk rfl;have cy:W.cell? ⟨b,k,none⟩=some (.string s):=(by rw[hB.cell,<-hv];simp);rw[cy];exact⟨Fr.refl _ _,s,rfl,hz⟩
  ·obtain⟨A,n,c,ks,D10,hk⟩:(plV9 w1.heap.size) _ W:=hdep 1 10 rfl
   obtain⟨vz,ksz,hBz,hSz⟩:=hW0.2.2;obtain⟨Az,cz,rfl,_,_⟩:=hSz.form;have z0:=hBz.c1;have zf:=fun i=>hBz.frozen i;have zl:=hBz.lt
   clear hoff hdep;simp[execOp,Act.eval,go_sem,zaa, *]
   exact⟨hW0.put hk hb2l hb2r,(Fr.put1 _ _ _ _).mono (fun _ _ e=>.inr e),rfl⟩
  ·obtain⟨y,D15⟩:(iiV) _ W:=hdep 6 15 rfl
   simp[execOp,Act.eval,D15,go_sem,zaa]
   exact⟨Fr.refl _ _,y,rfl⟩
  ·obtain⟨s,D17,hz⟩:(st20 10) _ W:=hdep 8 17 rfl
   simp[execOp,Act.eval,D17,go_sem,zaa]
   exact⟨Fr.refl _ _,s,rfl,hz⟩
  ·obtain⟨s,D22,hz⟩:(st20 10) _ W:=hdep 13 22 rfl
   simp[execOp,Act.eval,D22,go_sem,zaa]
   exact⟨Fr.refl _ _,s,rfl,hz⟩
 intro vs WR hWR hv
 obtain⟨AR1,nR1,cR1,ksR1,e1,hkR1⟩:=hv 1 (by decide)
 obtain⟨bR2,e2,hBR2,hlR2⟩:=hv 2 (by decide)
 obtain⟨kR4,hkR4,e4⟩:=hv 4 (by decide)
 obtain⟨bR5,kR5,hkR5,e5,hBR5,hlR5⟩:=hv 5 (by decide)
 obtain⟨yR6,e6⟩:=hv 6 (by decide)
 obtain⟨sR8,e8,hzR8⟩:=hv 8 (by decide)
 obtain⟨bR9,e9,hBR9,hlR9⟩:=hv 9 (by decide)
 obtain⟨kR11,hkR11,e11⟩:=hv 11 (by decide)
 obtain⟨bR12,kR12,hkR12,e12,hBR12,hlR12⟩:=hv 12 (by decide)
 obtain⟨sR13,e13,hzR13⟩:=hv 13 (by decide)
 obtain⟨yR15,e15⟩:=hv 15 (by decide)
 obtain⟨sR16,e16,hzR16⟩:=hv 16 (by decide)
 obtain⟨sR17,e17,hzR17⟩:=hv 17 (by decide)
 simp only[zpH,zpE,zpI,zpF,zpJ,Nat.zero_add,Nat.reduceAdd,e1,e2,e4,e5,e6,e8,e9,e11,e12,e13,e15,e16,e17]
 simp only[Act.put,lz0,lz1,lz2]
 clear e1 e2 e4 e5 e6 e8 e9 e11 e12 e13 e15 e16 e17 hv
 obtain⟨hr9,hf9,vp,ks,hBp,hSp⟩:=hWR
 obtain⟨Ap,cp,rfl,_,_⟩:=hSp.form
 have z0:=hBp.c1
 have zl:=hBp.lt
 have hfin:=Lib.hid (show zuX w (.returned (.tuple #[.agg #[.slice Ap ks.length cp],.int .i64 yR15,.string sR16,.string sR17])) WR from⟨_,ks,_,_,_,rfl,hzR16,hzR17,hSp.weaken (fun b e=>by have:b<w.heap.size:=e;show b<w1.heap.size;omega) (fun _ _ _ h=>h.weaken (fun b e=>by have:b<w.heap.size:=e;show b<w1.heap.size;omega)),hw1.trans hf9 (fun b hb e=>by have:=hrb.out;omega)⟩)
 clear hC0 HR hG hGs hr9 hf9 hSp hBp
 go_wp2_with fail
 refine bodyPost_ret (v:=.tuple #[.agg #[.slice Ap ks.length cp],.int .i64 yR15,.string sR16,.string sR17]) (by simp[results,Tryz.results6,go_sem, *]) rfl ?_
 exact hfin.out
end Go.Proofs.YtbfmeklfpackjaaGreatDoor
