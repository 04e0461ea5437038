/- The program's verifier: what it takes from the stack and puts on it; the panic of a wrong instruction. -/
import Derived.Test.YthembcdcdnffeaaGreatEG23
import Derived.Test.YthembcdcdnffeaaGreatEG35
import Derived.WalkLawsBesides
set_option maxHeartbeats 4000000
set_option maxRecDepth 100000
namespace Go.Proofs.YthembcdcdnffeaaGreat
open Go.RowKit
theorem zdf (K:LkP) (n:Nat) (Z:Nat->Prop) (j:Int) (f:Frm) (vl vs:Value) (w:World) (h:LkS K n Z j f vl vs w) (hj:0≤j) (hj2:j<1000):
  Calls Tryz.prog 108 #[.pointer (some ⟨K.kb,0,none⟩)] w (fun e w'=>e=.panicked (zeZ j)∧w'=w):=by
 have KC:=h.cells
 obtain⟨_,_,_,_,_,_,_,c10,_,_,_,hlt⟩:=KC w (Fr.refl _ _)
 have hadd:IntKind.i64.wrap (j+1)=j+1:=IntWalk.i64_in _ (by omega)
 clear h KC
 go_enter Tryz.func108,Tryz.ntmps108
 go_wp2
 exact⟨rfl,rfl,rfl⟩
theorem zdg (K:LkP) (E:LkE K) (n:Nat) (Z:Nat->Prop) (j:Int) (f:Frm) (vl vs:Value) (w:World) (h:LkS K n Z j f vl vs w) (hj:0≤j) (hj2:j<1000):
  Calls Tryz.prog 142 #[.pointer (some ⟨K.kb,0,none⟩)] w (ze4 K n Z j f vl (zcD f.stack) w):=by
 obtain⟨wA,hwA⟩:∃wA,wA=(w.alloc (.cells #[.int .i64 0,.string ⟨#[]⟩] 116)):=⟨_,rfl⟩
 have hfA:Fr No w wA:=hwA▸frc
 have B0:=(hwA▸bxc:Bx wA w.heap.size 116 #[.int .i64 0,.string ⟨#[]⟩])
 have hA:=h.keep E hfA
 have hkl:=h.lt h.zkb
 rcases ze2 f.stack with ⟨h0,ht⟩ | ⟨ys,x,h0,ht⟩
 ·rw[ht]
  have hs:=hA.stk
  rw[h0] at hs
  obtain⟨A,c,hv,_,_⟩:=hs.1.form
  rw[List.length_nil] at hv
  subst hv
  have HW:=fun W (hW:Fr No wA W)=>zdf K n Z j f vl _ W (hA.keep E hW) hj hj2
  have hN:=(hA.no)
  obtain⟨_,_,_,_,_,_,_,_,_,c12,_,_⟩:=h.cells w (Fr.refl _ _)
  clear hs h h0 ht hA
  go_enter Tryz.func142,Tryz.ntmps142
  go_wp2_with (go_at_call 108;rw[<-hwA];refine(HW _ (Fr.refl _ _)).mono ?_;rintro e w1 ⟨rfl,rfl⟩)
  exact⟨rfl,_,rfl,by rw[<-hwA];exact hN.from hfA⟩
 ·rw[ht]
  have hs:=hA.stk
  rw[h0] at hs
  obtain⟨g,c,rfl,hq,hc1,hc2,t0,t1,hxn⟩:=hs.top
  unfold maxLen at hc2
  have KC:=hA.cells
  have KT0:=cr t0
  have KT1:=cr t1
  have hsub:IntKind.i64.wrap (ys.length:Int)=(ys.length:Int):=IntWalk.i64_in _ (by omega)
  obtain⟨_,_,_,_,_,_,_,_,_,c12,_,_⟩:=h.cells w (Fr.refl _ _)
  replace h:=Lib.hid h
  replace hA:=Lib.hid hA
  clear t0 t1 hs
  go_enter Tryz.func142,Tryz.ntmps142
  go_wp2_with fail
  rw[<-hwA]
  replace hwA:=Lib.hid hwA
  clear c12
  refine zn0 13 24 [mV (.pointer (some ⟨K.kb,0,none⟩)),mV (.pointer (some ⟨K.kb,0,none⟩)),mV (.pointer (some ⟨K.kb,12,none⟩)),mV (.slice (some ⟨g,0,none⟩) (ys.length+1) c),mV (.pointer (some ⟨K.kb,0,none⟩)),mV (.pointer (some ⟨K.kb,0,none⟩)),mV (.pointer (some ⟨K.kb,12,none⟩)),mV (.slice (some ⟨g,0,none⟩) (ys.length+1) c),mV (.int .i64 ((ys.length+1:Nat):Int)),mV (.int .i64 ys.length),mV (.pointer (some ⟨g,ys.length * 2,none⟩)),mV (.agg #[.int .i64 x.kind,.string x.name]),mB 116 (#[.int .i64 0,.string ⟨#[]⟩]) wA.heap.size] (by kernel_rfl) (by kernel_rfl) (by simp) ?_ ?_
  ·refine hc4 ?_ ?_ ?_ ?_ <| hc4 ?_ ?_ ?_ ?_ <| hc4 ?_ ?_ ?_ ?_ <| hopC ?_ <| hopZ
   all_goals (intro a' W hW hoff hdep;have hbs:=hW.size;have H0:=hoff 0 rfl;refine nE rfl ?_)
   ·simp[execOp,Act.eval,H0,go_sem,zaa];exact fr1 rfl
   ·have D12:_=_:=hdep 0 12 rfl;simp[execOp,Act.eval,D12,go_sem,zaa];exact fr1 rfl
   ·have D13:_=_:=hdep 1 13 rfl;simp[execOp,Act.eval,D13,go_sem,zaa];exact fr1 rfl
   ·have D14:_=_:=hdep 2 14 rfl;clear hoff hdep;simp[execOp,Act.eval,go_sem,zaa, *];exact fr1 rfl
   ·simp[execOp,Act.eval,H0,go_sem,zaa];exact fr1 rfl
   ·have D16:_=_:=hdep 4 16 rfl;simp[execOp,Act.eval,D16,go_sem,zaa];exact fr1 rfl
   ·have D17:_=_:=hdep 5 17 rfl;simp[execOp,Act.eval,D17,go_sem,zaa];exact fr1 rfl
   ·have D18:_=_:=hdep 6 18 rfl;clear hoff hdep;simp[execOp,Act.eval,go_sem,zaa, *];exact fr1 rfl
   ·have D19:_=_:=hdep 7 19 rfl;simp[Act.eval,D19,go_sem,zaa];exact fr1 rfl
   ·have D20:_=_:=hdep 8 20 rfl;simp[execOp,Act.eval,D20,go_sem,zaa];exact⟨Fr.refl _ _,by show Value.int _ _=_;rw[hsub]⟩
   ·have D15:_=_:=hdep 3 15 rfl;have D21:_=_:=hdep 9 21 rfl;clear hoff hdep;simp[execOp,Act.eval,go_sem,zaa,↓IntWalk.iteOmega, *];exact fr1 rfl
   ·have D22:_=_:=hdep 10 22 rfl;clear hoff hdep;simp[execOp,Act.eval,go_sem,zaa, *];exact fr1 rfl
   ·simp[execOp,go_sem,zaa];exact⟨(Fr.refl _ _).alloc _,⟨_,rfl,Bx.new_ rfl,hbs⟩,Nat.le_refl _⟩
  intro vs WR hWR hv hne
  obtain⟨b12,e12,hb12,hl12⟩:=hv 12 (by omega)
  simp only[lz6,List.drop_zero,znP,znK,znR,Nat.zero_add,Nat.reduceAdd,e12]
  simp only[Act.put,lz0,lz1,lz2]
  clear e12 hv
  have hbl:=hA.out.box.lt
  have hwl:=hfA.size
  have hsz:=B0.lt
  obtain⟨p0,p1⟩:=hb12.c2
  have pf:=fun i=>hb12.frozen i
  have pl:=hb12.lt
  go_wp2_with fail
  clear p0 p1 pf pl
  refine zaE (fun W=>Bx W b12 116 #[.int .i64 x.kind,.string x.name]∧Fr No wA W) ⟨(hb12.set_ 0 _).set_ 1 _,(hWR.setCell (p:=⟨b12,0,none⟩) hl12 _).setCell (p:=⟨b12,1,none⟩) hl12 _⟩ ?_
  rintro W2 ⟨hb,hW2⟩
  have h2:=hA.out.keep E hW2
  have KC2:=h2.cells
  have KB:=hb.r2
  have hr2:=B0.keep hW2
  clear KC KT0 KT1 hb12 hWR hne
  refine zn0 14 38 [mV (.pointer (some ⟨K.kb,0,none⟩)),mV (.pointer (some ⟨K.kb,0,none⟩)),mV (.pointer (some ⟨K.kb,0,none⟩)),mV (.pointer (some ⟨K.kb,12,none⟩)),mV (.slice (some ⟨g,0,none⟩) (ys.length+1) c),mV (.pointer (some ⟨K.kb,0,none⟩)),mV (.pointer (some ⟨K.kb,0,none⟩)),mV (.pointer (some ⟨K.kb,12,none⟩)),mV (.slice (some ⟨g,0,none⟩) (ys.length+1) c),mV (.int .i64 ((ys.length+1:Nat):Int)),mV (.int .i64 ys.length),mV (.slice (some ⟨g,0,none⟩) ys.length c),mV (.pointer (some ⟨K.kb,0,none⟩)),mV (.pointer (some ⟨K.kb,12,none⟩))] (by kernel_rfl) (by kernel_rfl) (by simp) ?_ ?_
  ·refine hc4 ?_ ?_ ?_ ?_ <| hc4 ?_ ?_ ?_ ?_ <| hc4 ?_ ?_ ?_ ?_ <| hopC ?_ <| hopC ?_ <| hopZ
   all_goals (intro a' W hW hoff hdep;have hbs:=hW.size;have H0:=hoff 0 rfl;refine nE rfl ?_)
   ·simp[execOp,Act.eval,H0,go_sem,zaa];exact fr1 rfl
   ·simp[execOp,Act.eval,H0,go_sem,zaa];exact fr1 rfl
   ·have D25:_=_:=hdep 1 25 rfl;simp[execOp,Act.eval,D25,go_sem,zaa];exact fr1 rfl
   ·have D26:_=_:=hdep 2 26 rfl;simp[execOp,Act.eval,D26,go_sem,zaa];exact fr1 rfl
   ·have D27:_=_:=hdep 3 27 rfl;clear hoff hdep;simp[execOp,Act.eval,go_sem,zaa, *];exact fr1 rfl
   ·simp[execOp,Act.eval,H0,go_sem,zaa];exact fr1 rfl
   ·have D29:_=_:=hdep 5 29 rfl;simp[execOp,Act.eval,D29,go_sem,zaa];exact fr1 rfl
   ·have D30:_=_:=hdep 6 30 rfl;simp[execOp,Act.eval,D30,go_sem,zaa];exact fr1 rfl
   ·have D31:_=_:=hdep 7 31 rfl;clear hoff hdep;simp[execOp,Act.eval,go_sem,zaa, *];exact fr1 rfl
   ·have D32:_=_:=hdep 8 32 rfl;simp[Act.eval,D32,go_sem,zaa];exact fr1 rfl
   ·have D33:_=_:=hdep 9 33 rfl;simp[execOp,Act.eval,D33,go_sem,zaa];exact⟨Fr.refl _ _,by show Value.int _ _=_;rw[hsub]⟩
   ·have D28:_=_:=hdep 4 28 rfl;have D34:_=_:=hdep 10 34 rfl;clear hoff hdep;simp[execOp,Act.eval,go_sem,zaa,↓IntWalk.iteOmega, *];exact fr1 rfl
   ·have D24:_=_:=hdep 0 24 rfl;simp[execOp,Act.eval,D24,go_sem,zaa];exact fr1 rfl
   ·have D36:_=_:=hdep 12 36 rfl;simp[execOp,Act.eval,D36,go_sem,zaa];exact fr1 rfl
  intro vs WR hWR hv hne
  simp only[lz6,List.drop_zero,znK,znR,Nat.zero_add,Nat.reduceAdd]
  simp only[Act.put,lz0,lz1,lz2]
  clear hv
  have h3:=h2.keep E hWR
  obtain⟨_,_,_,_,_,_,_,_,c11,c12,cf,cl⟩:=h3.cells WR (Fr.refl _ _)
  have hkr:¬w.heap.size=K.kb:=by omega
  obtain⟨r0,r1⟩:=(hr2.keep hWR).c2
  have rf:=fun i=>(hr2.keep hWR).frozen i
  have rl:=(hr2.keep hWR).lt
  obtain⟨x0,x1⟩:=(hb.keep hWR).c2
  have xl:=(hb.keep hWR).lt
  have hfin:=h3.pop E h0
  have ha:Fr No w WR:=(hfA.trans0 hW2).trans0 hWR
  have hZ:=fun b hz=>h.out.lt (b:=b) hz
  have hz0:=h.out.anchor.size
  replace hfin:=Lib.hid hfin
  clear KC2 KB h2 h3
  go_wp2
  refine bodyPost_ret (v:=.agg #[.int .i64 x.kind,.string x.name]) (by simp[results,Tryz.results142,go_sem, *]) rfl ?_
  exact⟨rfl,hxn,by simp[World.cell?_setCell_other,c11],hfin.out.out E ha ((Fr.one _ _ _ _).same (Fr.one _ _ _ _)) (fun b hb=>by subst hb;exact⟨Nat.le_refl _,rl⟩) hZ hz0⟩
theorem zdh (K:LkP) (E:LkE K) (n:Nat) (Z:Nat->Prop) (j:Int) (f:Frm) (vl vs:Value) (w:World) (h:LkS K n Z j f vl vs w) (hj:0≤j) (hj2:j<1000) (t:Tag) (ht:t.name.size≤maxLen):
  Calls Tryz.prog 140 #[.pointer (some ⟨K.kb,0,none⟩),.agg #[.int .i64 t.kind,.string t.name]] w (ze0 K n Z j ((zcE K.m.stack f.stack t).map (⟨f.locals,·⟩)) w):=by
 obtain⟨wA,hwA⟩:∃wA,wA=(w.alloc (.cells #[.int .i64 t.kind,.string t.name] 116)):=⟨_,rfl⟩
 have hfA:Fr No w wA:=hwA▸frc
 have B0:=(hwA▸bxc:Bx wA w.heap.size 116 #[.int .i64 t.kind,.string t.name])
 have hA:=h.keep E hfA
 have hkl:=h.lt h.zkb
 have h5:=E.stack_le
 obtain⟨A,c,rfl,hc1,hc2⟩:=hA.stk.1.form
 unfold maxLen at hc2
 have KC:=hA.cells
 have K0:=B0.r2
 obtain⟨_,_,_,_,c7,_,_,_,_,c12,_,_⟩:=h.cells w (Fr.refl _ _)
 by_cases hp:(f.stack.length:Int)<K.m.stack
 ·obtain⟨i0,hi,hz0,hz1,hz2⟩:=info_parts ze8
  have hv:zcE K.m.stack f.stack t=some (f.stack ++ [t]):=by unfold zcE;rw[if_pos hp]
  rw[hv]
  clear hv
  replace hi:=Lib.hid hi
  replace hz0:=Lib.hid hz0
  replace hz1:=Lib.hid hz1
  replace hz2:=Lib.hid hz2
  replace h:=Lib.hid h
  replace hA:=Lib.hid hA
  go_enter Tryz.func140,Tryz.ntmps140
  go_wp2_with fail
  rw[<-hwA]
  replace hwA:=Lib.hid hwA
  clear c7 c12
  (refine zgc (X:=No) (by kernel_rfl) (by kernel_rfl) ?_)
  (repeat((first|go_big_quiet_skip|(go_big_quiet_want;(apply Exists.intro;refine⟨fun W hW=>?_,?_⟩);(focus (exact fqc));go_big_quiet_on));(try simp only[Act.put,lz0,lz1,lz2])));refine wpQuiet_nil ?_
  intro w1 hf1
  have hA1:=hA.out.keep E hf1
  have KC1:=hA1.cells
  have K1:=(B0.keep hf1).r2
  have hlt:(f.stack.length:Int)<K.m.stack:=hp
  replace hA1:=Lib.hid hA1
  clear KC K0
  go_wp2_with fail
  refine zn0 7 24 [mE (mV (.pointer (some ⟨K.kb,0,none⟩))),mV (.pointer (some ⟨K.kb,0,none⟩)),mV (.pointer (some ⟨K.kb,0,none⟩)),mV (.pointer (some ⟨K.kb,12,none⟩)),mV (.slice A f.stack.length c),mV (.agg #[.int .i64 t.kind,.string t.name]),mS 116 (#[.int .i64 t.kind,.string t.name]) 1 w1.heap.size] (by kernel_rfl) (by kernel_rfl) (by simp) ?_ ?_
  ·refine hc4 ?_ ?_ ?_ ?_ <| hopC ?_ <| hopC ?_ <| hopC ?_ <| hopZ
   all_goals (intro a' W hW hoff hdep;have hbs:=hW.size;have H0:=hoff 0 rfl;have H3:=hoff 3 rfl)
   ·exact yE rfl ⟨.pointer (some ⟨K.kb,0,none⟩),fun W=>by simp[execOp,Act.eval,H0,go_sem],rfl,rfl⟩
   ·refine nE rfl ?_;simp[execOp,Act.eval,H0,go_sem,zaa];exact fr1 rfl
   ·have D18:_=_:=hdep 1 18 rfl;refine nE rfl ?_;simp[execOp,Act.eval,D18,go_sem,zaa];exact fr1 rfl
   ·have D19:_=_:=hdep 2 19 rfl;refine nE rfl ?_;simp[execOp,Act.eval,D19,go_sem,zaa];exact fr1 rfl
   ·have D20:_=_:=hdep 3 20 rfl;refine nE rfl ?_;clear hoff hdep;simp[execOp,Act.eval,go_sem,zaa, *];exact fr1 rfl
   ·exact nE rfl gx0
   ·have D22:_=_:=hdep 5 22 rfl;simp at D22;refine nE rfl ?_;simp[execOp,Act.eval,D22,go_sem,zaa];exact⟨(Fr.refl _ _).alloc _,⟨_,rfl,Bx.new_ rfl,hbs⟩,Nat.le_refl _⟩
  intro vs WR hWR hv hne
  obtain⟨b6,e6,hb6,hl6⟩:=hv 6 (by omega)
  simp only[lz6,List.drop_zero,znL,znQ,znK,znR,Nat.zero_add,Nat.reduceAdd,e6]
  simp only[Act.put,lz0,lz1,lz2]
  clear e6 hv
  have hR:=hA1.out.keep E hWR
  have hrowR:=hR.stk.1
  have hsrc:=Lib.hid (Bx.news (cs:=zcU t) hb6)
  have hne:=hR.box_ne.2
  have hboxR:=hR.box
  clear KC1 K1
  replace hR:=Lib.hid hR
  go_wp2_with (at_builtin;refine zcS _ rfl _ _ 75 rfl 116 i0 (.agg #[.int .i64 0,.string ⟨#[]⟩]) 2 24 Tryz.underlying75 hi.out hz0.out hz1.out hz2.out rfl (by decide) (.slice A f.stack.length c) f.stack.length (f.stack.flatMap zcU) rfl hrowR ⟨b6,0,none⟩ 1 1 (zcU t) rfl rfl hsrc.out (by simp[zcU,Value.oneCell']) (by decide) (by unfold maxLen;omega) (by omega) ?_;intro g' cap' w2 hrow hcap hgf hor;have hbx:=hboxR.keepX hgf (fun e=>hne _ e rfl);have z12:w2.cell? ⟨K.kb,12,none⟩=some (.slice A f.stack.length c):=hbx.cell 12;have zf:=(fun i=>hbx.frozen i);have zl:=hbx.lt)
  go_end0
  exact⟨rfl,(((hR.out.push E ht hrow hgf hor hcap hlt).from hWR).from hf1).from hfA⟩
 ·have hv:zcE K.m.stack f.stack t=none:=by unfold zcE;rw[if_neg hp]
  rw[hv]
  clear hv
  have HW:=fun W (hW:Fr No wA W)=>zdf K n Z j f vl _ W (hA.keep E hW) hj hj2
  have hN:=fun W (hW:Fr No wA W)=>(((hA.keep E hW).no).from hW).from hfA
  have hge:K.m.stack≤(f.stack.length:Int):=by omega
  clear hA h
  go_enter Tryz.func140,Tryz.ntmps140
  go_wp2_with fail
  rw[<-hwA]
  replace hwA:=Lib.hid hwA
  clear c7 c12
  (refine zgc (X:=No) (by kernel_rfl) (by kernel_rfl) ?_)
  (repeat((first|go_big_quiet_skip|(go_big_quiet_want;(apply Exists.intro;refine⟨fun W hW=>?_,?_⟩);(focus (exact fqc));go_big_quiet_on));(try simp only[Act.put,lz0,lz1,lz2])));refine wpQuiet_nil ?_
  intro w1 hf1
  clear KC K0
  go_wp2_with (go_at_call 108;refine(HW _ frc).mono ?_;rintro e w1 ⟨rfl,rfl⟩)
  exact⟨rfl,_,rfl,hN _ hf1⟩
def TkN (K:LkP) (n:Nat) (Z:Nat->Prop) (j:Int) (f:Frm) (a:World) (c:List PanicEntry) (W:World):Prop:=zcD f.stack=none∧LkNo K n Z j c a W
theorem zdi {K:LkP} {n:Nat} {Z:Nat->Prop} {j:Int} {f:Frm} {t:Tag} {c:List PanicEntry} {a:Act} {w wA W:World} (ha:Fr No w wA) (hd:a.defers=[]) (h:TkN K n Z j f wA c W):a.defers=[]∧ze0 K n Z j ((popF K.p K.k f.stack t).map (⟨f.locals,·⟩)) w (.panicked c) W:=by
 refine⟨hd,?_⟩
 have:popF K.p K.k f.stack t=none:=by unfold popF;rw[h.1]
 rw[this]
 exact⟨c,rfl,h.2.from ha⟩
def TkV (f:Frm):Value->World->Prop:=fun v _=>∃x r,zcD f.stack=some (x,r)∧v=.agg #[.int .i64 x.kind,.string x.name]∧x.name.size≤maxLen
def TkC (K:LkP) (n:Nat) (Z:Nat->Prop) (j:Int) (f:Frm) (vl:Value) (a:World):World->Prop:=fun W=>∃x r,zcD f.stack=some (x,r)∧LkOk K n Z j ⟨f.locals,r⟩ a W∧W.cell? ⟨K.kb,11,none⟩=some vl
theorem TkV.mono (f:Frm):MonP (TkV f):=fun _ _ _ h _=>h
theorem TkC.to {K:LkP} (E:LkE K) {n:Nat} {Z:Nat->Prop} {j:Int} {f:Frm} {vl:Value} {a W W':World} (h:TkC K n Z j f vl a W) (hf:Fr No W W'):TkC K n Z j f vl a W':=let ⟨x,r,h1,h2,h3⟩:=h;⟨x,r,h1,h2.to E hf,hf.keep0 h3⟩
theorem zdj {K:LkP} {n:Nat} {Z:Nat->Prop} {j:Int} {f:Frm} {vl vs:Value} {a w w':World} {e:Ending} (_:LkS K n Z j f vl vs a) (hW:Fr No a w) (h:ze4 K n Z j f vl (zcD f.stack) w e w'):
  (∃v,e=.returned v∧TkC K n Z j f vl a w'∧Fr Z w w'∧TkV f v w')∨∃c,e=.panicked c∧TkN K n Z j f a c w':=by
 cases ht:zcD f.stack with
 | none=>
  rw[ht] at h
  obtain⟨c,h1,h2⟩:=h
  exact .inr ⟨c,h1,ht,h2.from hW⟩
 | some q=>
  obtain⟨x,r⟩:=q
  rw[ht] at h
  obtain⟨h1,h2,h4,h3⟩:=h
  refine .inl ⟨_,h1,⟨x,r,ht,h3.from hW,h4⟩,?_,x,r,ht,rfl,h2⟩
  obtain⟨_,_,_,_,_,_,h4⟩:=h3
  exact h4
theorem zdk (K:LkP) (E:LkE K) (n:Nat) (Z:Nat->Prop) (j:Int) (f:Frm) (vl vs:Value) (w:World) (h:LkS K n Z j f vl vs w) (hj:0≤j) (hj2:j<1000) (t:Tag) (ht:t.name.size≤maxLen):
  Calls Tryz.prog 143 #[.pointer (some ⟨K.kb,0,none⟩),.agg #[.int .i64 t.kind,.string t.name]] w (ze0 K n Z j ((popF K.p K.k f.stack t).map (⟨f.locals,·⟩)) w):=by
 obtain⟨wA,hwA⟩:∃wA,wA=(w.alloc (.cells #[.int .i64 t.kind,.string t.name] 116)):=⟨_,rfl⟩
 have hfA:Fr No w wA:=hwA▸frc
 have B0:=(hwA▸bxc:Bx wA w.heap.size 116 #[.int .i64 t.kind,.string t.name])
 have hA:=h.keep E hfA
 have hkl:=h.lt h.zkb
 have hZ0:¬Z w.heap.size:=fun hz=>by have:=h.lt hz;omega
 have HT:=fun W (hW:Fr No wA W)=>zdg K E n Z j f vl vs W (hA.keep E hW) hj hj2
 -- what the other operations read, ahead of the call and behind it
 obtain⟨G,hG,hGs,KC⟩:∃G:World->Prop,(∀W,(Fr No wA W∨TkC K n Z j f vl wA W)->G W)∧(∀W,G W->wA.heap.size≤W.heap.size) ∧
   (∀W,G W->W.cell? ⟨K.kb,0,none⟩=some (.pointer (some ⟨K.l,0,none⟩))∧W.cell? ⟨K.kb,1,none⟩=some (.int .i64 K.k)∧K.kb<W.heap.size∧W.cell? ⟨w.heap.size,0,none⟩=some (.int .i64 t.kind)∧W.cell? ⟨w.heap.size,1,none⟩=some (.string t.name)∧w.heap.size<W.heap.size):=by
  refine⟨fun W=>Fr No wA W∨TkC K n Z j f vl wA W,fun _ h=>h,fun W hW=>?_,fun W hW=>?_⟩
  ·rcases hW with hW | ⟨_,_,_,⟨_,_,_,_,_,_,hW⟩,_⟩<;>exact hW.size
  ·rcases hW with hW | ⟨_,_,_,⟨_,_,_,hS,_,_,hW⟩,_⟩
   ·obtain⟨c0,c1,_,_,_,_,_,_,_,_,_,hl⟩:=hA.cells W hW
    obtain⟨b0,b1⟩:=(B0.keep hW).c2
    exact⟨c0,c1,hl,b0,b1,(B0.keep hW).lt⟩
   ·obtain⟨c0,c1,_,_,_,_,_,_,_,_,_,hl⟩:=hS.cells W (Fr.refl _ _)
    obtain⟨b0,b1⟩:=(B0.keepX hW hZ0).c2
    exact⟨c0,c1,hl,b0,b1,(B0.keepX hW hZ0).lt⟩
 replace h:=Lib.hid h
 replace hA:=Lib.hid hA
 go_enter Tryz.func143,Tryz.ntmps143
 go_wp2_with fail
 rw[<-hwA]
 replace hwA:=Lib.hid hwA
 refine zn2 11 15 [mV (.pointer (some ⟨K.kb,0,none⟩)),mV (.pointer (some ⟨K.kb,0,none⟩)),mV (.pointer (some ⟨K.kb,0,none⟩)),mV (.pointer (some ⟨K.l,0,none⟩)),mV (.pointer (some ⟨K.kb,0,none⟩)),mV (.pointer (some ⟨K.kb,0,none⟩)),mV (.pointer (some ⟨K.kb,1,none⟩)),mV (.int .i64 K.k),mV (.pointer (some ⟨K.kb,0,none⟩)),mC (TkV f) (TkV.mono f),mV (.agg #[.int .i64 t.kind,.string t.name])] 9 (TkN K n Z j f wA) (TkC K n Z j f vl wA) (Fr Z) (by kernel_rfl) (by kernel_rfl) (by simp) (fun W W' h hf=>h.to E hf) ?_ ?_ ?_ ?_ ?_
 ·exact fun v W W' hs=>hSV <| hSV <| hSV <| hSV <| hSV <| hSV <| hSV <| hSV <| hSV <| hSV <| hopZ
 ·refine hc4 ?_ ?_ ?_ ?_ <| hc4 ?_ ?_ ?_ ?_ <| hopC ?_ <| hopC ?_ <| hopZ
  all_goals (intro a' W hW hoff hdep;replace hW:=hG _ hW;have hbs:=hGs _ hW;have H0:=hoff 0 rfl;have H3:=hoff 3 rfl;refine nE rfl ?_)
  ·simp[execOp,Act.eval,H0,go_sem,zaa];exact fr1 rfl
  ·have D4:_=_:=hdep 0 4 rfl;simp[execOp,Act.eval,D4,go_sem,zaa];exact fr1 rfl
  ·have D5:_=_:=hdep 1 5 rfl;simp[execOp,Act.eval,D5,go_sem,zaa];exact fr1 rfl
  ·have D6:_=_:=hdep 2 6 rfl;clear hoff hdep;simp[execOp,Act.eval,go_sem,zaa, *];exact fr1 rfl
  ·simp[execOp,Act.eval,H0,go_sem,zaa];exact fr1 rfl
  ·have D8:_=_:=hdep 4 8 rfl;simp[execOp,Act.eval,D8,go_sem,zaa];exact fr1 rfl
  ·have D9:_=_:=hdep 5 9 rfl;simp[execOp,Act.eval,D9,go_sem,zaa];exact fr1 rfl
  ·have D10:_=_:=hdep 6 10 rfl;clear hoff hdep;simp[execOp,Act.eval,go_sem,zaa, *];exact fr1 rfl
  ·simp[execOp,Act.eval,H0,go_sem,zaa];exact fr1 rfl
  ·exact gx0
 ·intro o r ho hr a' W hW hoff hdep
  have hbs:=hW.size
  cases ho;cases hr
  have D12:_=_:=hdep 8 12 rfl
  simp[Act.eval,D12,go_sem,zlP]
  exact(HT _ hW).mono (fun e w' h=>zdj hA.out hW h)
 ·intro c a' W hd hN;exact zdi hfA hd hN
 intro vs WR hWR hv hne
 replace hWR:=hWR.resolve_left (fun h=>absurd h.1 (by decide))
 obtain⟨xR9,rR9,hxR9,e9,hxnR9⟩:=hv 9 (by omega)
 simp only[lz6,List.drop_zero,znM,znK,znR,Nat.zero_add,Nat.reduceAdd,e9]
 simp only[Act.put,lz0,lz1,lz2]
 clear e9 hv
 obtain⟨x,r,hx,hOk,_⟩:=hWR
 rw[hx] at hxR9
 cases hxR9
 have hOk0:=Lib.hid hOk
 obtain⟨Z',vl',vs',hS1,hz,hz',hf1⟩:=hOk
 obtain⟨g,hLo,_⟩:=hS1.lg
 have HM:=fun W (hW:Fr No WR W)=>zde K.l K.bl n K.p g K.k xR9 t W (hLo.keep hW) hxnR9 ht
 have HWr:=fun W (hW:Fr No WR W)=>zdf K n Z' j ⟨f.locals,rR9⟩ vl' vs' W (hS1.keep E hW) hj hj2
 have hp:popF K.p K.k f.stack t=if mayK K.p K.k xR9 t then some rR9 else none:=by unfold popF;rw[hx]
 replace hp:=Lib.hid hp
 generalize mayK K.p K.k xR9 t=b at *
 replace hS1:=Lib.hid hS1
 clear KC HT hne
 cases b
 ·have ho:popF K.p K.k f.stack t=none:=hp.out.trans (if_neg (by simp))
  go_wp2_with (first
   | (go_at_call 176;refine(HM _ (Fr.refl _ _)).mono ?_;rintro e w2 ⟨rfl,hf2⟩)
   | (go_at_call 108;refine(HWr _ (by assumption)).mono ?_;rintro e w3 ⟨rfl,rfl⟩))
  refine⟨rfl,?_⟩
  rw[ho]
  exact⟨_,rfl,(LkNo.then hz' hf1 ((hS1.out.keep E (by assumption)).no.from (by assumption))).from hfA⟩
 ·have ho:popF K.p K.k f.stack t=some rR9:=hp.out.trans (if_pos rfl)
  go_wp2_with (go_at_call 176;refine(HM _ (Fr.refl _ _)).mono ?_;rintro e w2 ⟨rfl,hf2⟩)
  go_end0
  rw[ho]
  exact⟨rfl,(hOk0.out.to E hf2).from hfA⟩
end Go.Proofs.YthembcdcdnffeaaGreat
