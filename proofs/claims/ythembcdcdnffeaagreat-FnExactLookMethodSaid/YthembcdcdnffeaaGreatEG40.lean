/- The program's verifier: a place is taken, or put. -/
import Derived.Test.YthembcdcdnffeaaGreatEG39
set_option maxHeartbeats 8000000
set_option maxRecDepth 100000
namespace Go.Proofs.YthembcdcdnffeaaGreat
open Go.RowKit
theorem zcX.get {w:World} {e:TypeId} {v:Value} {xs:List Tag} (h:zcX w e v xs) {a:Nat} (ha:a<xs.length):∃g c,v=.slice (some ⟨g,0,none⟩) xs.length c∧zcP v=some g∧xs.length≤c∧c≤maxLen ∧
  w.cell? ⟨g,a * 2,none⟩=some (.int .i64 xs[a].kind)∧w.cell? ⟨g,a * 2+1,none⟩=some (.string xs[a].name)∧xs[a].name.size≤maxLen:=by
 obtain⟨h,hn⟩:=h
 obtain⟨g,c,cur,rfl,h1,h2,_,_,_,hq⟩:=h.at_ (by omega)
 refine⟨g,c,rfl,hq,h1,h2,?_,?_,hn _ (List.getElem_mem ha)⟩
 ·rw[h.cell rfl (by omega)];exact zcV xs a ha 0 (by decide)
 ·rw[h.cell rfl (by omega)];exact zcV xs a ha 1 (by decide)
theorem zmL (K:LkP) (E:LkE K) (n:Nat) (Z:Nat->Prop) (j:Int) (f:Frm) (vl vs:Value) (w:World) (h:LkS K n Z j f vl vs w) (hj:0≤j) (hj2:j<1000) (i:Ins) (ha0:0≤i.a) (ha1:i.a<K.m.locals):
  Calls Tryz.prog 92 #[.pointer (some ⟨K.kb,0,none⟩),.agg #[.int .i64 i.op,.int .i64 i.a,.string i.name,.string i.member]] w (ze0 K n Z j (if (f.locals.getD i.a.toNat noT).kind=0 then none else (zcE K.m.stack f.stack (f.locals.getD i.a.toNat noT)).map (⟨f.locals,·⟩)) w):=by
 obtain⟨iop,ia,inm,imb⟩:=i
 dsimp only at ha0 ha1 ⊢
 obtain⟨a,rfl⟩:∃a:Nat,ia=a:=⟨ia.toNat,by omega⟩
 have ha:a<f.locals.length:=by have:=h.ll;omega
 have hl6:=E.locals_le
 have hx0:f.locals.getD (a:Int).toNat noT=f.locals[a]:=by simp[ha]
 rw[hx0]
 clear hx0
 obtain⟨wA,hwA⟩:∃wA,wA=(w.alloc (.cells #[.int .i64 iop,.int .i64 a,.string inm,.string imb] 101)):=⟨_,rfl⟩
 have hfA:Fr No w wA:=hwA▸frc
 have B0:=(hwA▸bxc:Bx wA w.heap.size 101 #[.int .i64 iop,.int .i64 a,.string inm,.string imb])
 have hA:=h.keep E hfA
 have hkl:=h.lt h.zkb
 have hll:=h.ll
 obtain⟨g,c,rfl,hq,hc1,hc2,t0,t1,hxn⟩:=hA.loc.get ha
 have KC:=hA.cells
 have K0:=B0.r4
 have KT0:=cr t0
 have KT1:=cr t1
 have hlen:f.locals.length≤1000:=by omega
 clear t0 t1
 generalize f.locals[a]=x at *
 replace hA:=Lib.hid hA
 replace h:=Lib.hid h
 replace hll:=Lib.hid hll
 have HP:=fun W (hW:Fr No wA W)=>zdh K E n Z j f _ vs W (hA.out.keep E hW) hj hj2 x hxn
 have HW:=fun W (hW:Fr No wA W)=>zdf K n Z j f _ vs W (hA.out.keep E hW) hj hj2
 have hN:=fun W (hW:Fr No wA W)=>(((hA.out.keep E hW).no).from hW).from hfA
 have hcase:(x.kind=0∧Hid (x.kind=0))∨(¬x.kind=0∧zcE K.m.stack f.stack x=none)∨∃s,¬x.kind=0∧zcE K.m.stack f.stack x=some s:=by
  by_cases hk:x.kind=0
  ·exact .inl ⟨hk,hk⟩
  ·cases hp:zcE K.m.stack f.stack x with
   | none=>exact .inr (.inl ⟨hk,rfl⟩)
   | some s=>exact .inr (.inr ⟨s,hk,rfl⟩)
 rcases hcase with ⟨hk,hk0⟩ | ⟨hk,hp⟩ | ⟨s,hk,hp⟩
 ·rw[if_pos hk]
  have hk2:(x.kind == 0)=true:=by simpa using hk
  replace hk:=Lib.hid hk
  clear hk0
  go_enter Tryz.func92,Tryz.ntmps92
  go_wp2_with fail
  rw[<-hwA]
  replace hwA:=Lib.hid hwA
  refine zn0 9 13 [mV (.pointer (some ⟨K.kb,0,none⟩)),mV (.pointer (some ⟨K.kb,0,none⟩)),mV (.pointer (some ⟨K.kb,11,none⟩)),mV (.slice (some ⟨g,0,none⟩) f.locals.length c),mV (.pointer (some ⟨w.heap.size,1,none⟩)),mV (.int .i64 a),mV (.pointer (some ⟨g,a * 2,none⟩)),mV (.agg #[.int .i64 x.kind,.string x.name]),mB 116 (#[.int .i64 0,.string ⟨#[]⟩]) wA.heap.size] (by kernel_rfl) (by kernel_rfl) (by simp) ?_ ?_
  ·refine hc4 ?_ ?_ ?_ ?_ <| hc4 ?_ ?_ ?_ ?_ <| hopC ?_ <| hopZ
   all_goals (intro a' W hW hoff hdep;have hbs:=hW.size;have H0:=hoff 0 rfl;have H3:=hoff 3 rfl;refine nE rfl ?_)
   ·simp[execOp,Act.eval,H0,go_sem,zaa];exact fr1 rfl
   ·have D5:_=_:=hdep 0 5 rfl;simp[execOp,Act.eval,D5,go_sem,zaa];exact fr1 rfl
   ·have D6:_=_:=hdep 1 6 rfl;simp[execOp,Act.eval,D6,go_sem,zaa];exact fr1 rfl
   ·have D7:_=_:=hdep 2 7 rfl;clear hoff hdep;simp[execOp,Act.eval,go_sem,zaa, *];exact fr1 rfl
   ·simp[execOp,Act.eval,H3,go_sem,zaa];exact fr1 rfl
   ·have D9:_=_:=hdep 4 9 rfl;clear hoff hdep;simp[execOp,Act.eval,go_sem,zaa, *];exact fr1 rfl
   ·have D8:_=_:=hdep 3 8 rfl;have D10:_=_:=hdep 5 10 rfl;clear hoff hdep;simp[execOp,Act.eval,go_sem,zaa, *];exact fr1 rfl
   ·have D11:_=_:=hdep 6 11 rfl;clear hoff hdep;simp[execOp,Act.eval,go_sem,zaa, *];exact fr1 rfl
   ·simp[execOp,go_sem,zaa];exact⟨(Fr.refl _ _).alloc _,⟨_,rfl,Bx.new_ rfl,hbs⟩,Nat.le_refl _⟩
  intro vs WR hWR hv hne
  obtain⟨b8,e8,hb8,hl8⟩:=hv 8 (by omega)
  simp only[lz6,List.drop_zero,znP,znK,znR,Nat.zero_add,Nat.reduceAdd,e8]
  simp only[Act.put,lz0,lz1,lz2]
  clear e8 hv
  obtain⟨y0,y1⟩:=hb8.c2
  have yf:=fun i=>hb8.frozen i
  have yl:=hb8.lt
  have hwr:Fr No wA ((WR.setCell ⟨b8,0,none⟩ (.int .i64 x.kind)).setCell ⟨b8,1,none⟩ (.string x.name)):=(hWR.setCell (p:=⟨b8,0,none⟩) hl8 _).setCell (p:=⟨b8,1,none⟩) hl8 _
  clear KC K0 KT0 KT1 hb8 hne
  go_wp2_with (go_at_call 108;refine(HW _ hwr).mono ?_;rintro e w4 ⟨rfl,rfl⟩)
  exact⟨rfl,_,rfl,hN _ hwr⟩
 ·rw[if_neg hk,hp,Option.map_none]
  have hk2:(x.kind == 0)=false:=by simpa using hk
  simp only[hp,Option.map_none] at HP
  go_enter Tryz.func92,Tryz.ntmps92
  go_wp2_with fail
  rw[<-hwA]
  replace hwA:=Lib.hid hwA
  refine zn0 9 13 [mV (.pointer (some ⟨K.kb,0,none⟩)),mV (.pointer (some ⟨K.kb,0,none⟩)),mV (.pointer (some ⟨K.kb,11,none⟩)),mV (.slice (some ⟨g,0,none⟩) f.locals.length c),mV (.pointer (some ⟨w.heap.size,1,none⟩)),mV (.int .i64 a),mV (.pointer (some ⟨g,a * 2,none⟩)),mV (.agg #[.int .i64 x.kind,.string x.name]),mB 116 (#[.int .i64 0,.string ⟨#[]⟩]) wA.heap.size] (by kernel_rfl) (by kernel_rfl) (by simp) ?_ ?_
  ·refine hc4 ?_ ?_ ?_ ?_ <| hc4 ?_ ?_ ?_ ?_ <| hopC ?_ <| hopZ
   all_goals (intro a' W hW hoff hdep;have hbs:=hW.size;have H0:=hoff 0 rfl;have H3:=hoff 3 rfl;refine nE rfl ?_)
   ·simp[execOp,Act.eval,H0,go_sem,zaa];exact fr1 rfl
   ·have D5:_=_:=hdep 0 5 rfl;simp[execOp,Act.eval,D5,go_sem,zaa];exact fr1 rfl
   ·have D6:_=_:=hdep 1 6 rfl;simp[execOp,Act.eval,D6,go_sem,zaa];exact fr1 rfl
   ·have D7:_=_:=hdep 2 7 rfl;clear hoff hdep;simp[execOp,Act.eval,go_sem,zaa, *];exact fr1 rfl
   ·simp[execOp,Act.eval,H3,go_sem,zaa];exact fr1 rfl
   ·have D9:_=_:=hdep 4 9 rfl;clear hoff hdep;simp[execOp,Act.eval,go_sem,zaa, *];exact fr1 rfl
   ·have D8:_=_:=hdep 3 8 rfl;have D10:_=_:=hdep 5 10 rfl;clear hoff hdep;simp[execOp,Act.eval,go_sem,zaa, *];exact fr1 rfl
   ·have D11:_=_:=hdep 6 11 rfl;clear hoff hdep;simp[execOp,Act.eval,go_sem,zaa, *];exact fr1 rfl
   ·simp[execOp,go_sem,zaa];exact⟨(Fr.refl _ _).alloc _,⟨_,rfl,Bx.new_ rfl,hbs⟩,Nat.le_refl _⟩
  intro vs WR hWR hv hne
  obtain⟨b8,e8,hb8,hl8⟩:=hv 8 (by omega)
  simp only[lz6,List.drop_zero,znP,znK,znR,Nat.zero_add,Nat.reduceAdd,e8]
  simp only[Act.put,lz0,lz1,lz2]
  clear e8 hv
  obtain⟨y0,y1⟩:=hb8.c2
  have yf:=fun i=>hb8.frozen i
  have yl:=hb8.lt
  have hwr:Fr No wA ((WR.setCell ⟨b8,0,none⟩ (.int .i64 x.kind)).setCell ⟨b8,1,none⟩ (.string x.name)):=(hWR.setCell (p:=⟨b8,0,none⟩) hl8 _).setCell (p:=⟨b8,1,none⟩) hl8 _
  clear KC K0 KT0 KT1 hb8 hne
  go_wp2_with (go_at_call 140;refine(HP _ hwr).mono ?_;rintro e w4 ⟨c,rfl,hNN⟩)
  exact⟨rfl,c,rfl,(hNN.from hwr).from hfA⟩
 ·rw[if_neg hk,hp,Option.map_some]
  have hk2:(x.kind == 0)=false:=by simpa using hk
  simp only[hp,Option.map_some] at HP
  go_enter Tryz.func92,Tryz.ntmps92
  go_wp2_with fail
  rw[<-hwA]
  replace hwA:=Lib.hid hwA
  refine zn0 9 13 [mV (.pointer (some ⟨K.kb,0,none⟩)),mV (.pointer (some ⟨K.kb,0,none⟩)),mV (.pointer (some ⟨K.kb,11,none⟩)),mV (.slice (some ⟨g,0,none⟩) f.locals.length c),mV (.pointer (some ⟨w.heap.size,1,none⟩)),mV (.int .i64 a),mV (.pointer (some ⟨g,a * 2,none⟩)),mV (.agg #[.int .i64 x.kind,.string x.name]),mB 116 (#[.int .i64 0,.string ⟨#[]⟩]) wA.heap.size] (by kernel_rfl) (by kernel_rfl) (by simp) ?_ ?_
  ·refine hc4 ?_ ?_ ?_ ?_ <| hc4 ?_ ?_ ?_ ?_ <| hopC ?_ <| hopZ
   all_goals (intro a' W hW hoff hdep;have hbs:=hW.size;have H0:=hoff 0 rfl;have H3:=hoff 3 rfl;refine nE rfl ?_)
   ·simp[execOp,Act.eval,H0,go_sem,zaa];exact fr1 rfl
   ·have D5:_=_:=hdep 0 5 rfl;simp[execOp,Act.eval,D5,go_sem,zaa];exact fr1 rfl
   ·have D6:_=_:=hdep 1 6 rfl;simp[execOp,Act.eval,D6,go_sem,zaa];exact fr1 rfl
   ·have D7:_=_:=hdep 2 7 rfl;clear hoff hdep;simp[execOp,Act.eval,go_sem,zaa, *];exact fr1 rfl
   ·simp[execOp,Act.eval,H3,go_sem,zaa];exact fr1 rfl
   ·have D9:_=_:=hdep 4 9 rfl;clear hoff hdep;simp[execOp,Act.eval,go_sem,zaa, *];exact fr1 rfl
   ·have D8:_=_:=hdep 3 8 rfl;have D10:_=_:=hdep 5 10 rfl;clear hoff hdep;simp[execOp,Act.eval,go_sem,zaa, *];exact fr1 rfl
   ·have D11:_=_:=hdep 6 11 rfl;clear hoff hdep;simp[execOp,Act.eval,go_sem,zaa, *];exact fr1 rfl
   ·simp[execOp,go_sem,zaa];exact⟨(Fr.refl _ _).alloc _,⟨_,rfl,Bx.new_ rfl,hbs⟩,Nat.le_refl _⟩
  intro vs WR hWR hv hne
  obtain⟨b8,e8,hb8,hl8⟩:=hv 8 (by omega)
  simp only[lz6,List.drop_zero,znP,znK,znR,Nat.zero_add,Nat.reduceAdd,e8]
  simp only[Act.put,lz0,lz1,lz2]
  clear e8 hv
  obtain⟨y0,y1⟩:=hb8.c2
  have yf:=fun i=>hb8.frozen i
  have yl:=hb8.lt
  have hwr:Fr No wA ((WR.setCell ⟨b8,0,none⟩ (.int .i64 x.kind)).setCell ⟨b8,1,none⟩ (.string x.name)):=(hWR.setCell (p:=⟨b8,0,none⟩) hl8 _).setCell (p:=⟨b8,1,none⟩) hl8 _
  clear KC K0 KT0 KT1 hb8 hne
  go_wp2_with (go_at_call 140;refine(HP _ hwr).mono ?_;rintro e w4 ⟨rfl,hOk⟩)
  go_end0
  exact⟨rfl,(hOk.from hwr).from hfA⟩
theorem zmM {K:LkP} {n:Nat} {Z:Nat->Prop} {j:Int} {f:Frm} {g:Tag×List Tag->Frm} {c:List PanicEntry} {a:Act} {w wA W:World} (ha:Fr No w wA) (hd:a.defers=[]) (h:TkN K n Z j f wA c W):a.defers=[]∧ze0 K n Z j ((zcD f.stack).map g) w (.panicked c) W:=by
 refine⟨hd,?_⟩
 rw[h.1]
 exact⟨c,rfl,h.2.from ha⟩
theorem zmN (K:LkP) (E:LkE K) (n:Nat) (Z:Nat->Prop) (j:Int) (f:Frm) (vl vs:Value) (w:World) (h:LkS K n Z j f vl vs w) (hj:0≤j) (hj2:j<1000) (i:Ins) (ha0:0≤i.a) (ha1:i.a<K.m.locals):
  Calls Tryz.prog 93 #[.pointer (some ⟨K.kb,0,none⟩),.agg #[.int .i64 i.op,.int .i64 i.a,.string i.name,.string i.member]] w (ze0 K n Z j ((zcD f.stack).map (fun x=>⟨f.locals.set i.a.toNat x.1,x.2⟩)) w):=by
 obtain⟨iop,ia,inm,imb⟩:=i
 dsimp only at ha0 ha1 ⊢
 obtain⟨a,rfl⟩:∃a:Nat,ia=a:=⟨ia.toNat,by omega⟩
 have ha:a<f.locals.length:=by have:=h.ll;omega
 have hl6:=E.locals_le
 rw[show(a:Int).toNat=a by omega]
 obtain⟨wA,hwA⟩:∃wA,wA=(w.alloc (.cells #[.int .i64 iop,.int .i64 a,.string inm,.string imb] 101)):=⟨_,rfl⟩
 have hfA:Fr No w wA:=hwA▸frc
 have B0:=(hwA▸bxc:Bx wA w.heap.size 101 #[.int .i64 iop,.int .i64 a,.string inm,.string imb])
 have hA:=h.keep E hfA
 have hkl:=h.lt h.zkb
 have hll:=h.ll
 obtain⟨g,c,rfl,hq,hc1,hc2,t0,t1,hxn⟩:=hA.loc.get ha
 have hlen:f.locals.length≤1000:=by omega
 clear t0 t1
 have hZ0:¬Z w.heap.size:=fun hz=>by have:=h.lt hz;omega
 have HT:=fun W (hW:Fr No wA W)=>zdg K E n Z j f _ vs W (hA.keep E hW) hj hj2
 obtain⟨G,hG,hGs,KC⟩:∃G:World->Prop,(∀W,(Fr No wA W∨TkC K n Z j f (.slice (some ⟨g,0,none⟩) f.locals.length c) wA W)->G W)∧(∀W,G W->wA.heap.size≤W.heap.size) ∧
   (∀W,G W->W.cell? ⟨K.kb,11,none⟩=some (.slice (some ⟨g,0,none⟩) f.locals.length c)∧K.kb<W.heap.size∧W.cell? ⟨w.heap.size,1,none⟩=some (.int .i64 a)∧w.heap.size<W.heap.size):=by
  refine⟨fun W=>Fr No wA W∨TkC K n Z j f (.slice (some ⟨g,0,none⟩) f.locals.length c) wA W,fun _ h=>h,fun W hW=>?_,fun W hW=>?_⟩
  ·rcases hW with hW | ⟨_,_,_,⟨_,_,_,_,_,_,hW⟩,_⟩<;>exact hW.size
  ·rcases hW with hW | ⟨_,_,_,⟨_,_,_,hS,_,_,hW⟩,hc⟩
   ·obtain⟨_,_,_,_,_,_,_,_,c11,_,_,hl⟩:=hA.cells W hW
    obtain⟨b0,b1,_⟩:=(B0.keep hW).c4
    exact⟨c11,hl,b1,(B0.keep hW).lt⟩
   ·obtain⟨_,_,_,_,_,_,_,_,_,_,_,hl⟩:=hS.cells W (Fr.refl _ _)
    obtain⟨b0,b1,_⟩:=(B0.keepX hW hZ0).c4
    exact⟨hc,hl,b1,(B0.keepX hW hZ0).lt⟩
 replace h:=Lib.hid h
 replace hA:=Lib.hid hA
 replace hll:=Lib.hid hll
 go_enter Tryz.func93,Tryz.ntmps93
 go_wp2_with fail
 rw[<-hwA]
 replace hwA:=Lib.hid hwA
 refine zn2 8 12 [mV (.pointer (some ⟨K.kb,0,none⟩)),mV (.pointer (some ⟨K.kb,0,none⟩)),mV (.pointer (some ⟨K.kb,11,none⟩)),mV (.slice (some ⟨g,0,none⟩) f.locals.length c),mV (.pointer (some ⟨w.heap.size,1,none⟩)),mV (.int .i64 a),mV (.pointer (some ⟨K.kb,0,none⟩)),mC (TkV f) (TkV.mono f)] 7 (TkN K n Z j f wA) (TkC K n Z j f (.slice (some ⟨g,0,none⟩) f.locals.length c) wA) (Fr Z) (by kernel_rfl) (by kernel_rfl) (by simp) (fun W W' h hf=>h.to E hf) ?_ ?_ ?_ ?_ ?_
 ·exact fun v W W' hs=>hSV <| hSV <| hSV <| hSV <| hSV <| hSV <| hSV <| hopZ
 ·refine hc4 ?_ ?_ ?_ ?_ <| hopC ?_ <| hopC ?_ <| hopC ?_ <| hopZ
  all_goals (intro a' W hW hoff hdep;replace hW:=hG _ hW;have hbs:=hGs _ hW;have H0:=hoff 0 rfl;have H3:=hoff 3 rfl;refine nE rfl ?_)
  ·simp[execOp,Act.eval,H0,go_sem,zaa];exact fr1 rfl
  ·have D4:_=_:=hdep 0 4 rfl;simp[execOp,Act.eval,D4,go_sem,zaa];exact fr1 rfl
  ·have D5:_=_:=hdep 1 5 rfl;simp[execOp,Act.eval,D5,go_sem,zaa];exact fr1 rfl
  ·have D6:_=_:=hdep 2 6 rfl;clear hoff hdep;simp[execOp,Act.eval,go_sem,zaa, *];exact fr1 rfl
  ·simp[execOp,Act.eval,H3,go_sem,zaa];exact fr1 rfl
  ·have D8:_=_:=hdep 4 8 rfl;clear hoff hdep;simp[execOp,Act.eval,go_sem,zaa, *];exact fr1 rfl
  ·simp[execOp,Act.eval,H0,go_sem,zaa];exact fr1 rfl
 ·intro o r ho hr a' W hW hoff hdep
  have hbs:=hW.size
  cases ho;cases hr
  have D10:_=_:=hdep 6 10 rfl
  simp[Act.eval,D10,go_sem,zlP]
  exact(HT _ hW).mono (fun e w' h=>zdj hA.out hW h)
 ·intro c a' W hd hN;exact zmM hfA hd hN
 intro vs WR hWR hv hne
 replace hWR:=hWR.resolve_left (fun h=>absurd h.1 (by decide))
 obtain⟨xR7,rR7,hxR7,e7,hxnR7⟩:=hv 7 (by omega)
 simp only[lz6,List.drop_zero,znM,znK,znR,Nat.zero_add,Nat.reduceAdd,e7]
 simp only[Act.put,lz0,lz1,lz2]
 clear e7 hv
 obtain⟨x,r,hx,hOk,hc11⟩:=hWR
 rw[hx] at hxR7
 cases hxR7
 obtain⟨Z',vl',vs',hS1,hz,hz',hf1⟩:=hOk
 have hvl:vl'=.slice (some ⟨g,0,none⟩) f.locals.length c:=by
  have:=hS1.box.cell 11
  rw[hc11] at this
  exact(Option.some.inj this).symm
 subst hvl
 obtain⟨g',c',he,_,_,_,u0,u1,_⟩:=hS1.loc.get (a:=a) ha
 cases he
 have uf:∀q,WR.frozen? ⟨g,q,none⟩=false:=fun q=>by
  obtain⟨g9,c9,cur,he,_,_,hb,_⟩:=hS1.loc.1.at_ (by show 0<f.locals.length;omega)
  cases he
  exact hb.frozen q
 have ul:=lt_of_cell u0
 have hset:=hS1.setLoc (i:=a) E ha hxnR7
 have hfin:=Lib.hid ((LkOk.then hz hz' hf1 hset).from hfA)
 clear KC HT hne hS1 hset hG hGs
 go_wp2
 go_end0
 rw[hx]
 exact⟨rfl,hfin.out⟩
theorem zmO (K:LkP) (E:LkE K) (n:Nat) (Z0:Nat->Prop) (j:Int) (f:Frm) (vl vs:Value) (w:World) (h:LkS K n Z0 j f vl vs w) (hj:0≤j) (hj2:j<1000) (i:Ins) (h1:i.name.size≤maxLen) (h2:i.member.size≤maxLen) (hn:n<999999):
  Calls Tryz.prog 97 #[.pointer (some ⟨K.kb,0,none⟩),.agg #[.int .i64 i.op,.int .i64 i.a,.string i.name,.string i.member]] w (ze0 K (n+2) Z0 j (if (getB K.p K.k i.name i.member).2=1 then ((popF K.p K.k f.stack (clsT i.name)).bind fun s=>zcE K.m.stack s (zel (getB K.p K.k i.name i.member).1.kind)).map (⟨f.locals,·⟩) else none) w):=by
 obtain⟨wA,hwA⟩:∃wA,wA=(w.alloc (.cells #[.int .i64 i.op,.int .i64 i.a,.string i.name,.string i.member] 101)):=⟨_,rfl⟩
 have hfA:Fr No w wA:=hwA▸frc
 have B0:=(hwA▸bxc:Bx wA w.heap.size 101 #[.int .i64 i.op,.int .i64 i.a,.string i.name,.string i.member])
 have hZ0:¬Z0 w.heap.size:=fun hz=>by have:=h.lt hz;omega
 have hw0:Fr No wA (w.alloc (.cells #[.int .i64 i.op,.int .i64 i.a,.string i.name,.string i.member] 101)):=by rw[hwA];exact Fr.refl _ _
 have hS0:=Lib.hid (h.keep E hfA)
 have HF:=fun W (hW:Fr No wA W)=>zls K E n Z0 j f vl vs W (hS0.out.keep E hW) hj hj2 i h1 h2 hn
 have hqs:=(zlo E.okp (K.k:Int) i.name i.member).2
 have hz0:∀b,Z0 b->Z0 b:=fun _ h=>h
 have hy0:∀b,Z0 b->Z0 b∨wA.heap.size≤b:=fun _ h=>.inl h
 have hf0:Fr Z0 wA wA:=Fr.refl _ _
 unfold zlp at HF
 generalize getB K.p K.k i.name i.member=q at *
 clear h
 by_cases hq:q.2=1
 ·simp only[hq,if_true] at HF
  rw[if_pos hq]
  cases g2:popF K.p K.k f.stack (clsT i.name) with
  | none=>
   simp only[Option.bind_none,Option.map_none]
   go_enter Tryz.func97,Tryz.ntmps97
   go_wp2_with (first|(go_at_call 143;refine(zdk K E (n+2) Z1 j f _ _ _ (hS1.out.keep E frc) hj hj2 (clsT i.name) h1).mono ?_;simp only[g2,Option.map_none];rintro e wN ⟨c,rfl,hN⟩)|(go_at_call 144;refine(HF _ hw0).mono ?_;rintro e w1 ⟨rfl,hOk⟩;obtain⟨Z1,vl1,vs1,hS1,hz1,hy1,hf1⟩:=LkOk.then hz0 hy0 hf0 (hOk.from hw0);clear hOk;replace hS1:=Lib.hid hS1;have hB:=B0.keepX hf1 hZ0;obtain⟨p0,p1,p2,p3⟩:=hB.c4;have pl:=hB.lt;have HB1:Bx (w1.alloc (.cells #[.int .i64 q.1.of_.keeper,.string q.1.of_.name,.int .i64 q.1.at_,.int .i64 q.1.kind.kind,.string q.1.kind.name] 178)) w1.heap.size 178 #[.int .i64 q.1.of_.keeper,.string q.1.of_.name,.int .i64 q.1.at_,.int .i64 q.1.kind.kind,.string q.1.kind.name]:=bxc;have hZ1:¬Z1 w1.heap.size:=(fun hz=>by have:=hS1.out.lt hz;omega);unfold lfV)|(go_at_call 59;refine(zet _ _).mono ?_;rintro e w' ⟨rfl,hg⟩)|(go_at_call 60;refine(zkL q.1.kind _ hqs).mono ?_;rintro e w' ⟨rfl,hg⟩))
   exact⟨rfl,c,rfl,(LkNo.then hy1 hf1 (hN.from frc)).from hfA⟩
  | some s2=>
   cases g3:zcE K.m.stack s2 (zel q.1.kind) with
   | none=>
    simp only[g3,Option.bind_some,Option.map_none]
    go_enter Tryz.func97,Tryz.ntmps97
    go_wp2_with (first|(go_at_call 140;refine(zdh K E (n+2) Z2 j ⟨f.locals,s2⟩ _ _ _ (hS2.out.keep E frc) hj hj2 (zel q.1.kind) (zer hqs)).mono ?_;simp only[g3,Option.map_none];rintro e wN ⟨c,rfl,hN⟩)|(go_at_call 143;refine(zdk K E (n+2) Z1 j f _ _ _ (hS1.out.keep E frc) hj hj2 (clsT i.name) h1).mono ?_;simp only[g2,Option.map_some];rintro e w2 ⟨rfl,hOk⟩;have hOkk:=hOk;obtain⟨_,_,_,_,_,_,hfl⟩:=hOkk;obtain⟨Z2,vl2,vs2,hS2,hz2,hy2,hf2⟩:=LkOk.then hz1 hy1 hf1 (hOk.from frc);replace hS2:=Lib.hid hS2;have hB:=B0.keepX hf2 hZ0;obtain⟨p0,p1,p2,p3⟩:=hB.c4;have pl:=hB.lt;clear hOk;have hB1:=Bx.keepX (HB1.keep frc) hfl hZ1;obtain⟨r0,r1,r2,r3,r4⟩:=hB1.c5;have rl:=hB1.lt)|(go_at_call 144;refine(HF _ hw0).mono ?_;rintro e w1 ⟨rfl,hOk⟩;obtain⟨Z1,vl1,vs1,hS1,hz1,hy1,hf1⟩:=LkOk.then hz0 hy0 hf0 (hOk.from hw0);clear hOk;replace hS1:=Lib.hid hS1;have hB:=B0.keepX hf1 hZ0;obtain⟨p0,p1,p2,p3⟩:=hB.c4;have pl:=hB.lt;have HB1:Bx (w1.alloc (.cells #[.int .i64 q.1.of_.keeper,.string q.1.of_.name,.int .i64 q.1.at_,.int .i64 q.1.kind.kind,.string q.1.kind.name] 178)) w1.heap.size 178 #[.int .i64 q.1.of_.keeper,.string q.1.of_.name,.int .i64 q.1.at_,.int .i64 q.1.kind.kind,.string q.1.kind.name]:=bxc;have hZ1:¬Z1 w1.heap.size:=(fun hz=>by have:=hS1.out.lt hz;omega);unfold lfV)|(go_at_call 59;refine(zet _ _).mono ?_;rintro e w' ⟨rfl,hg⟩)|(go_at_call 60;refine(zkL q.1.kind _ hqs).mono ?_;rintro e w' ⟨rfl,hg⟩))
    exact⟨rfl,c,rfl,(LkNo.then hy2 hf2 (hN.from frc)).from hfA⟩
   | some s3=>
    simp only[g3,Option.bind_some,Option.map_some]
    go_enter Tryz.func97,Tryz.ntmps97
    go_wp2_with (first|(go_at_call 140;refine(zdh K E (n+2) Z2 j ⟨f.locals,s2⟩ _ _ _ (hS2.out.keep E frc) hj hj2 (zel q.1.kind) (zer hqs)).mono ?_;simp only[g3,Option.map_some];rintro e w3 ⟨rfl,hOk⟩;have hOkk:=hOk;obtain⟨_,_,_,_,_,_,hfl⟩:=hOkk;obtain⟨Z3,vl3,vs3,hS3,hz3,hy3,hf3⟩:=LkOk.then hz2 hy2 hf2 (hOk.from frc);replace hS3:=Lib.hid hS3;have hB:=B0.keepX hf3 hZ0;obtain⟨p0,p1,p2,p3⟩:=hB.c4;have pl:=hB.lt;clear hOk)|(go_at_call 143;refine(zdk K E (n+2) Z1 j f _ _ _ (hS1.out.keep E frc) hj hj2 (clsT i.name) h1).mono ?_;simp only[g2,Option.map_some];rintro e w2 ⟨rfl,hOk⟩;have hOkk:=hOk;obtain⟨_,_,_,_,_,_,hfl⟩:=hOkk;obtain⟨Z2,vl2,vs2,hS2,hz2,hy2,hf2⟩:=LkOk.then hz1 hy1 hf1 (hOk.from frc);replace hS2:=Lib.hid hS2;have hB:=B0.keepX hf2 hZ0;obtain⟨p0,p1,p2,p3⟩:=hB.c4;have pl:=hB.lt;clear hOk;have hB1:=Bx.keepX (HB1.keep frc) hfl hZ1;obtain⟨r0,r1,r2,r3,r4⟩:=hB1.c5;have rl:=hB1.lt)|(go_at_call 144;refine(HF _ hw0).mono ?_;rintro e w1 ⟨rfl,hOk⟩;obtain⟨Z1,vl1,vs1,hS1,hz1,hy1,hf1⟩:=LkOk.then hz0 hy0 hf0 (hOk.from hw0);clear hOk;replace hS1:=Lib.hid hS1;have hB:=B0.keepX hf1 hZ0;obtain⟨p0,p1,p2,p3⟩:=hB.c4;have pl:=hB.lt;have HB1:Bx (w1.alloc (.cells #[.int .i64 q.1.of_.keeper,.string q.1.of_.name,.int .i64 q.1.at_,.int .i64 q.1.kind.kind,.string q.1.kind.name] 178)) w1.heap.size 178 #[.int .i64 q.1.of_.keeper,.string q.1.of_.name,.int .i64 q.1.at_,.int .i64 q.1.kind.kind,.string q.1.kind.name]:=bxc;have hZ1:¬Z1 w1.heap.size:=(fun hz=>by have:=hS1.out.lt hz;omega);unfold lfV)|(go_at_call 59;refine(zet _ _).mono ?_;rintro e w' ⟨rfl,hg⟩)|(go_at_call 60;refine(zkL q.1.kind _ hqs).mono ?_;rintro e w' ⟨rfl,hg⟩))
    go_end0
    exact⟨rfl,(show LkOk K (n+2) Z0 j ⟨f.locals,s3⟩ wA w3 from⟨Z3,vl3,vs3,hS3.out,hz3,hy3,hf3⟩).from hfA⟩
 ·simp only[hq,if_false] at HF
  rw[if_neg hq]
  go_enter Tryz.func97,Tryz.ntmps97
  go_wp2_with (go_at_call 144;refine(HF _ hw0).mono ?_;rintro e wN ⟨c,rfl,hN⟩)
  exact⟨rfl,c,rfl,(LkNo.then hy0 hf0 (hN.from hw0)).from hfA⟩
theorem zmP (K:LkP) (E:LkE K) (n:Nat) (Z0:Nat->Prop) (j:Int) (f:Frm) (vl vs:Value) (w:World) (h:LkS K n Z0 j f vl vs w) (hj:0≤j) (hj2:j<1000) (i:Ins) (h1:i.name.size≤maxLen) (h2:i.member.size≤maxLen) (hn:n<999999):
  Calls Tryz.prog 98 #[.pointer (some ⟨K.kb,0,none⟩),.agg #[.int .i64 i.op,.int .i64 i.a,.string i.name,.string i.member]] w (ze0 K (n+2) Z0 j (if (getB K.p K.k i.name i.member).2=1 then ((popF K.p K.k f.stack (zel (getB K.p K.k i.name i.member).1.kind)).bind fun s=>popF K.p K.k s (clsT i.name)).map (⟨f.locals,·⟩) else none) w):=by
 obtain⟨wA,hwA⟩:∃wA,wA=(w.alloc (.cells #[.int .i64 i.op,.int .i64 i.a,.string i.name,.string i.member] 101)):=⟨_,rfl⟩
 have hfA:Fr No w wA:=hwA▸frc
 have B0:=(hwA▸bxc:Bx wA w.heap.size 101 #[.int .i64 i.op,.int .i64 i.a,.string i.name,.string i.member])
 have hZ0:¬Z0 w.heap.size:=fun hz=>by have:=h.lt hz;omega
 have hw0:Fr No wA (w.alloc (.cells #[.int .i64 i.op,.int .i64 i.a,.string i.name,.string i.member] 101)):=by rw[hwA];exact Fr.refl _ _
 have hS0:=Lib.hid (h.keep E hfA)
 have HF:=fun W (hW:Fr No wA W)=>zls K E n Z0 j f vl vs W (hS0.out.keep E hW) hj hj2 i h1 h2 hn
 have hqs:=(zlo E.okp (K.k:Int) i.name i.member).2
 have hz0:∀b,Z0 b->Z0 b:=fun _ h=>h
 have hy0:∀b,Z0 b->Z0 b∨wA.heap.size≤b:=fun _ h=>.inl h
 have hf0:Fr Z0 wA wA:=Fr.refl _ _
 unfold zlp at HF
 generalize getB K.p K.k i.name i.member=q at *
 clear h
 by_cases hq:q.2=1
 ·simp only[hq,if_true] at HF
  rw[if_pos hq]
  cases g2:popF K.p K.k f.stack (zel q.1.kind) with
  | none=>
   simp only[Option.bind_none,Option.map_none]
   go_enter Tryz.func98,Tryz.ntmps98
   go_wp2_with (first|(go_at_call 143;refine(zdk K E (n+2) Z1 j f _ _ _ (hS1.out.keep E frc) hj hj2 (zel q.1.kind) (zer hqs)).mono ?_;simp only[g2,Option.map_none];rintro e wN ⟨c,rfl,hN⟩)|(go_at_call 144;refine(HF _ hw0).mono ?_;rintro e w1 ⟨rfl,hOk⟩;obtain⟨Z1,vl1,vs1,hS1,hz1,hy1,hf1⟩:=LkOk.then hz0 hy0 hf0 (hOk.from hw0);clear hOk;replace hS1:=Lib.hid hS1;have hB:=B0.keepX hf1 hZ0;obtain⟨p0,p1,p2,p3⟩:=hB.c4;have pl:=hB.lt;have HB1:Bx (w1.alloc (.cells #[.int .i64 q.1.of_.keeper,.string q.1.of_.name,.int .i64 q.1.at_,.int .i64 q.1.kind.kind,.string q.1.kind.name] 178)) w1.heap.size 178 #[.int .i64 q.1.of_.keeper,.string q.1.of_.name,.int .i64 q.1.at_,.int .i64 q.1.kind.kind,.string q.1.kind.name]:=bxc;have hZ1:¬Z1 w1.heap.size:=(fun hz=>by have:=hS1.out.lt hz;omega);unfold lfV)|(go_at_call 59;refine(zet _ _).mono ?_;rintro e w' ⟨rfl,hg⟩)|(go_at_call 60;refine(zkL q.1.kind _ hqs).mono ?_;rintro e w' ⟨rfl,hg⟩))
   exact⟨rfl,c,rfl,(LkNo.then hy1 hf1 (hN.from frc)).from hfA⟩
  | some s2=>
   cases g3:popF K.p K.k s2 (clsT i.name) with
   | none=>
    simp only[g3,Option.bind_some,Option.map_none]
    go_enter Tryz.func98,Tryz.ntmps98
    go_wp2_with (first|(go_at_call 143;refine(zdk K E (n+2) Z2 j ⟨f.locals,s2⟩ _ _ _ (hS2.out.keep E frc) hj hj2 (clsT i.name) h1).mono ?_;simp only[g3,Option.map_none];rintro e wN ⟨c,rfl,hN⟩)|(go_at_call 143;refine(zdk K E (n+2) Z1 j f _ _ _ (hS1.out.keep E frc) hj hj2 (zel q.1.kind) (zer hqs)).mono ?_;simp only[g2,Option.map_some];rintro e w2 ⟨rfl,hOk⟩;have hOkk:=hOk;obtain⟨_,_,_,_,_,_,hfl⟩:=hOkk;obtain⟨Z2,vl2,vs2,hS2,hz2,hy2,hf2⟩:=LkOk.then hz1 hy1 hf1 (hOk.from frc);replace hS2:=Lib.hid hS2;have hB:=B0.keepX hf2 hZ0;obtain⟨p0,p1,p2,p3⟩:=hB.c4;have pl:=hB.lt;clear hOk;have hB1:=Bx.keepX (HB1.keep frc) hfl hZ1;obtain⟨r0,r1,r2,r3,r4⟩:=hB1.c5;have rl:=hB1.lt)|(go_at_call 144;refine(HF _ hw0).mono ?_;rintro e w1 ⟨rfl,hOk⟩;obtain⟨Z1,vl1,vs1,hS1,hz1,hy1,hf1⟩:=LkOk.then hz0 hy0 hf0 (hOk.from hw0);clear hOk;replace hS1:=Lib.hid hS1;have hB:=B0.keepX hf1 hZ0;obtain⟨p0,p1,p2,p3⟩:=hB.c4;have pl:=hB.lt;have HB1:Bx (w1.alloc (.cells #[.int .i64 q.1.of_.keeper,.string q.1.of_.name,.int .i64 q.1.at_,.int .i64 q.1.kind.kind,.string q.1.kind.name] 178)) w1.heap.size 178 #[.int .i64 q.1.of_.keeper,.string q.1.of_.name,.int .i64 q.1.at_,.int .i64 q.1.kind.kind,.string q.1.kind.name]:=bxc;have hZ1:¬Z1 w1.heap.size:=(fun hz=>by have:=hS1.out.lt hz;omega);unfold lfV)|(go_at_call 59;refine(zet _ _).mono ?_;rintro e w' ⟨rfl,hg⟩)|(go_at_call 60;refine(zkL q.1.kind _ hqs).mono ?_;rintro e w' ⟨rfl,hg⟩))
    exact⟨rfl,c,rfl,(LkNo.then hy2 hf2 (hN.from frc)).from hfA⟩
   | some s3=>
    simp only[g3,Option.bind_some,Option.map_some]
    go_enter Tryz.func98,Tryz.ntmps98
    go_wp2_with (first|(go_at_call 143;refine(zdk K E (n+2) Z2 j ⟨f.locals,s2⟩ _ _ _ (hS2.out.keep E frc) hj hj2 (clsT i.name) h1).mono ?_;simp only[g3,Option.map_some];rintro e w3 ⟨rfl,hOk⟩;have hOkk:=hOk;obtain⟨_,_,_,_,_,_,hfl⟩:=hOkk;obtain⟨Z3,vl3,vs3,hS3,hz3,hy3,hf3⟩:=LkOk.then hz2 hy2 hf2 (hOk.from frc);replace hS3:=Lib.hid hS3;have hB:=B0.keepX hf3 hZ0;obtain⟨p0,p1,p2,p3⟩:=hB.c4;have pl:=hB.lt;clear hOk)|(go_at_call 143;refine(zdk K E (n+2) Z1 j f _ _ _ (hS1.out.keep E frc) hj hj2 (zel q.1.kind) (zer hqs)).mono ?_;simp only[g2,Option.map_some];rintro e w2 ⟨rfl,hOk⟩;have hOkk:=hOk;obtain⟨_,_,_,_,_,_,hfl⟩:=hOkk;obtain⟨Z2,vl2,vs2,hS2,hz2,hy2,hf2⟩:=LkOk.then hz1 hy1 hf1 (hOk.from frc);replace hS2:=Lib.hid hS2;have hB:=B0.keepX hf2 hZ0;obtain⟨p0,p1,p2,p3⟩:=hB.c4;have pl:=hB.lt;clear hOk;have hB1:=Bx.keepX (HB1.keep frc) hfl hZ1;obtain⟨r0,r1,r2,r3,r4⟩:=hB1.c5;have rl:=hB1.lt)|(go_at_call 144;refine(HF _ hw0).mono ?_;rintro e w1 ⟨rfl,hOk⟩;obtain⟨Z1,vl1,vs1,hS1,hz1,hy1,hf1⟩:=LkOk.then hz0 hy0 hf0 (hOk.from hw0);clear hOk;replace hS1:=Lib.hid hS1;have hB:=B0.keepX hf1 hZ0;obtain⟨p0,p1,p2,p3⟩:=hB.c4;have pl:=hB.lt;have HB1:Bx (w1.alloc (.cells #[.int .i64 q.1.of_.keeper,.string q.1.of_.name,.int .i64 q.1.at_,.int .i64 q.1.kind.kind,.string q.1.kind.name] 178)) w1.heap.size 178 #[.int .i64 q.1.of_.keeper,.string q.1.of_.name,.int .i64 q.1.at_,.int .i64 q.1.kind.kind,.string q.1.kind.name]:=bxc;have hZ1:¬Z1 w1.heap.size:=(fun hz=>by have:=hS1.out.lt hz;omega);unfold lfV)|(go_at_call 59;refine(zet _ _).mono ?_;rintro e w' ⟨rfl,hg⟩)|(go_at_call 60;refine(zkL q.1.kind _ hqs).mono ?_;rintro e w' ⟨rfl,hg⟩))
    go_end0
    exact⟨rfl,(show LkOk K (n+2) Z0 j ⟨f.locals,s3⟩ wA w3 from⟨Z3,vl3,vs3,hS3.out,hz3,hy3,hf3⟩).from hfA⟩
 ·simp only[hq,if_false] at HF
  rw[if_neg hq]
  go_enter Tryz.func98,Tryz.ntmps98
  go_wp2_with (go_at_call 144;refine(HF _ hw0).mono ?_;rintro e wN ⟨c,rfl,hN⟩)
  exact⟨rfl,c,rfl,(LkNo.then hy0 hf0 (hN.from hw0)).from hfA⟩
end Go.Proofs.YthembcdcdnffeaaGreat
