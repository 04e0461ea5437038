/- The law's walk: the program's PlanRight is the reference's, and the keepers stay as they were. -/
import Derived.Test.YthembcdcdnffeaaGreatDHPrr1
import Derived.Test.YthembcdcdnffeaaGreatDHPrr5
import Derived.Test.YthembcdcdnffeaaGreatDHPrrF
import Derived.ProofKit
import Derived.KernelRfl
import Derived.Below
import Derived.ChangeSame
import Derived.LaidMore
set_option maxHeartbeats 8000000
set_option maxRecDepth 100000
namespace Go.Proofs.YthembcdcdnffeaaGreat
open Go.RowKit Go.ChangeShapes Go.WideShapes Go.ChangeAt
theorem zor (p:Plan) (cs:List Value) (w:World) (h:zf9 No w cs p):
  Calls Tryz.prog 4 #[.agg cs.toArray] w (zgm true w):=by
 have hpk:=fun W (hW:Fr No w W)=>(by obtain⟨vk,rfl,h⟩:=h;exact⟨vk,rfl,h.keep hW (fun _ h=>h.elim) (fun _ _ _ h=>h.keep hW (fun _ h=>h.elim))⟩:zf9 No W cs p)
 have HZ:=fun W (hW:Fr No w W)=>zcc No p cs 1048576 W (hpk W hW) (by omega) (by omega)
 have HT:=fun W (hW:Fr No w W) (hs:zcb p≤1048576)=>zjl No p cs W (hpk W hW) hs
 clear hpk
 obtain⟨pvk,rfl,hk⟩:=h
 obtain⟨A,cap,rfl,_,_⟩:=hk.form
 clear hk
 obtain⟨wA,hwA⟩:∃wA,wA=(w.alloc (.cells #[.slice A p.keepers.length cap] 24)):=⟨_,rfl⟩
 have hfA:Fr No w wA:=hwA▸frc
 have K0:=(hwA▸bxc:Bx wA w.heap.size 24 #[.slice A p.keepers.length cap]).r1
 go_enter Tryz.func4,Tryz.ntmps4
 go_wp2_with fail
 rw[<-hwA]
 replace hwA:=Lib.hid hwA
 refine(HZ _ hfA).mono ?_
 rintro e w1 ⟨n1,rfl,hn1,hf1⟩
 have q1:Fr No wA w1:=frc
 by_cases hneg:n1<0
 ·go_wp2
  go_ret
  exact .mk rfl frc
 have hn1':=hn1.out
 have hsz:zcb p≤1048576:=by omega
 have HT:=fun W hW=>HT W hW hsz
 have HS:=fun pv W (h:Sl No W 2 (KprC No W) pv p.keepers)=>zoq p pv W h
 have HI:=fun pv W h=>zom p pv W h
 generalize zn7 p=R at *
 clear hn1 hn1' HZ hsz hf1
 obtain⟨x0,_,xl⟩:=K0 w1 q1
 go_wp2_with fail
 refine(HT _ (hfA.trans0 q1)).mono ?_
 rintro e w2 ⟨cs2,rfl,⟨vx2,rfl,hx2⟩,hf2⟩
 have q2:Fr No wA w2:=q1.trans0 hf2
 clear x0 xl
 go_wp2_with fail
 refine(HS _ _ (hx2.weaken (fun _ h=>h.elim) (fun _ _ _ h=>h.weaken (fun _ h=>h.elim)))).mono ?_
 rintro e w4 ⟨rfl,hf4⟩
 have q4:Fr No wA w4:=q2.trans0 hf4
 clear hx2
 obtain⟨x0,_,xl⟩:=K0 w4 q4
 go_wp2_with fail
 refine(HT _ (hfA.trans0 q4)).mono ?_
 rintro e w5 ⟨cs5,rfl,⟨vx,rfl,hx⟩,hf5⟩
 obtain⟨Ax,cx,rfl,_,_⟩:=hx.form
 have q5:Fr No wA w5:=q4.trans0 hf5
 obtain⟨w6,hw6⟩:∃w6,w6=w5.alloc (.cells #[.slice Ax p.keepers.length cx] 32):=⟨_,rfl⟩
 have hf6:Fr No w5 w6:=hw6▸(Fr.refl No w5).alloc _
 have hBx:Bx w6 w5.heap.size 32 #[.slice Ax p.keepers.length cx]:=hw6▸Bx.new_ rfl
 have hx6:=(hx.weaken (Y:=No) (fun _ h=>h.elim) (fun _ _ _ h=>h.weaken (fun _ h=>h.elim))).keep (R':=KprC No w6) hf6 (fun _ h=>h.elim) (fun _ _ _ h=>h.keep hf6 (fun _ h=>h.elim))
 have q6:Fr No wA w6:=q5.trans0 hf6
 have KX:=hBx.r1
 clear hx x0 xl
 go_wp2_with fail
 rw[<-hw6]
 clear hw6
 refine(HI _ _ hx6).mono ?_
 rintro e w9 ⟨rfl,hWR⟩
 have q9:Fr No wA w9:=q6.trans0 hWR
 have hbb:(R != R)=false:=by cases R<;>rfl
 have hx9:=hx6.keep (R':=KprC No w9) hWR (fun _ h=>h.elim) (fun _ _ _ h=>h.keep hWR (fun _ h=>h.elim))
 have KX':=fun W (h:Fr No w9 W)=>KX W (hWR.trans0 h)
 have K0':=fun W (h:Fr No w9 W)=>K0 W (q9.trans0 h)
 clear hx6 KX hWR
 go_wp2_with fail
 refine zn0 4 26 [mV (.agg #[.slice Ax p.keepers.length cx]),mV (.agg #[.slice A p.keepers.length cap]),mC (zhw p w9.heap.size) (zhx _ _),mV (.bool true)] (by kernel_rfl) (by kernel_rfl) (by simp) ?_ ?_
 ·refine hopC ?_ <| hopC ?_ <| hopC ?_ <| hopC ?_ <| hopZ
  all_goals (intro a' W hW hoff hdep;have hbs:=hW.size;have H5:=hoff 5 rfl;have H1:=hoff 1 rfl;refine nE rfl ?_)
  ·clear hoff hdep;simp[execOp,Act.eval,go_sem,zaa, *];exact fr1 rfl
  ·clear hoff hdep;simp[execOp,Act.eval,go_sem,zaa, *];exact fr1 rfl
  ·have D23:_=_:=hdep 1 23 rfl;simp[Act.eval,D23,go_sem,zaa];exact(HT _ (hfA.trans0 (q9.trans0 hW))).mono fun e w' h=>let ⟨v,h1,h2,h3⟩:=zhy h hbs;⟨v,h1,h2,h3⟩
  ·have D22:_=_:=hdep 0 22 rfl;obtain⟨vkp,D24,hk⟩:(zhw p w9.heap.size) _ W:=hdep 2 24 rfl;simp[Act.eval,D22,D24,go_sem,zaa];exact(zhv _ _ p _ _ W ⟨_,rfl,hx9.keep (R':=KprC No W) hW (fun _ h=>h.elim) (fun _ _ _ h=>h.keep hW (fun _ h=>h.elim))⟩ ⟨_,rfl,hk⟩).mono fun e w' h=>⟨_,h.1,h.2,rfl⟩
 intro vs WR hWR hv hne
 obtain⟨vkpR2,e2,hkR2⟩:=hv 2 (by omega)
 simp only[lz6,List.drop_zero,znM,znK,znR,Nat.zero_add,Nat.reduceAdd,e2]
 simp only[Act.put,lz0,lz1,lz2]
 clear e2 hv
 clear K0' KX' hkR2 hx9
 go_wp2
 go_ret
 exact .mk rfl (hfA.trans0 (q9.trans0 hWR))
theorem ziE {α:Type}:∀(n:Nat) (p:Nat->α->Prop),(∀i,i<n->∃a,p i a)->∃l:List α,l.length=n∧∀i (hi:i<l.length),p i l[i]
 | 0,_,_=>⟨[],rfl,fun i hi=>absurd hi (by simp)⟩
 | n+1,p,h=>by
  obtain⟨a,ha⟩:=h 0 (by omega)
  obtain⟨l,hl,hp⟩:=ziE n (fun i=>p (i+1)) (fun i hi=>h (i+1) (by omega))
  refine⟨a :: l,by simp[hl],fun i hi=>?_⟩
  cases i with
  | zero=>exact ha
  | succ j=>exact hp j (by simpa using hi)
theorem lst1 {l:List Value} (h:l.length=1):∃a,l=[a]:=by
 match l,h with
 | [a],_=>exact⟨a,rfl⟩
theorem lst2 {l:List Value} (h:l.length=2):∃a b,l=[a,b]:=by
 match l,h with
 | [a,b],_=>exact⟨a,b,rfl⟩
theorem lst3 {l:List Value} (h:l.length=3):∃a b c,l=[a,b,c]:=by
 match l,h with
 | [a,b,c],_=>exact⟨a,b,c,rfl⟩
theorem lst4 {l:List Value} (h:l.length=4):∃a b c d,l=[a,b,c,d]:=by
 match l,h with
 | [a,b,c,d],_=>exact⟨a,b,c,d,rfl⟩
theorem lst8 {l:List Value} (h:l.length=8):∃a b c d e f g i,l=[a,b,c,d,e,f,g,i]:=by
 match l,h with
 | [a,b,c,d,e,f,g,i],_=>exact⟨a,b,c,d,e,f,g,i,rfl⟩
theorem ziF {α:Type} {R:List Value->α->Prop} {H:Type} {enc:TypeId×Value->H} {P:Program} {W:World} {sp:Nat->Bool} {held:Bool} {t e:TypeId} {sz:Nat} {v:Value} {fuel:Nat} {x:DataW H×List MemPlace}
  (ht:P.underlying t=some (.slice e)) (hc:P.cellsOf e=sz) (hpos:0<sz) (hR:∀fuel cs (y:DataW H×List MemPlace),DataW.trod enc P W 0 sp held fuel e cs=some y->∃a,R cs a)
  (h:DataW.trod enc P W 0 sp held fuel t [v]=some x):∃xs:List α,Sl No W sz R v xs:=by
 rcases DataW.trod_slice ht h with ⟨hv,_⟩ | ⟨a,len,cap,elems,rest,n,_,hv,_,_,hlc,hcm,hel,he,_,_⟩
 ·obtain rfl:=(List.cons.inj hv).1
  exact⟨[],Sl.nil _ _ _ _⟩
 ·obtain rfl:=(List.cons.inj hv).1
  rw[hc] at he
  obtain⟨xs,hxl,hxs⟩:=ziE (α:=α) len (fun i y=>∃cs,R cs y∧cs.length=sz∧∀j,j<sz->W.cell? ((a.add (i * sz)).add j)=cs[j]?) (fun i hi=>by
   have h1:=he i hi
   rw[lz8 (show i<elems.length by omega),Option.bind_eq_some_iff] at h1
   obtain⟨cs,h2,h3⟩:=h1
   obtain⟨y,hy⟩:=hR _ _ _ h3
   obtain⟨_,h4,h5⟩:=World.cells?_some h2
   exact⟨y,cs,hy,h4,h5⟩)
  refine⟨xs,some a,cap,by rw[hxl],by omega,by omega,fun h0=>?_⟩
  have hspot:a.spot=none:=by
   obtain⟨cs,_,hl,hcell⟩:=hxs 0 h0
   have h1:=hcell 0 hpos
   rw[lz8 (show 0<cs.length by omega)] at h1
   have h2:W.cell? a=some cs[0]:=by
    have e:(a.add (0 * sz)).add 0=a:=by simp[Addr.add]
    rwa [e] at h1
   unfold World.cell? at h2
   split at h2
   ·cases hs:a.spot
    ·rfl
    ·rw[hs] at h2;simp at h2
   ·cases h2
  obtain⟨b,off,spot⟩:=a
  dsimp only at hspot
  subst hspot
  refine⟨b,off,rfl,fun h=>h.elim,fun k hk=>?_⟩
  obtain⟨cs,hRc,hl,hcell⟩:=hxs k hk
  refine⟨cs,hRc,hl,fun j hj=>?_⟩
  rw[<-hcell j hj]
  congr 1
  unfold Addr.add
  split<;>split<;>simp_all [Nat.add_assoc]
section
variable {H:Type} {enc:TypeId×Value->H} {W:World} {sp:Nat->Bool} {held:Bool}
theorem ziG {fuel:Nat} {cs:List Value} {x:DataW H×List MemPlace} (h:DataW.trod enc Tryz.prog W 0 sp held fuel 248 cs=some x):∃k:Knd,KndC cs k:=by
 obtain⟨xs,m,rfl,rfl,hl,hxl,hi⟩:=DataW.trod_struct Tryz.underlying248 h
 obtain⟨c0,c1,rfl⟩:=lst2 (hl.trans (show Tryz.prog.cellsOf 248=2 by kernel_rfl))
 clear hl h
 obtain⟨y0,hy0⟩:∃y,xs[0]? =some y:=⟨xs[0]'(by rw[hxl];decide),lz8 _⟩
 have h0:DataW.trod enc Tryz.prog W 0 sp held m 3 [c0]=some y0:=by
  have h9:DataW.trod enc Tryz.prog W 0 sp held m 3 (([c0,c1].drop 0).take (Tryz.prog.cellsOf 3))=xs[0]?:=hi 0 _ rfl
  rw[show Tryz.prog.cellsOf 3=1 by kernel_rfl,hy0] at h9
  exact h9
 obtain⟨y1,hy1⟩:∃y,xs[1]? =some y:=⟨xs[1]'(by rw[hxl];decide),lz8 _⟩
 have h1:DataW.trod enc Tryz.prog W 0 sp held m 9 [c1]=some y1:=by
  have h9:DataW.trod enc Tryz.prog W 0 sp held m 9 (([c0,c1].drop 1).take (Tryz.prog.cellsOf 9))=xs[1]?:=hi 1 _ rfl
  rw[show Tryz.prog.cellsOf 9=1 by kernel_rfl,hy1] at h9
  exact h9
 obtain⟨a0,e0,_,_⟩:=DataW.trod_int Tryz.underlying3 h0
 obtain rfl:=(List.cons.inj e0).1
 obtain⟨a1,e1,_,z1⟩:=DataW.trod_string Tryz.underlying9 h1
 obtain rfl:=(List.cons.inj e1).1
 exact⟨⟨a0,a1⟩,rfl,z1⟩
theorem ziH {fuel:Nat} {cs:List Value} {x:DataW H×List MemPlace} (h:DataW.trod enc Tryz.prog W 0 sp held fuel 291 cs=some x):∃k:Ins,InsC cs k:=by
 obtain⟨xs,m,rfl,rfl,hl,hxl,hi⟩:=DataW.trod_struct Tryz.underlying291 h
 obtain⟨c0,c1,c2,c3,rfl⟩:=lst4 (hl.trans (show Tryz.prog.cellsOf 291=4 by kernel_rfl))
 clear hl h
 obtain⟨y0,hy0⟩:∃y,xs[0]? =some y:=⟨xs[0]'(by rw[hxl];decide),lz8 _⟩
 have h0:DataW.trod enc Tryz.prog W 0 sp held m 3 [c0]=some y0:=by
  have h9:DataW.trod enc Tryz.prog W 0 sp held m 3 (([c0,c1,c2,c3].drop 0).take (Tryz.prog.cellsOf 3))=xs[0]?:=hi 0 _ rfl
  rw[show Tryz.prog.cellsOf 3=1 by kernel_rfl,hy0] at h9
  exact h9
 obtain⟨y1,hy1⟩:∃y,xs[1]? =some y:=⟨xs[1]'(by rw[hxl];decide),lz8 _⟩
 have h1:DataW.trod enc Tryz.prog W 0 sp held m 3 [c1]=some y1:=by
  have h9:DataW.trod enc Tryz.prog W 0 sp held m 3 (([c0,c1,c2,c3].drop 1).take (Tryz.prog.cellsOf 3))=xs[1]?:=hi 1 _ rfl
  rw[show Tryz.prog.cellsOf 3=1 by kernel_rfl,hy1] at h9
  exact h9
 obtain⟨y2,hy2⟩:∃y,xs[2]? =some y:=⟨xs[2]'(by rw[hxl];decide),lz8 _⟩
 have h2:DataW.trod enc Tryz.prog W 0 sp held m 9 [c2]=some y2:=by
  have h9:DataW.trod enc Tryz.prog W 0 sp held m 9 (([c0,c1,c2,c3].drop 2).take (Tryz.prog.cellsOf 9))=xs[2]?:=hi 2 _ rfl
  rw[show Tryz.prog.cellsOf 9=1 by kernel_rfl,hy2] at h9
  exact h9
 obtain⟨y3,hy3⟩:∃y,xs[3]? =some y:=⟨xs[3]'(by rw[hxl];decide),lz8 _⟩
 have h3:DataW.trod enc Tryz.prog W 0 sp held m 9 [c3]=some y3:=by
  have h9:DataW.trod enc Tryz.prog W 0 sp held m 9 (([c0,c1,c2,c3].drop 3).take (Tryz.prog.cellsOf 9))=xs[3]?:=hi 3 _ rfl
  rw[show Tryz.prog.cellsOf 9=1 by kernel_rfl,hy3] at h9
  exact h9
 obtain⟨a0,e0,_,_⟩:=DataW.trod_int Tryz.underlying3 h0
 obtain rfl:=(List.cons.inj e0).1
 obtain⟨a1,e1,_,_⟩:=DataW.trod_int Tryz.underlying3 h1
 obtain rfl:=(List.cons.inj e1).1
 obtain⟨a2,e2,_,z2⟩:=DataW.trod_string Tryz.underlying9 h2
 obtain rfl:=(List.cons.inj e2).1
 obtain⟨a3,e3,_,z3⟩:=DataW.trod_string Tryz.underlying9 h3
 obtain rfl:=(List.cons.inj e3).1
 exact⟨⟨a0,a1,a2,a3⟩,rfl,z2,z3⟩
theorem ziI {fuel:Nat} {cs:List Value} {x:DataW H×List MemPlace} (h:DataW.trod enc Tryz.prog W 0 sp held fuel 315 cs=some x):∃k:Tag,TagC cs k:=by
 obtain⟨xs,m,rfl,rfl,hl,hxl,hi⟩:=DataW.trod_struct Tryz.underlying315 h
 obtain⟨c0,c1,rfl⟩:=lst2 (hl.trans (show Tryz.prog.cellsOf 315=2 by kernel_rfl))
 clear hl h
 obtain⟨y0,hy0⟩:∃y,xs[0]? =some y:=⟨xs[0]'(by rw[hxl];decide),lz8 _⟩
 have h0:DataW.trod enc Tryz.prog W 0 sp held m 3 [c0]=some y0:=by
  have h9:DataW.trod enc Tryz.prog W 0 sp held m 3 (([c0,c1].drop 0).take (Tryz.prog.cellsOf 3))=xs[0]?:=hi 0 _ rfl
  rw[show Tryz.prog.cellsOf 3=1 by kernel_rfl,hy0] at h9
  exact h9
 obtain⟨y1,hy1⟩:∃y,xs[1]? =some y:=⟨xs[1]'(by rw[hxl];decide),lz8 _⟩
 have h1:DataW.trod enc Tryz.prog W 0 sp held m 9 [c1]=some y1:=by
  have h9:DataW.trod enc Tryz.prog W 0 sp held m 9 (([c0,c1].drop 1).take (Tryz.prog.cellsOf 9))=xs[1]?:=hi 1 _ rfl
  rw[show Tryz.prog.cellsOf 9=1 by kernel_rfl,hy1] at h9
  exact h9
 obtain⟨a0,e0,_,_⟩:=DataW.trod_int Tryz.underlying3 h0
 obtain rfl:=(List.cons.inj e0).1
 obtain⟨a1,e1,_,z1⟩:=DataW.trod_string Tryz.underlying9 h1
 obtain rfl:=(List.cons.inj e1).1
 exact⟨⟨a0,a1⟩,rfl,z1⟩
theorem ziJ {fuel:Nat} {cs:List Value} {x:DataW H×List MemPlace} (h:DataW.trod enc Tryz.prog W 0 sp held fuel 250 cs=some x):∃k:Fld,FldC cs k:=by
 obtain⟨xs,m,rfl,rfl,hl,hxl,hi⟩:=DataW.trod_struct Tryz.underlying250 h
 obtain⟨c0,c1,c2,rfl⟩:=lst3 (hl.trans (show Tryz.prog.cellsOf 250=3 by kernel_rfl))
 clear hl h
 obtain⟨y0,hy0⟩:∃y,xs[0]? =some y:=⟨xs[0]'(by rw[hxl];decide),lz8 _⟩
 have h0:DataW.trod enc Tryz.prog W 0 sp held m 9 [c0]=some y0:=by
  have h9:DataW.trod enc Tryz.prog W 0 sp held m 9 (([c0,c1,c2].drop 0).take (Tryz.prog.cellsOf 9))=xs[0]?:=hi 0 _ rfl
  rw[show Tryz.prog.cellsOf 9=1 by kernel_rfl,hy0] at h9
  exact h9
 obtain⟨y1,hy1⟩:∃y,xs[1]? =some y:=⟨xs[1]'(by rw[hxl];decide),lz8 _⟩
 have h1:DataW.trod enc Tryz.prog W 0 sp held m 248 [c1,c2]=some y1:=by
  have h9:DataW.trod enc Tryz.prog W 0 sp held m 248 (([c0,c1,c2].drop 1).take (Tryz.prog.cellsOf 248))=xs[1]?:=hi 1 _ rfl
  rw[show Tryz.prog.cellsOf 248=2 by kernel_rfl,hy1] at h9
  exact h9
 obtain⟨a0,e0,_,z0⟩:=DataW.trod_string Tryz.underlying9 h0
 obtain rfl:=(List.cons.inj e0).1
 obtain⟨a1,hk1⟩:=ziG h1
 obtain⟨e1,z1_0⟩:=hk1
 simp only[List.cons.injEq,and_true] at e1
 obtain⟨rfl,rfl⟩:=e1
 exact⟨⟨a0,a1⟩,rfl,z0,z1_0⟩
theorem ziK {fuel:Nat} {cs:List Value} {x:DataW H×List MemPlace} (h:DataW.trod enc Tryz.prog W 0 sp held fuel 295 cs=some x):∃k:Mp,MapC No W cs k:=by
 obtain⟨xs,m,rfl,rfl,hl,hxl,hi⟩:=DataW.trod_struct Tryz.underlying295 h
 obtain⟨c0,c1,c2,rfl⟩:=lst3 (hl.trans (show Tryz.prog.cellsOf 295=3 by kernel_rfl))
 clear hl h
 obtain⟨y0,hy0⟩:∃y,xs[0]? =some y:=⟨xs[0]'(by rw[hxl];decide),lz8 _⟩
 have h0:DataW.trod enc Tryz.prog W 0 sp held m 3 [c0]=some y0:=by
  have h9:DataW.trod enc Tryz.prog W 0 sp held m 3 (([c0,c1,c2].drop 0).take (Tryz.prog.cellsOf 3))=xs[0]?:=hi 0 _ rfl
  rw[show Tryz.prog.cellsOf 3=1 by kernel_rfl,hy0] at h9
  exact h9
 obtain⟨y1,hy1⟩:∃y,xs[1]? =some y:=⟨xs[1]'(by rw[hxl];decide),lz8 _⟩
 have h1:DataW.trod enc Tryz.prog W 0 sp held m 293 [c1]=some y1:=by
  have h9:DataW.trod enc Tryz.prog W 0 sp held m 293 (([c0,c1,c2].drop 1).take (Tryz.prog.cellsOf 293))=xs[1]?:=hi 1 _ rfl
  rw[show Tryz.prog.cellsOf 293=1 by kernel_rfl,hy1] at h9
  exact h9
 obtain⟨y2,hy2⟩:∃y,xs[2]? =some y:=⟨xs[2]'(by rw[hxl];decide),lz8 _⟩
 have h2:DataW.trod enc Tryz.prog W 0 sp held m 293 [c2]=some y2:=by
  have h9:DataW.trod enc Tryz.prog W 0 sp held m 293 (([c0,c1,c2].drop 2).take (Tryz.prog.cellsOf 293))=xs[2]?:=hi 2 _ rfl
  rw[show Tryz.prog.cellsOf 293=1 by kernel_rfl,hy2] at h9
  exact h9
 obtain⟨a0,e0,_,_⟩:=DataW.trod_int Tryz.underlying3 h0
 obtain rfl:=(List.cons.inj e0).1
 obtain⟨a1,s1⟩:=ziF (R:=TagC) Tryz.underlying293 (show Tryz.prog.cellsOf 315=2 by kernel_rfl) (by decide) (fun _ _ _ h=>ziI h) h1
 obtain⟨a2,s2⟩:=ziF (R:=TagC) Tryz.underlying293 (show Tryz.prog.cellsOf 315=2 by kernel_rfl) (by decide) (fun _ _ _ h=>ziI h) h2
 exact⟨⟨a0,a1,a2⟩,_,_,rfl,s1,s2⟩
theorem ziL {fuel:Nat} {cs:List Value} {x:DataW H×List MemPlace} (h:DataW.trod enc Tryz.prog W 0 sp held fuel 256 cs=some x):∃k:Mth,MthC No W cs k:=by
 obtain⟨xs,m,rfl,rfl,hl,hxl,hi⟩:=DataW.trod_struct Tryz.underlying256 h
 obtain⟨c0,c1,c2,c3,c4,c5,c6,c7,rfl⟩:=lst8 (hl.trans (show Tryz.prog.cellsOf 256=8 by kernel_rfl))
 clear hl h
 obtain⟨y0,hy0⟩:∃y,xs[0]? =some y:=⟨xs[0]'(by rw[hxl];decide),lz8 _⟩
 have h0:DataW.trod enc Tryz.prog W 0 sp held m 9 [c0]=some y0:=by
  have h9:DataW.trod enc Tryz.prog W 0 sp held m 9 (([c0,c1,c2,c3,c4,c5,c6,c7].drop 0).take (Tryz.prog.cellsOf 9))=xs[0]?:=hi 0 _ rfl
  rw[show Tryz.prog.cellsOf 9=1 by kernel_rfl,hy0] at h9
  exact h9
 obtain⟨y1,hy1⟩:∃y,xs[1]? =some y:=⟨xs[1]'(by rw[hxl];decide),lz8 _⟩
 have h1:DataW.trod enc Tryz.prog W 0 sp held m 252 [c1]=some y1:=by
  have h9:DataW.trod enc Tryz.prog W 0 sp held m 252 (([c0,c1,c2,c3,c4,c5,c6,c7].drop 1).take (Tryz.prog.cellsOf 252))=xs[1]?:=hi 1 _ rfl
  rw[show Tryz.prog.cellsOf 252=1 by kernel_rfl,hy1] at h9
  exact h9
 obtain⟨y2,hy2⟩:∃y,xs[2]? =some y:=⟨xs[2]'(by rw[hxl];decide),lz8 _⟩
 have h2:DataW.trod enc Tryz.prog W 0 sp held m 248 [c2,c3]=some y2:=by
  have h9:DataW.trod enc Tryz.prog W 0 sp held m 248 (([c0,c1,c2,c3,c4,c5,c6,c7].drop 2).take (Tryz.prog.cellsOf 248))=xs[2]?:=hi 2 _ rfl
  rw[show Tryz.prog.cellsOf 248=2 by kernel_rfl,hy2] at h9
  exact h9
 obtain⟨y3,hy3⟩:∃y,xs[3]? =some y:=⟨xs[3]'(by rw[hxl];decide),lz8 _⟩
 have h3:DataW.trod enc Tryz.prog W 0 sp held m 3 [c4]=some y3:=by
  have h9:DataW.trod enc Tryz.prog W 0 sp held m 3 (([c0,c1,c2,c3,c4,c5,c6,c7].drop 4).take (Tryz.prog.cellsOf 3))=xs[3]?:=hi 3 _ rfl
  rw[show Tryz.prog.cellsOf 3=1 by kernel_rfl,hy3] at h9
  exact h9
 obtain⟨y4,hy4⟩:∃y,xs[4]? =some y:=⟨xs[4]'(by rw[hxl];decide),lz8 _⟩
 have h4:DataW.trod enc Tryz.prog W 0 sp held m 3 [c5]=some y4:=by
  have h9:DataW.trod enc Tryz.prog W 0 sp held m 3 (([c0,c1,c2,c3,c4,c5,c6,c7].drop 5).take (Tryz.prog.cellsOf 3))=xs[4]?:=hi 4 _ rfl
  rw[show Tryz.prog.cellsOf 3=1 by kernel_rfl,hy4] at h9
  exact h9
 obtain⟨y5,hy5⟩:∃y,xs[5]? =some y:=⟨xs[5]'(by rw[hxl];decide),lz8 _⟩
 have h5:DataW.trod enc Tryz.prog W 0 sp held m 253 [c6]=some y5:=by
  have h9:DataW.trod enc Tryz.prog W 0 sp held m 253 (([c0,c1,c2,c3,c4,c5,c6,c7].drop 6).take (Tryz.prog.cellsOf 253))=xs[5]?:=hi 5 _ rfl
  rw[show Tryz.prog.cellsOf 253=1 by kernel_rfl,hy5] at h9
  exact h9
 obtain⟨y6,hy6⟩:∃y,xs[6]? =some y:=⟨xs[6]'(by rw[hxl];decide),lz8 _⟩
 have h6:DataW.trod enc Tryz.prog W 0 sp held m 254 [c7]=some y6:=by
  have h9:DataW.trod enc Tryz.prog W 0 sp held m 254 (([c0,c1,c2,c3,c4,c5,c6,c7].drop 7).take (Tryz.prog.cellsOf 254))=xs[6]?:=hi 6 _ rfl
  rw[show Tryz.prog.cellsOf 254=1 by kernel_rfl,hy6] at h9
  exact h9
 obtain⟨a0,e0,_,z0⟩:=DataW.trod_string Tryz.underlying9 h0
 obtain rfl:=(List.cons.inj e0).1
 obtain⟨a1,s1⟩:=ziF (R:=KndC) Tryz.underlying252 (show Tryz.prog.cellsOf 248=2 by kernel_rfl) (by decide) (fun _ _ _ h=>ziG h) h1
 obtain⟨a2,hk2⟩:=ziG h2
 obtain⟨e2,z2_0⟩:=hk2
 simp only[List.cons.injEq,and_true] at e2
 obtain⟨rfl,rfl⟩:=e2
 obtain⟨a3,e3,_,_⟩:=DataW.trod_int Tryz.underlying3 h3
 obtain rfl:=(List.cons.inj e3).1
 obtain⟨a4,e4,_,_⟩:=DataW.trod_int Tryz.underlying3 h4
 obtain rfl:=(List.cons.inj e4).1
 obtain⟨a5,s5⟩:=ziF (R:=InsC) Tryz.underlying253 (show Tryz.prog.cellsOf 291=4 by kernel_rfl) (by decide) (fun _ _ _ h=>ziH h) h5
 obtain⟨a6,s6⟩:=ziF (R:=MapC No W) Tryz.underlying254 (show Tryz.prog.cellsOf 295=3 by kernel_rfl) (by decide) (fun _ _ _ h=>ziK h) h6
 exact⟨⟨a0,a1,a2,a3,a4,a5,a6⟩,_,_,_,rfl,z0,z2_0,s1,s5,s6⟩
theorem ziM {fuel:Nat} {cs:List Value} {x:DataW H×List MemPlace} (h:DataW.trod enc Tryz.prog W 0 sp held fuel 162 cs=some x):∃k:Cls,ClsC No W cs k:=by
 obtain⟨xs,m,rfl,rfl,hl,hxl,hi⟩:=DataW.trod_struct Tryz.underlying162 h
 obtain⟨c0,c1,c2,c3,rfl⟩:=lst4 (hl.trans (show Tryz.prog.cellsOf 162=4 by kernel_rfl))
 clear hl h
 obtain⟨y0,hy0⟩:∃y,xs[0]? =some y:=⟨xs[0]'(by rw[hxl];decide),lz8 _⟩
 have h0:DataW.trod enc Tryz.prog W 0 sp held m 9 [c0]=some y0:=by
  have h9:DataW.trod enc Tryz.prog W 0 sp held m 9 (([c0,c1,c2,c3].drop 0).take (Tryz.prog.cellsOf 9))=xs[0]?:=hi 0 _ rfl
  rw[show Tryz.prog.cellsOf 9=1 by kernel_rfl,hy0] at h9
  exact h9
 obtain⟨y1,hy1⟩:∃y,xs[1]? =some y:=⟨xs[1]'(by rw[hxl];decide),lz8 _⟩
 have h1:DataW.trod enc Tryz.prog W 0 sp held m 9 [c1]=some y1:=by
  have h9:DataW.trod enc Tryz.prog W 0 sp held m 9 (([c0,c1,c2,c3].drop 1).take (Tryz.prog.cellsOf 9))=xs[1]?:=hi 1 _ rfl
  rw[show Tryz.prog.cellsOf 9=1 by kernel_rfl,hy1] at h9
  exact h9
 obtain⟨y2,hy2⟩:∃y,xs[2]? =some y:=⟨xs[2]'(by rw[hxl];decide),lz8 _⟩
 have h2:DataW.trod enc Tryz.prog W 0 sp held m 159 [c2]=some y2:=by
  have h9:DataW.trod enc Tryz.prog W 0 sp held m 159 (([c0,c1,c2,c3].drop 2).take (Tryz.prog.cellsOf 159))=xs[2]?:=hi 2 _ rfl
  rw[show Tryz.prog.cellsOf 159=1 by kernel_rfl,hy2] at h9
  exact h9
 obtain⟨y3,hy3⟩:∃y,xs[3]? =some y:=⟨xs[3]'(by rw[hxl];decide),lz8 _⟩
 have h3:DataW.trod enc Tryz.prog W 0 sp held m 160 [c3]=some y3:=by
  have h9:DataW.trod enc Tryz.prog W 0 sp held m 160 (([c0,c1,c2,c3].drop 3).take (Tryz.prog.cellsOf 160))=xs[3]?:=hi 3 _ rfl
  rw[show Tryz.prog.cellsOf 160=1 by kernel_rfl,hy3] at h9
  exact h9
 obtain⟨a0,e0,_,z0⟩:=DataW.trod_string Tryz.underlying9 h0
 obtain rfl:=(List.cons.inj e0).1
 obtain⟨a1,e1,_,z1⟩:=DataW.trod_string Tryz.underlying9 h1
 obtain rfl:=(List.cons.inj e1).1
 obtain⟨a2,s2⟩:=ziF (R:=FldC) Tryz.underlying159 (show Tryz.prog.cellsOf 250=3 by kernel_rfl) (by decide) (fun _ _ _ h=>ziJ h) h2
 obtain⟨a3,s3⟩:=ziF (R:=MthC No W) Tryz.underlying160 (show Tryz.prog.cellsOf 256=8 by kernel_rfl) (by decide) (fun _ _ _ h=>ziL h) h3
 exact⟨⟨a0,a1,a2,a3⟩,_,_,rfl,z0,z1,s2,s3⟩
theorem ziN {fuel:Nat} {cs:List Value} {x:DataW H×List MemPlace} (h:DataW.trod enc Tryz.prog W 0 sp held fuel 164 cs=some x):∃k:Ask,AskC cs k:=by
 obtain⟨xs,m,rfl,rfl,hl,hxl,hi⟩:=DataW.trod_struct Tryz.underlying164 h
 obtain⟨c0,c1,rfl⟩:=lst2 (hl.trans (show Tryz.prog.cellsOf 164=2 by kernel_rfl))
 clear hl h
 obtain⟨y0,hy0⟩:∃y,xs[0]? =some y:=⟨xs[0]'(by rw[hxl];decide),lz8 _⟩
 have h0:DataW.trod enc Tryz.prog W 0 sp held m 9 [c0]=some y0:=by
  have h9:DataW.trod enc Tryz.prog W 0 sp held m 9 (([c0,c1].drop 0).take (Tryz.prog.cellsOf 9))=xs[0]?:=hi 0 _ rfl
  rw[show Tryz.prog.cellsOf 9=1 by kernel_rfl,hy0] at h9
  exact h9
 obtain⟨y1,hy1⟩:∃y,xs[1]? =some y:=⟨xs[1]'(by rw[hxl];decide),lz8 _⟩
 have h1:DataW.trod enc Tryz.prog W 0 sp held m 3 [c1]=some y1:=by
  have h9:DataW.trod enc Tryz.prog W 0 sp held m 3 (([c0,c1].drop 1).take (Tryz.prog.cellsOf 3))=xs[1]?:=hi 1 _ rfl
  rw[show Tryz.prog.cellsOf 3=1 by kernel_rfl,hy1] at h9
  exact h9
 obtain⟨a0,e0,_,z0⟩:=DataW.trod_string Tryz.underlying9 h0
 obtain rfl:=(List.cons.inj e0).1
 obtain⟨a1,e1,_,_⟩:=DataW.trod_int Tryz.underlying3 h1
 obtain rfl:=(List.cons.inj e1).1
 exact⟨⟨a0,a1⟩,rfl,z0⟩
theorem ziO {fuel:Nat} {cs:List Value} {x:DataW H×List MemPlace} (h:DataW.trod enc Tryz.prog W 0 sp held fuel 84 cs=some x):∃k:Kpr,KprC No W cs k:=by
 obtain⟨xs,m,rfl,rfl,hl,hxl,hi⟩:=DataW.trod_struct Tryz.underlying84 h
 obtain⟨c0,c1,rfl⟩:=lst2 (hl.trans (show Tryz.prog.cellsOf 84=2 by kernel_rfl))
 clear hl h
 obtain⟨y0,hy0⟩:∃y,xs[0]? =some y:=⟨xs[0]'(by rw[hxl];decide),lz8 _⟩
 have h0:DataW.trod enc Tryz.prog W 0 sp held m 81 [c0]=some y0:=by
  have h9:DataW.trod enc Tryz.prog W 0 sp held m 81 (([c0,c1].drop 0).take (Tryz.prog.cellsOf 81))=xs[0]?:=hi 0 _ rfl
  rw[show Tryz.prog.cellsOf 81=1 by kernel_rfl,hy0] at h9
  exact h9
 obtain⟨y1,hy1⟩:∃y,xs[1]? =some y:=⟨xs[1]'(by rw[hxl];decide),lz8 _⟩
 have h1:DataW.trod enc Tryz.prog W 0 sp held m 82 [c1]=some y1:=by
  have h9:DataW.trod enc Tryz.prog W 0 sp held m 82 (([c0,c1].drop 1).take (Tryz.prog.cellsOf 82))=xs[1]?:=hi 1 _ rfl
  rw[show Tryz.prog.cellsOf 82=1 by kernel_rfl,hy1] at h9
  exact h9
 obtain⟨a0,s0⟩:=ziF (R:=ClsC No W) Tryz.underlying81 (show Tryz.prog.cellsOf 162=4 by kernel_rfl) (by decide) (fun _ _ _ h=>ziM h) h0
 obtain⟨a1,s1⟩:=ziF (R:=AskC) Tryz.underlying82 (show Tryz.prog.cellsOf 164=2 by kernel_rfl) (by decide) (fun _ _ _ h=>ziN h) h1
 exact⟨⟨a0,a1⟩,_,_,rfl,s0,s1⟩
theorem ziP {fuel:Nat} {cs:List Value} {x:DataW H×List MemPlace} (h:DataW.trod enc Tryz.prog W 0 sp held fuel 24 cs=some x):∃k:Plan,zf9 No W cs k:=by
 obtain⟨xs,m,rfl,rfl,hl,hxl,hi⟩:=DataW.trod_struct Tryz.underlying24 h
 obtain⟨c0,rfl⟩:=lst1 (hl.trans (show Tryz.prog.cellsOf 24=1 by kernel_rfl))
 clear hl h
 obtain⟨y0,hy0⟩:∃y,xs[0]? =some y:=⟨xs[0]'(by rw[hxl];decide),lz8 _⟩
 have h0:DataW.trod enc Tryz.prog W 0 sp held m 22 [c0]=some y0:=by
  have h9:DataW.trod enc Tryz.prog W 0 sp held m 22 (([c0].drop 0).take (Tryz.prog.cellsOf 22))=xs[0]?:=hi 0 _ rfl
  rw[show Tryz.prog.cellsOf 22=1 by kernel_rfl,hy0] at h9
  exact h9
 obtain⟨a0,s0⟩:=ziF (R:=KprC No W) Tryz.underlying22 (show Tryz.prog.cellsOf 84=2 by kernel_rfl) (by decide) (fun _ _ _ h=>ziO h) h0
 exact⟨⟨a0⟩,_,rfl,s0⟩
end
theorem own:ownKnob Tryz.prog.godebug=none:=by kernel_rfl
theorem laidOut:laidOutB Tryz.prog=true:=by kernel_rfl
section
variable {H:Type} {enc:TypeId×Value->H} {P:Program}
theorem zgp {f:Func} {s:ChangeSpec} {apart fresh handsOn again:Bool} {W W':World} {args:Array Value} {v:Value} {ds gs:List (DataW H)} {before pa pv:List MemPlace}
  (hW:DataW.Whole enc P f.params.toList s.vars apart W args.toList ds gs before)
  (hres:∀(b:Nat) (sp:Nat->Bool) (hd:Bool),DataW.TrodAll enc P W' b sp hd f.resultTypes.toList (v.resultList f.resultTypes.size) (s.fn H (ds ++ gs)).results [])
  (hargs:∀sp:Nat->Bool,(∀p∈before,sp p.block=true)->DataW.TrodAll enc P W' 0 sp true f.params.toList args.toList (s.fn H (ds ++ gs)).args pa)
  (hvars:∀sp:Nat->Bool,(∀p∈before,sp p.block=true)->DataW.TrodVars enc P W' sp s.vars (s.fn H (ds ++ gs)).vars pv)
  (hps:before=pa ++ pv) (hb:Below W.heap.size W W')
  (hok:∀(j:Nat) (t:TypeId) (r:Value),f.resultTypes[j]? =some t->(v.resultList f.resultTypes.size)[j]? =some r->Value.okWide P W' .any 0 t r):
  s.post enc P f apart fresh handsOn again W args v W':=by
 have hlt:∀p∈before,p.block<W.heap.size:=fun p hp=>hW.lt p hp
 have hold:∀p∈before,(fun b=>decide (b<W.heap.size)) p.block=true:=fun p hp=>by simpa using hlt p hp
 refine⟨ds,gs,before,[],pa,pv,hW,hres _ _ _,hargs _ hold,hvars _ hold,World.keptBut_mono (fun p hp=>⟨hp,?_⟩) (hb.frame (·∈before)),fun _=>?_⟩
 ·rw[hps,List.mem_append] at hp
  exact Or.inr hp
 ·obtain⟨_,_,_,_,_,hz,hn⟩:=hW
  refine⟨hok,_,_,([] ++ pa) ++ pv,⟨[] ++ pa,pv,trodAll_append (hargs _ (fun _ _=>rfl)) (hres _ _ _),hvars _ (fun _ _=>rfl),rfl,?_,?_⟩,?_⟩
  ·intro b off hp
   have hin:MemPlace.cell b off∈before:=by rw[hps];simpa using hp
   rw[hb.frozen (hlt _ hin)]
   exact hz b off hin
  ·intro ha
   have:=hn ha
   rw[hps] at this
   simpa using this
  ·intro p hp _
   rw[hps]
   simpa using hp
end
theorem lifted (os:Os) (started:os.Started) (H:Type) (enc:TypeId×Value->H):
  ReturnsInHanded {} Tryz.checked os 4 .any (Rows.fnExactPlanRightSpec.pre6 enc Tryz.prog Tryz.f4 [] false)
   (Rows.fnExactPlanRightSpec.post enc Tryz.prog Tryz.f4 false true false false):=by
 refine returnsInHanded_of_change (C:=Tryz.checked) own started (by kernel_rfl) Tryz.func4
  (ChangeSpec.witness6 (enc:=enc) (C:=Tryz.checked) (os:=os) false ⟨#[],#[.agg #[.slice none 0 0]],[]⟩ 8 (by kernel_rfl) (by kernel_rfl) (by kernel_rfl) (by kernel_rfl)) ?_
 intro W base args ds gs before hval0 hW _ _
 have hval:∀(j:Nat) t v,Tryz.f4.params[j]? =some t->args[j]? =some v->Value.okWide Tryz.prog W .any base t v:=hval0
 have hW':=hW
 obtain⟨p,q,hA0,hV,rfl,hfz,hnd⟩:=hW
 have hA:DataW.TrodAll enc Tryz.prog W 0 (fun _=>true) true Tryz.f4.params.toList args.toList ds p:=hA0
 rw[Tryz.params4] at hA hval
 obtain⟨v0,d0,rfl,rfl,h0⟩:=trodAll_one hA
 obtain⟨rfl,rfl⟩:=trodVars_none hV
 obtain⟨arr0,rfl,_⟩:=okWide_struct Tryz.underlying24 (hval 0 _ v0 rfl rfl)
 have g0:=h0
 obtain⟨fuel0,hf0⟩:=h0
 obtain⟨c,hc⟩:=ziP hf0
 clear hA0 hval0
 have hlt:∀x∈p ++ [],x.block<W.heap.size:=fun x hx=>hW'.lt x hx
 refine(zor c arr0.toList W hc).mono fun e W' ⟨he,hw⟩=>?_
 subst he
 exact⟨_,rfl,zgp (pa:=p) (pv:=[]) hW' (fun _ _ _=>trodAll_mk1 (shut_bool Tryz.underlying4 true))
  (fun sp hsp=>trodAll_mk1
   (WideElems.Trod_stays laidOut (by kernel_rfl) (of_decide_eq_true (by kernel_rfl)) g0 (fun x hx=>hw.below.same (hlt x (by simp[hx]))) (fun x hx=>hsp x (by simp[hx]))))
  (fun _ _=>rfl) (by simp) hw.below (ok_one (by kernel_rfl) rfl (okWide_bool_mk Tryz.underlying4 true))⟩
theorem closed:joinedFacts Tryz.pinned.checked.prog 4 Tryz.f4 Rows.fnExactPlanRightSpec Rows.fnExactPlanRightRow=true:=by
 unfold joinedFacts
 refine zlX (zlX (zlX (zlX (zlX (zlX (zlX (zlX (zlX (zlX (zlX (zlX (zlX (zlX (zlX (zlX (zlX (zlX (zlX (zlX (zlX (zlX (zlX (zlX (zlX (zlX (zlX (zlX (zlX (zlX (zlX ?_ zl2) zl3) ?_) ?_) ?_) ?_) ?_) ?_) zl7) zl6) zl5) zl4) ?_) ?_) ?_) ?_) ?_) ?_) ?_) ?_) ?_) ?_) ?_) zl1) zlY) zlZ) zl0) ?_) ?_) ?_) ?_
 all_goals kernel_rfl
theorem exactPlanRight_holds:Rows.FnExactPlanRightSaid:=
 OpenClaim.holds_of_wide 4 Tryz.f4 rfl rfl rfl rfl rfl rfl rfl ⟨rfl,rfl,rfl,rfl,rfl⟩ rfl rfl rfl rfl rfl (by kernel_rfl) Tryz.func4 closed
  (of_decide_eq_true (by kernel_rfl)) (by unfold Func.isWrapper;first|(rw[if_pos (by decide +kernel)];kernel_rfl)|(rw[if_neg (by decide +kernel)];exact⟨rfl,rfl⟩))
  (fun os started H enc _=>lifted os started H enc)
#print axioms exactPlanRight_holds
end Go.Proofs.YthembcdcdnffeaaGreat
