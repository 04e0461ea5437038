/- The closed facts of a row over this program, one by one: together they outgrow a compile's memory. -/
import Derived.Test.YtpghfhjhjlmljaaGreatPG24
import Derived.ProofKit
import Derived.KernelRfl
set_option maxHeartbeats 1000000
namespace Go.Proofs.YtpghfhjhjlmljaaGreat
open Go.RowKit
theorem zlX {a b:Bool} (h:a=true) (k:b=true):(a&&b)=true:=by rw[h,k];rfl
theorem zlY:Tryz.pinned.checked.prog.mayEnter=true:=by kernel_rfl
theorem zlZ:(Rows.fnExactPlanTurnRow.lifted == Tryz.pinned.checked.prog.liftsFinal)=true:=by kernel_rfl
theorem zl0:(Tryz.pinned.checked.prog.make == some Rows.fnExactPlanTurnRow.make)=true:=by kernel_rfl
theorem zl1:Tryz.pinned.checked.prog.stopsHeard=true:=by kernel_rfl
theorem zl2:laidOutB Tryz.pinned.checked.prog=true:=by kernel_rfl
theorem zl3:mapsRowed Tryz.pinned.checked.prog=true:=by kernel_rfl
theorem zl4:(Rows.fnExactPlanTurnRow.named == Tryz.pinned.checked.prog.varsNamed 3)=true:=by kernel_rfl
theorem zl5:(Rows.fnExactPlanTurnRow.recurses == Tryz.pinned.checked.prog.recurses 3)=true:=by kernel_rfl
theorem zl6:(Rows.fnExactPlanTurnRow.unfollowed == Tryz.pinned.checked.prog.unfollowed 3)=true:=by kernel_rfl
theorem zl7:(Rows.fnExactPlanTurnRow.inPlace == Tryz.pinned.checked.prog.inPlace 3)=true:=by kernel_rfl
theorem ziE {α:Type}:∀(n:Nat) (p:Nat->α->Prop),(∀i,i<n->∃a,p i a)->∃l:List α,l.length=n∧∀i (hi:i<l.length),p i l[i]
 | 0,_,_=>⟨[],rfl,fun i hi=>absurd hi (by simp)⟩
 | n+1,p,h=>by
  obtain⟨a,ha⟩:=h 0 (by omega)
  obtain⟨l,hl,hp⟩:=ziE n (fun i=>p (i+1)) (fun i hi=>h (i+1) (by omega))
  refine⟨a :: l,by simp[hl],fun i hi=>?_⟩
  cases i with
  | zero=>exact ha
  | succ j=>exact hp j (by simpa using hi)
theorem lst1 {l:List Value} (h:l.length=1):∃a,l=[a]:=by
 match l,h with
 | [a],_=>exact⟨a,rfl⟩
theorem lst2 {l:List Value} (h:l.length=2):∃a b,l=[a,b]:=by
 match l,h with
 | [a,b],_=>exact⟨a,b,rfl⟩
theorem lst3 {l:List Value} (h:l.length=3):∃a b c,l=[a,b,c]:=by
 match l,h with
 | [a,b,c],_=>exact⟨a,b,c,rfl⟩
theorem lst4 {l:List Value} (h:l.length=4):∃a b c d,l=[a,b,c,d]:=by
 match l,h with
 | [a,b,c,d],_=>exact⟨a,b,c,d,rfl⟩
theorem lst8 {l:List Value} (h:l.length=8):∃a b c d e f g i,l=[a,b,c,d,e,f,g,i]:=by
 match l,h with
 | [a,b,c,d,e,f,g,i],_=>exact⟨a,b,c,d,e,f,g,i,rfl⟩
theorem ziF {α:Type} {R:List Value->α->Prop} {H:Type} {enc:TypeId×Value->H} {P:Program} {W:World} {sp:Nat->Bool} {held:Bool} {t e:TypeId} {sz:Nat} {v:Value} {fuel:Nat} {x:DataW H×List MemPlace}
  (ht:P.underlying t=some (.slice e)) (hc:P.cellsOf e=sz) (hpos:0<sz) (hR:∀fuel cs (y:DataW H×List MemPlace),DataW.trod enc P W 0 sp held fuel e cs=some y->∃a,R cs a)
  (h:DataW.trod enc P W 0 sp held fuel t [v]=some x):∃xs:List α,Sl No W sz R v xs:=by
 rcases DataW.trod_slice ht h with ⟨hv,_⟩ | ⟨a,len,cap,elems,rest,n,_,hv,_,_,hlc,hcm,hel,he,_,_⟩
 ·obtain rfl:=(List.cons.inj hv).1
  exact⟨[],Sl.nil _ _ _ _⟩
 ·obtain rfl:=(List.cons.inj hv).1
  rw[hc] at he
  obtain⟨xs,hxl,hxs⟩:=ziE (α:=α) len (fun i y=>∃cs,R cs y∧cs.length=sz∧∀j,j<sz->W.cell? ((a.add (i * sz)).add j)=cs[j]?) (fun i hi=>by
   have h1:=he i hi
   rw[lz8 (show i<elems.length by omega),Option.bind_eq_some_iff] at h1
   obtain⟨cs,h2,h3⟩:=h1
   obtain⟨y,hy⟩:=hR _ _ _ h3
   obtain⟨_,h4,h5⟩:=World.cells?_some h2
   exact⟨y,cs,hy,h4,h5⟩)
  refine⟨xs,some a,cap,by rw[hxl],by omega,by omega,fun h0=>?_⟩
  have hspot:a.spot=none:=by
   obtain⟨cs,_,hl,hcell⟩:=hxs 0 h0
   have h1:=hcell 0 hpos
   rw[lz8 (show 0<cs.length by omega)] at h1
   have h2:W.cell? a=some cs[0]:=by
    have e:(a.add (0 * sz)).add 0=a:=by simp[Addr.add]
    rwa [e] at h1
   unfold World.cell? at h2
   split at h2
   ·cases hs:a.spot
    ·rfl
    ·rw[hs] at h2;simp at h2
   ·cases h2
  obtain⟨b,off,spot⟩:=a
  dsimp only at hspot
  subst hspot
  refine⟨b,off,rfl,fun h=>h.elim,fun k hk=>?_⟩
  obtain⟨cs,hRc,hl,hcell⟩:=hxs k hk
  refine⟨cs,hRc,hl,fun j hj=>?_⟩
  rw[<-hcell j hj]
  congr 1
  unfold Addr.add
  split<;>split<;>simp_all [Nat.add_assoc]
section
variable {H:Type} {enc:TypeId×Value->H} {W:World} {sp:Nat->Bool} {held:Bool}
theorem zpP {ty:TypeId} {m n Q i:Nat} {all cs:List Value} {xs:List (DataW H×List MemPlace)} (hc:Tryz.prog.cellsOf ty=n) (hx:i<xs.length) (h:DataW.trod enc Tryz.prog W 0 sp held m ty ((all.drop Q).take (Tryz.prog.cellsOf ty))=xs[i]?) (e:(all.drop Q).take n=cs):∃y,DataW.trod enc Tryz.prog W 0 sp held m ty cs=some y:=
 ⟨xs[i],by rw[<-e,<-hc,h,lz8 hx]⟩
theorem ziG {fuel:Nat} {cs:List Value} {x:DataW H×List MemPlace} (h:DataW.trod enc Tryz.prog W 0 sp held fuel 113 cs=some x):∃k:Knd,KndC cs k:=by
 obtain⟨xs,m,rfl,rfl,hl,hxl,hi⟩:=DataW.trod_struct Tryz.underlying113 h
 obtain⟨c0,c1,rfl⟩:=lst2 (hl.trans (show Tryz.prog.cellsOf 113=2 by kernel_rfl))
 clear hl h
 obtain⟨y0,h0⟩:=zpP (Q:=0) (n:=1) (cs:=[c0]) (show Tryz.prog.cellsOf 3=1 by kernel_rfl) (by rw[hxl];decide) (hi 0 _ rfl) rfl
 obtain⟨y1,h1⟩:=zpP (Q:=1) (n:=1) (cs:=[c1]) (show Tryz.prog.cellsOf 9=1 by kernel_rfl) (by rw[hxl];decide) (hi 1 _ rfl) rfl
 obtain⟨a0,e0,_,_⟩:=DataW.trod_int Tryz.underlying3 h0
 obtain rfl:=(List.cons.inj e0).1
 obtain⟨a1,e1,_,z1⟩:=DataW.trod_string Tryz.underlying9 h1
 obtain rfl:=(List.cons.inj e1).1
 exact⟨⟨a0,a1⟩,rfl,z1⟩
theorem ziH {fuel:Nat} {cs:List Value} {x:DataW H×List MemPlace} (h:DataW.trod enc Tryz.prog W 0 sp held fuel 194 cs=some x):∃k:Ins,InsC cs k:=by
 obtain⟨xs,m,rfl,rfl,hl,hxl,hi⟩:=DataW.trod_struct Tryz.underlying194 h
 obtain⟨c0,c1,c2,c3,rfl⟩:=lst4 (hl.trans (show Tryz.prog.cellsOf 194=4 by kernel_rfl))
 clear hl h
 obtain⟨y0,h0⟩:=zpP (Q:=0) (n:=1) (cs:=[c0]) (show Tryz.prog.cellsOf 3=1 by kernel_rfl) (by rw[hxl];decide) (hi 0 _ rfl) rfl
 obtain⟨y1,h1⟩:=zpP (Q:=1) (n:=1) (cs:=[c1]) (show Tryz.prog.cellsOf 3=1 by kernel_rfl) (by rw[hxl];decide) (hi 1 _ rfl) rfl
 obtain⟨y2,h2⟩:=zpP (Q:=2) (n:=1) (cs:=[c2]) (show Tryz.prog.cellsOf 9=1 by kernel_rfl) (by rw[hxl];decide) (hi 2 _ rfl) rfl
 obtain⟨y3,h3⟩:=zpP (Q:=3) (n:=1) (cs:=[c3]) (show Tryz.prog.cellsOf 9=1 by kernel_rfl) (by rw[hxl];decide) (hi 3 _ rfl) rfl
 obtain⟨a0,e0,_,_⟩:=DataW.trod_int Tryz.underlying3 h0
 obtain rfl:=(List.cons.inj e0).1
 obtain⟨a1,e1,_,_⟩:=DataW.trod_int Tryz.underlying3 h1
 obtain rfl:=(List.cons.inj e1).1
 obtain⟨a2,e2,_,z2⟩:=DataW.trod_string Tryz.underlying9 h2
 obtain rfl:=(List.cons.inj e2).1
 obtain⟨a3,e3,_,z3⟩:=DataW.trod_string Tryz.underlying9 h3
 obtain rfl:=(List.cons.inj e3).1
 exact⟨⟨a0,a1,a2,a3⟩,rfl,z2,z3⟩
theorem ziI {fuel:Nat} {cs:List Value} {x:DataW H×List MemPlace} (h:DataW.trod enc Tryz.prog W 0 sp held fuel 216 cs=some x):∃k:Tag,TagC cs k:=by
 obtain⟨xs,m,rfl,rfl,hl,hxl,hi⟩:=DataW.trod_struct Tryz.underlying216 h
 obtain⟨c0,c1,rfl⟩:=lst2 (hl.trans (show Tryz.prog.cellsOf 216=2 by kernel_rfl))
 clear hl h
 obtain⟨y0,h0⟩:=zpP (Q:=0) (n:=1) (cs:=[c0]) (show Tryz.prog.cellsOf 3=1 by kernel_rfl) (by rw[hxl];decide) (hi 0 _ rfl) rfl
 obtain⟨y1,h1⟩:=zpP (Q:=1) (n:=1) (cs:=[c1]) (show Tryz.prog.cellsOf 9=1 by kernel_rfl) (by rw[hxl];decide) (hi 1 _ rfl) rfl
 obtain⟨a0,e0,_,_⟩:=DataW.trod_int Tryz.underlying3 h0
 obtain rfl:=(List.cons.inj e0).1
 obtain⟨a1,e1,_,z1⟩:=DataW.trod_string Tryz.underlying9 h1
 obtain rfl:=(List.cons.inj e1).1
 exact⟨⟨a0,a1⟩,rfl,z1⟩
theorem ziJ {fuel:Nat} {cs:List Value} {x:DataW H×List MemPlace} (h:DataW.trod enc Tryz.prog W 0 sp held fuel 115 cs=some x):∃k:Fld,FldC cs k:=by
 obtain⟨xs,m,rfl,rfl,hl,hxl,hi⟩:=DataW.trod_struct Tryz.underlying115 h
 obtain⟨c0,c1,c2,rfl⟩:=lst3 (hl.trans (show Tryz.prog.cellsOf 115=3 by kernel_rfl))
 clear hl h
 obtain⟨y0,h0⟩:=zpP (Q:=0) (n:=1) (cs:=[c0]) (show Tryz.prog.cellsOf 9=1 by kernel_rfl) (by rw[hxl];decide) (hi 0 _ rfl) rfl
 obtain⟨y1,h1⟩:=zpP (Q:=1) (n:=2) (cs:=[c1,c2]) (show Tryz.prog.cellsOf 113=2 by kernel_rfl) (by rw[hxl];decide) (hi 1 _ rfl) rfl
 obtain⟨a0,e0,_,z0⟩:=DataW.trod_string Tryz.underlying9 h0
 obtain rfl:=(List.cons.inj e0).1
 obtain⟨a1,hk1⟩:=ziG h1
 obtain⟨e1,z1_0⟩:=hk1
 simp only[List.cons.injEq,and_true] at e1
 obtain⟨rfl,rfl⟩:=e1
 exact⟨⟨a0,a1⟩,rfl,z0,z1_0⟩
theorem ziK {fuel:Nat} {cs:List Value} {x:DataW H×List MemPlace} (h:DataW.trod enc Tryz.prog W 0 sp held fuel 198 cs=some x):∃k:Mp,MapC No W cs k:=by
 obtain⟨xs,m,rfl,rfl,hl,hxl,hi⟩:=DataW.trod_struct Tryz.underlying198 h
 obtain⟨c0,c1,c2,rfl⟩:=lst3 (hl.trans (show Tryz.prog.cellsOf 198=3 by kernel_rfl))
 clear hl h
 obtain⟨y0,h0⟩:=zpP (Q:=0) (n:=1) (cs:=[c0]) (show Tryz.prog.cellsOf 3=1 by kernel_rfl) (by rw[hxl];decide) (hi 0 _ rfl) rfl
 obtain⟨y1,h1⟩:=zpP (Q:=1) (n:=1) (cs:=[c1]) (show Tryz.prog.cellsOf 196=1 by kernel_rfl) (by rw[hxl];decide) (hi 1 _ rfl) rfl
 obtain⟨y2,h2⟩:=zpP (Q:=2) (n:=1) (cs:=[c2]) (show Tryz.prog.cellsOf 196=1 by kernel_rfl) (by rw[hxl];decide) (hi 2 _ rfl) rfl
 obtain⟨a0,e0,_,_⟩:=DataW.trod_int Tryz.underlying3 h0
 obtain rfl:=(List.cons.inj e0).1
 obtain⟨a1,s1⟩:=ziF (R:=TagC) Tryz.underlying196 (show Tryz.prog.cellsOf 216=2 by kernel_rfl) (by decide) (fun _ _ _ h=>ziI h) h1
 obtain⟨a2,s2⟩:=ziF (R:=TagC) Tryz.underlying196 (show Tryz.prog.cellsOf 216=2 by kernel_rfl) (by decide) (fun _ _ _ h=>ziI h) h2
 exact⟨⟨a0,a1,a2⟩,_,_,rfl,s1,s2⟩
theorem ziL {fuel:Nat} {cs:List Value} {x:DataW H×List MemPlace} (h:DataW.trod enc Tryz.prog W 0 sp held fuel 121 cs=some x):∃k:Mth,MthC No W cs k:=by
 obtain⟨xs,m,rfl,rfl,hl,hxl,hi⟩:=DataW.trod_struct Tryz.underlying121 h
 obtain⟨c0,c1,c2,c3,c4,c5,c6,c7,rfl⟩:=lst8 (hl.trans (show Tryz.prog.cellsOf 121=8 by kernel_rfl))
 clear hl h
 obtain⟨y0,h0⟩:=zpP (Q:=0) (n:=1) (cs:=[c0]) (show Tryz.prog.cellsOf 9=1 by kernel_rfl) (by rw[hxl];decide) (hi 0 _ rfl) rfl
 obtain⟨y1,h1⟩:=zpP (Q:=1) (n:=1) (cs:=[c1]) (show Tryz.prog.cellsOf 117=1 by kernel_rfl) (by rw[hxl];decide) (hi 1 _ rfl) rfl
 obtain⟨y2,h2⟩:=zpP (Q:=2) (n:=2) (cs:=[c2,c3]) (show Tryz.prog.cellsOf 113=2 by kernel_rfl) (by rw[hxl];decide) (hi 2 _ rfl) rfl
 obtain⟨y3,h3⟩:=zpP (Q:=4) (n:=1) (cs:=[c4]) (show Tryz.prog.cellsOf 3=1 by kernel_rfl) (by rw[hxl];decide) (hi 3 _ rfl) rfl
 obtain⟨y4,h4⟩:=zpP (Q:=5) (n:=1) (cs:=[c5]) (show Tryz.prog.cellsOf 3=1 by kernel_rfl) (by rw[hxl];decide) (hi 4 _ rfl) rfl
 obtain⟨y5,h5⟩:=zpP (Q:=6) (n:=1) (cs:=[c6]) (show Tryz.prog.cellsOf 118=1 by kernel_rfl) (by rw[hxl];decide) (hi 5 _ rfl) rfl
 obtain⟨y6,h6⟩:=zpP (Q:=7) (n:=1) (cs:=[c7]) (show Tryz.prog.cellsOf 119=1 by kernel_rfl) (by rw[hxl];decide) (hi 6 _ rfl) rfl
 obtain⟨a0,e0,_,z0⟩:=DataW.trod_string Tryz.underlying9 h0
 obtain rfl:=(List.cons.inj e0).1
 obtain⟨a1,s1⟩:=ziF (R:=KndC) Tryz.underlying117 (show Tryz.prog.cellsOf 113=2 by kernel_rfl) (by decide) (fun _ _ _ h=>ziG h) h1
 obtain⟨a2,hk2⟩:=ziG h2
 obtain⟨e2,z2_0⟩:=hk2
 simp only[List.cons.injEq,and_true] at e2
 obtain⟨rfl,rfl⟩:=e2
 obtain⟨a3,e3,_,_⟩:=DataW.trod_int Tryz.underlying3 h3
 obtain rfl:=(List.cons.inj e3).1
 obtain⟨a4,e4,_,_⟩:=DataW.trod_int Tryz.underlying3 h4
 obtain rfl:=(List.cons.inj e4).1
 obtain⟨a5,s5⟩:=ziF (R:=InsC) Tryz.underlying118 (show Tryz.prog.cellsOf 194=4 by kernel_rfl) (by decide) (fun _ _ _ h=>ziH h) h5
 obtain⟨a6,s6⟩:=ziF (R:=MapC No W) Tryz.underlying119 (show Tryz.prog.cellsOf 198=3 by kernel_rfl) (by decide) (fun _ _ _ h=>ziK h) h6
 exact⟨⟨a0,a1,a2,a3,a4,a5,a6⟩,_,_,_,rfl,z0,z2_0,s1,s5,s6⟩
theorem ziM {fuel:Nat} {cs:List Value} {x:DataW H×List MemPlace} (h:DataW.trod enc Tryz.prog W 0 sp held fuel 28 cs=some x):∃k:Cls,ClsC No W cs k:=by
 obtain⟨xs,m,rfl,rfl,hl,hxl,hi⟩:=DataW.trod_struct Tryz.underlying28 h
 obtain⟨c0,c1,c2,c3,rfl⟩:=lst4 (hl.trans (show Tryz.prog.cellsOf 28=4 by kernel_rfl))
 clear hl h
 obtain⟨y0,h0⟩:=zpP (Q:=0) (n:=1) (cs:=[c0]) (show Tryz.prog.cellsOf 9=1 by kernel_rfl) (by rw[hxl];decide) (hi 0 _ rfl) rfl
 obtain⟨y1,h1⟩:=zpP (Q:=1) (n:=1) (cs:=[c1]) (show Tryz.prog.cellsOf 9=1 by kernel_rfl) (by rw[hxl];decide) (hi 1 _ rfl) rfl
 obtain⟨y2,h2⟩:=zpP (Q:=2) (n:=1) (cs:=[c2]) (show Tryz.prog.cellsOf 25=1 by kernel_rfl) (by rw[hxl];decide) (hi 2 _ rfl) rfl
 obtain⟨y3,h3⟩:=zpP (Q:=3) (n:=1) (cs:=[c3]) (show Tryz.prog.cellsOf 26=1 by kernel_rfl) (by rw[hxl];decide) (hi 3 _ rfl) rfl
 obtain⟨a0,e0,_,z0⟩:=DataW.trod_string Tryz.underlying9 h0
 obtain rfl:=(List.cons.inj e0).1
 obtain⟨a1,e1,_,z1⟩:=DataW.trod_string Tryz.underlying9 h1
 obtain rfl:=(List.cons.inj e1).1
 obtain⟨a2,s2⟩:=ziF (R:=FldC) Tryz.underlying25 (show Tryz.prog.cellsOf 115=3 by kernel_rfl) (by decide) (fun _ _ _ h=>ziJ h) h2
 obtain⟨a3,s3⟩:=ziF (R:=MthC No W) Tryz.underlying26 (show Tryz.prog.cellsOf 121=8 by kernel_rfl) (by decide) (fun _ _ _ h=>ziL h) h3
 exact⟨⟨a0,a1,a2,a3⟩,_,_,rfl,z0,z1,s2,s3⟩
theorem ziN {fuel:Nat} {cs:List Value} {x:DataW H×List MemPlace} (h:DataW.trod enc Tryz.prog W 0 sp held fuel 158 cs=some x):∃k:Ask,AskC cs k:=by
 obtain⟨xs,m,rfl,rfl,hl,hxl,hi⟩:=DataW.trod_struct Tryz.underlying158 h
 obtain⟨c0,c1,rfl⟩:=lst2 (hl.trans (show Tryz.prog.cellsOf 158=2 by kernel_rfl))
 clear hl h
 obtain⟨y0,h0⟩:=zpP (Q:=0) (n:=1) (cs:=[c0]) (show Tryz.prog.cellsOf 9=1 by kernel_rfl) (by rw[hxl];decide) (hi 0 _ rfl) rfl
 obtain⟨y1,h1⟩:=zpP (Q:=1) (n:=1) (cs:=[c1]) (show Tryz.prog.cellsOf 3=1 by kernel_rfl) (by rw[hxl];decide) (hi 1 _ rfl) rfl
 obtain⟨a0,e0,_,z0⟩:=DataW.trod_string Tryz.underlying9 h0
 obtain rfl:=(List.cons.inj e0).1
 obtain⟨a1,e1,_,_⟩:=DataW.trod_int Tryz.underlying3 h1
 obtain rfl:=(List.cons.inj e1).1
 exact⟨⟨a0,a1⟩,rfl,z0⟩
theorem ziO {fuel:Nat} {cs:List Value} {x:DataW H×List MemPlace} (h:DataW.trod enc Tryz.prog W 0 sp held fuel 76 cs=some x):∃k:Kpr,KprC No W cs k:=by
 obtain⟨xs,m,rfl,rfl,hl,hxl,hi⟩:=DataW.trod_struct Tryz.underlying76 h
 obtain⟨c0,c1,rfl⟩:=lst2 (hl.trans (show Tryz.prog.cellsOf 76=2 by kernel_rfl))
 clear hl h
 obtain⟨y0,h0⟩:=zpP (Q:=0) (n:=1) (cs:=[c0]) (show Tryz.prog.cellsOf 73=1 by kernel_rfl) (by rw[hxl];decide) (hi 0 _ rfl) rfl
 obtain⟨y1,h1⟩:=zpP (Q:=1) (n:=1) (cs:=[c1]) (show Tryz.prog.cellsOf 74=1 by kernel_rfl) (by rw[hxl];decide) (hi 1 _ rfl) rfl
 obtain⟨a0,s0⟩:=ziF (R:=ClsC No W) Tryz.underlying73 (show Tryz.prog.cellsOf 28=4 by kernel_rfl) (by decide) (fun _ _ _ h=>ziM h) h0
 obtain⟨a1,s1⟩:=ziF (R:=AskC) Tryz.underlying74 (show Tryz.prog.cellsOf 158=2 by kernel_rfl) (by decide) (fun _ _ _ h=>ziN h) h1
 exact⟨⟨a0,a1⟩,_,_,rfl,s0,s1⟩
theorem ziP {fuel:Nat} {cs:List Value} {x:DataW H×List MemPlace} (h:DataW.trod enc Tryz.prog W 0 sp held fuel 24 cs=some x):∃k:Plan,zf9 No W cs k:=by
 obtain⟨xs,m,rfl,rfl,hl,hxl,hi⟩:=DataW.trod_struct Tryz.underlying24 h
 obtain⟨c0,rfl⟩:=lst1 (hl.trans (show Tryz.prog.cellsOf 24=1 by kernel_rfl))
 clear hl h
 obtain⟨y0,h0⟩:=zpP (Q:=0) (n:=1) (cs:=[c0]) (show Tryz.prog.cellsOf 22=1 by kernel_rfl) (by rw[hxl];decide) (hi 0 _ rfl) rfl
 obtain⟨a0,s0⟩:=ziF (R:=KprC No W) Tryz.underlying22 (show Tryz.prog.cellsOf 76=2 by kernel_rfl) (by decide) (fun _ _ _ h=>ziO h) h0
 exact⟨⟨a0⟩,_,rfl,s0⟩
end
section
variable {H:Type} {enc:TypeId×Value->H} {W:World} {sp:Nat->Bool} {held:Bool}
theorem zCF {fuel:Nat} {cs:List Value} {x:DataW H×List MemPlace} (h:DataW.trod enc Tryz.prog W 0 sp held fuel 30 cs=some x):∃k:Chg,ChgC No W cs k:=by
 obtain⟨xs,m,rfl,rfl,hl,hxl,hi⟩:=DataW.trod_struct Tryz.underlying30 h
 obtain⟨c0,c1,c2,c3,c4,c5,c6,c7,rfl⟩:=lst8 (hl.trans (show Tryz.prog.cellsOf 30=8 by kernel_rfl))
 clear hl h
 obtain⟨y0,hy0⟩:∃y,xs[0]? =some y:=⟨xs[0]'(by rw[hxl];decide),lz8 _⟩
 have h0:DataW.trod enc Tryz.prog W 0 sp held m 3 [c0]=some y0:=by
  have h9:DataW.trod enc Tryz.prog W 0 sp held m 3 (([c0,c1,c2,c3,c4,c5,c6,c7].drop 0).take (Tryz.prog.cellsOf 3))=xs[0]?:=hi 0 _ rfl
  rw[show Tryz.prog.cellsOf 3=1 by kernel_rfl,hy0] at h9
  exact h9
 obtain⟨y1,hy1⟩:∃y,xs[1]? =some y:=⟨xs[1]'(by rw[hxl];decide),lz8 _⟩
 have h1:DataW.trod enc Tryz.prog W 0 sp held m 3 [c1]=some y1:=by
  have h9:DataW.trod enc Tryz.prog W 0 sp held m 3 (([c0,c1,c2,c3,c4,c5,c6,c7].drop 1).take (Tryz.prog.cellsOf 3))=xs[1]?:=hi 1 _ rfl
  rw[show Tryz.prog.cellsOf 3=1 by kernel_rfl,hy1] at h9
  exact h9
 obtain⟨y2,hy2⟩:∃y,xs[2]? =some y:=⟨xs[2]'(by rw[hxl];decide),lz8 _⟩
 have h2:DataW.trod enc Tryz.prog W 0 sp held m 9 [c2]=some y2:=by
  have h9:DataW.trod enc Tryz.prog W 0 sp held m 9 (([c0,c1,c2,c3,c4,c5,c6,c7].drop 2).take (Tryz.prog.cellsOf 9))=xs[2]?:=hi 2 _ rfl
  rw[show Tryz.prog.cellsOf 9=1 by kernel_rfl,hy2] at h9
  exact h9
 obtain⟨y3,hy3⟩:∃y,xs[3]? =some y:=⟨xs[3]'(by rw[hxl];decide),lz8 _⟩
 have h3:DataW.trod enc Tryz.prog W 0 sp held m 3 [c3]=some y3:=by
  have h9:DataW.trod enc Tryz.prog W 0 sp held m 3 (([c0,c1,c2,c3,c4,c5,c6,c7].drop 3).take (Tryz.prog.cellsOf 3))=xs[3]?:=hi 3 _ rfl
  rw[show Tryz.prog.cellsOf 3=1 by kernel_rfl,hy3] at h9
  exact h9
 obtain⟨y4,hy4⟩:∃y,xs[4]? =some y:=⟨xs[4]'(by rw[hxl];decide),lz8 _⟩
 have h4:DataW.trod enc Tryz.prog W 0 sp held m 28 [c4,c5,c6,c7]=some y4:=by
  have h9:DataW.trod enc Tryz.prog W 0 sp held m 28 (([c0,c1,c2,c3,c4,c5,c6,c7].drop 4).take (Tryz.prog.cellsOf 28))=xs[4]?:=hi 4 _ rfl
  rw[show Tryz.prog.cellsOf 28=4 by kernel_rfl,hy4] at h9
  exact h9
 obtain⟨a0,e0,_,_⟩:=DataW.trod_int Tryz.underlying3 h0
 obtain rfl:=(List.cons.inj e0).1
 obtain⟨a1,e1,_,_⟩:=DataW.trod_int Tryz.underlying3 h1
 obtain rfl:=(List.cons.inj e1).1
 obtain⟨a2,e2,_,z2⟩:=DataW.trod_string Tryz.underlying9 h2
 obtain rfl:=(List.cons.inj e2).1
 obtain⟨a3,e3,_,_⟩:=DataW.trod_int Tryz.underlying3 h3
 obtain rfl:=(List.cons.inj e3).1
 obtain⟨a4,hk4⟩:=ziM h4
 obtain⟨v4_0,v4_1,e4,z4_0,z4_1,s4_0,s4_1⟩:=hk4
 simp only[List.cons.injEq,and_true] at e4
 obtain⟨rfl,rfl,rfl,rfl⟩:=e4
 exact⟨⟨a0,a1,a2,a3,a4⟩,_,_,rfl,z2,z4_0,z4_1,s4_0,s4_1⟩
end
end Go.Proofs.YtpghfhjhjlmljaaGreat
