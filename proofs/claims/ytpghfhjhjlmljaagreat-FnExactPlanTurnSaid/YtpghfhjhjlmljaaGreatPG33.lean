/- The reference's check of a method. -/
import Derived.Test.YtpghfhjhjlmljaaGreatPG32
import Derived.Test.YtpghfhjhjlmljaaGreatPG8
set_option maxHeartbeats 8000000
set_option maxRecDepth 100000
namespace Go.Proofs.YtpghfhjhjlmljaaGreat
open Go.RowKit
theorem zf6 (m:Mth):mthB m=(namB m.name&&decide (m.args.length≤3)&&kndB m.ret&&(decide ((m.args.length:Int)+1≤m.locals)&&decide (m.locals≤6))&&(decide (1≤m.stack)&&decide (m.stack≤5))&&zfW m&&zf4 m&&m.args.all kndB):=by
 unfold mthB
 ac_rfl
theorem zf7 (X:Nat->Prop) (m:Mth) (cs:List Value) (w:World) (h:MthC X w cs m):
  Calls Tryz.prog 69 #[.agg cs.toArray] w (zgm (mthB m) w):=by
 have hcod:=fun W (hW:Fr No w W)=>zlB X m cs W (h.keep hW zN)
 have hmap:=fun W (hW:Fr No w W)=>zlD X m cs W (h.keep hW zN)
 obtain⟨va,vc,vm,rfl,hn,hrn,ha,hvc,hvm⟩:=h
 obtain⟨A,cap,rfl,hcap,hlen⟩:=ha.form
 obtain⟨Ac,cc,rfl,_,_⟩:=hvc.form
 obtain⟨Am,cm,rfl,_,_⟩:=hvm.form
 clear hvc hvm
 have hlen':=hlen
 unfold maxLen at hlen'
 have hB:=Bx.new w 133 #[.string m.name,.slice A m.args.length cap,.int .i64 m.ret.kind,.string m.ret.name,.int .i64 m.locals,.int .i64 m.stack,.slice Ac m.code.length cc,.slice Am m.maps.length cm]
 have hN:=fun W=>zlv m.name W hn
 have hR:=fun W=>zlw m.ret W hrn
 have hL:=fun W=>zlz m.locals ((m.args.length:Int)+1) 6 W
 have hS:=fun W=>zlz m.stack 1 5 W
 have HE:=Lib.hid (zf6 m)
 have hcase:namB m.name=false∨(namB m.name=true∧decide (m.args.length≤3)=false)∨(namB m.name=true∧decide (m.args.length≤3)=true∧kndB m.ret=false) ∨
   (namB m.name=true∧decide (m.args.length≤3)=true∧kndB m.ret=true∧(decide ((m.args.length:Int)+1≤m.locals)&&decide (m.locals≤6))=false) ∨
   (namB m.name=true∧decide (m.args.length≤3)=true∧kndB m.ret=true∧(decide ((m.args.length:Int)+1≤m.locals)&&decide (m.locals≤6))=true∧(decide (1≤m.stack)&&decide (m.stack≤5))=false) ∨
   (namB m.name=true∧decide (m.args.length≤3)=true∧kndB m.ret=true∧(decide ((m.args.length:Int)+1≤m.locals)&&decide (m.locals≤6))=true∧(decide (1≤m.stack)&&decide (m.stack≤5))=true∧zfW m=false) ∨
   (namB m.name=true∧decide (m.args.length≤3)=true∧kndB m.ret=true∧(decide ((m.args.length:Int)+1≤m.locals)&&decide (m.locals≤6))=true∧(decide (1≤m.stack)&&decide (m.stack≤5))=true∧zfW m=true∧zf4 m=false) ∨
   (namB m.name=true∧decide (m.args.length≤3)=true∧kndB m.ret=true∧(decide ((m.args.length:Int)+1≤m.locals)&&decide (m.locals≤6))=true∧(decide (1≤m.stack)&&decide (m.stack≤5))=true∧zfW m=true∧zf4 m=true):=by
  generalize namB m.name=q1
  generalize decide (m.args.length≤3)=q2
  generalize kndB m.ret=q3
  generalize(decide ((m.args.length:Int)+1≤m.locals)&&decide (m.locals≤6))=q4
  generalize(decide (1≤m.stack)&&decide (m.stack≤5))=q5
  generalize zfW m=q6
  generalize zf4 m=q7
  cases q1<;>cases q2<;>cases q3<;>cases q4<;>cases q5<;>cases q6<;>cases q7<;>simp
 rcases hcase with g1 | ⟨g1,g2⟩ | ⟨g1,g2,g3⟩ | ⟨g1,g2,g3,g4⟩ | ⟨g1,g2,g3,g4,g5⟩ | ⟨g1,g2,g3,g4,g5,g6⟩ | ⟨g1,g2,g3,g4,g5,g6,g7⟩ | ⟨g1,g2,g3,g4,g5,g6,g7⟩
 all_goals
  rw[g1] at hN
  try rw[g3] at hR
  try rw[g4] at hL
  try rw[g5] at hS
  try simp only[g6] at hcod
  try simp only[g7] at hmap
  have G1:=Lib.hid g1
  try have G2:=Lib.hid g2
  try have G3:=Lib.hid g3
  try have G4:=Lib.hid g4
  try have G5:=Lib.hid g5
  try have G6:=Lib.hid g6
  try have G7:=Lib.hid g7
  try(have g2':decide (3<(m.args.length:Int))=true:=by simp at g2 ⊢;omega)
  try(have g2':decide (3<(m.args.length:Int))=false:=by simp at g2 ⊢;omega)
  try(have g2b:m.args.length≤3:=of_decide_eq_true g2)
  clear g1
  try clear g2
  try clear g3
  try clear g4
  try clear g5
  try clear g6
  try clear g7
  go_enter Tryz.func69,Tryz.ntmps69
  go_wp2_with (first
   | (go_at_call 36;refine(hN _).mono ?_;rintro e w' ⟨rfl,rfl⟩)
   | (go_at_call 67;refine(hR _).mono ?_;rintro e w1 ⟨rfl,hf1⟩;have hB1:=hB.keep hf1;obtain⟨e0,e1,e2,e3,e4,e5,e6,e7⟩:=hB1.c8;have hBl1:=hB1.lt;have hw1:Fr No w w1:=((Fr.refl No w).alloc _).trans0 hf1)
   | (go_at_call_of 34 (Value.int .i64 m.locals);refine(hL _).mono ?_;rintro e w' ⟨rfl,rfl⟩)
   | (go_at_call_of 34 (Value.int .i64 m.stack);refine(hS _).mono ?_;rintro e w' ⟨rfl,rfl⟩)
   | (go_at_call 101;refine(hcod _ hw1).mono ?_;rintro e w2 ⟨rfl,hf2⟩;have hB2:=hB1.keep hf2;obtain⟨f0,f1,f2,f3,f4,f5,f6,f7⟩:=hB2.c8;have hBl2:=hB2.lt;have hw2:=hw1.trans0 hf2)
   | (go_at_call 102;refine(hmap _ hw2).mono ?_;rintro e w3 ⟨rfl,hf3⟩;have hB3:=hB2.keep hf3;obtain⟨d0,d1,d2,d3,d4,d5,d6,d7⟩:=hB3.c8;have hBl3:=hB3.lt;have hw3:=hw2.trans0 hf3))
 ·go_ret;exact .mk (by rw[HE.out,G1.out];simp) (by exact frc)
 ·go_ret;exact .mk (by rw[HE.out,G2.out];simp) (by exact frc)
 ·go_ret;exact .mk (by rw[HE.out,G3.out];simp) (by exact frc)
 ·go_ret;exact .mk (by rw[HE.out,G4.out];simp) (by exact frc)
 ·go_ret;exact .mk (by rw[HE.out,G5.out];simp) (by exact frc)
 ·go_ret;exact .mk (by rw[HE.out,G6.out];simp) (by exact frc)
 ·go_ret;exact .mk (by rw[HE.out,G7.out];simp) (by exact frc)
 ·have HE':Hid (mthB m=m.args.all kndB):=by have:=HE.out;rw[G1.out,G2.out,G3.out,G4.out,G5.out,G6.out,G7.out] at this;show mthB m=_;simpa using this
  clear e0 e1 e2 e3 e4 e5 e6 e7 f0 f1 f2 f3 f4 f5 f6 f7 d0 d1 d2 d3 d4 d5 d6 d7 hN hR hL hS hcod hmap hB hB1 hB2 hf1 hf2 hf3 hBl1 hBl2 HE G1 G2 G3 G4 G5 G6 G7
  go_loopw [3,2] (fun i r wr=>∃k:Nat,k≤m.args.length∧i=.int .i64 k∧r=.bool false∧Hid (m.args.all kndB=(m.args.drop k).all kndB)∧Fr No w3 wr) (fun i _ _=>m.args.length-(intOf i).toNat)
  case atStart=>exact⟨0,Nat.zero_le _,rfl,rfl,rfl,Fr.refl _ _⟩
  case round=>
   obtain⟨k,hk,rfl,rfl,hd,hf⟩:=hrel
   have hw:Fr No w wr:=hw3.trans0 hf
   have hB':=hB3.keep hf
   obtain⟨b0,b1,b2,b3,b4,b5,b6,b7⟩:=hB'.c8
   have hBl:=hB'.lt
   clear hB3
   by_cases hlt:k<m.args.length
   ·obtain⟨b,off,rfl,hX,c0,c1,hs⟩:=(ha.k0 hw).knd hlt
    clear ha
    have H:=fun W=>zlw m.args[k] W hs
    rw[List.drop_eq_getElem_cons hlt,List.all_cons] at hd
    have hd:=Lib.hid hd
    generalize m.args[k]=x at *
    cases hx:kndB x
    all_goals
     simp only[hx] at H
     have hx:=Lib.hid hx
     go_wp2_with (go_at_call 67;refine(H _).mono ?_;rintro e w4 ⟨rfl,hf4⟩)
    ·have HS:Hid (m.args.all kndB=false):=by have:=hd.out.out;rwa [hx.out,Bool.false_and] at this
     go_ret;exact .mk (by rw[HE'.out,HS.out]) (by exact frc)
    ·go_roundw
     case rel=>exact⟨k+1,by omega,by go_num,rfl,by have:=hd.out.out;rwa [hx.out,Bool.true_and] at this,by exact frc⟩
     case measure=>simp[intOf];omega
   ·have ha':Hid (m.args.all kndB=true):=by have:=hd.out;rwa [List.drop_eq_nil_of_le (by omega)] at this
    clear ha hd
    go_wp2
    go_ret
    exact .mk (by rw[HE'.out,ha'.out]) (by exact frc)
theorem zeV.toFr {X:Nat->Prop} {n:Int} {a W w':World} {e:Ending} (h:zeV n W e w') (hW:Fr X a W):e=.returned (.int .i64 n)∧Fr X a w':=⟨h.1,hW.trans0 h.2⟩
theorem zf8 (X:Nat->Prop) (c:Cls) (cs:List Value) (w:World) (h:ClsC X w cs c):
  Calls Tryz.prog 38 #[.agg cs.toArray] w (zgm (clsB c) w):=by
 obtain⟨vf,vm,rfl,hn,hsn,hf,hm⟩:=h
 obtain⟨Af,cf,rfl,hcf,hfl⟩:=hf.form
 obtain⟨Am,cm,rfl,hcm,hml⟩:=hm.form
 have hfl':=hfl
 have hml':=hml
 unfold maxLen at hfl' hml'
 have hB:=Bx.new w 42 #[.string c.name,.string c.super,.slice Af c.fields.length cf,.slice Am c.methods.length cm]
 have hN:=fun W=>zlv c.name W hn
 have hS:=fun W=>zlv c.super W hsn
 have hcase:namB c.name=false∨(namB c.name=true∧c.super.toList.isEmpty=false∧namB c.super=false)∨(namB c.name=true∧(c.super.toList.isEmpty=true∨c.super.toList.isEmpty=false∧namB c.super=true)∧3<c.fields.length) ∨
   (namB c.name=true∧(c.super.toList.isEmpty=true∨c.super.toList.isEmpty=false∧namB c.super=true)∧c.fields.length≤3∧4<c.methods.length) ∨
   (namB c.name=true∧(c.super.toList.isEmpty=true∨c.super.toList.isEmpty=false∧namB c.super=true)∧c.fields.length≤3∧c.methods.length≤4):=by
  cases namB c.name<;>cases namB c.super<;>cases c.super.toList.isEmpty<;>simp<;>omega
 rcases hcase with g1 | ⟨g1,g2,g3⟩ | ⟨g1,g2 | ⟨g2,g3⟩,g4⟩ | ⟨g1,g2 | ⟨g2,g3⟩,g4,g5⟩ | ⟨g1,g2 | ⟨g2,g3⟩,g4,g5⟩
 all_goals
  try simp only[g1] at hN
  try simp only[g3] at hS
  have G1:=Lib.hid g1
  try have G2:=Lib.hid g2
  try have G3:=Lib.hid g3
  clear g1
  try clear g3
  go_enter Tryz.func38,Tryz.ntmps38
  go_wp2_with (first
   | (go_at_call_of 36 (Value.string c.name);refine(hN _).mono ?_;rintro e w' ⟨rfl,rfl⟩)
   | (go_at_call_of 36 (Value.string c.super);refine(hS _).mono ?_;rintro e w' ⟨rfl,rfl⟩))
 ·go_ret;exact .mk (by rw[zeK (.inl G1.out)]) (by exact frc)
 ·go_ret;exact .mk (by rw[zeK (.inr (.inl ⟨G2.out,G3.out⟩))]) (by exact frc)
 ·go_ret;exact .mk (by rw[zeK (.inr (.inr (.inl (by omega))))]) (by exact frc)
 ·go_ret;exact .mk (by rw[zeK (.inr (.inr (.inl (by omega))))]) (by exact frc)
 ·go_ret;exact .mk (by rw[zeK (.inr (.inr (.inr (.inl (by omega)))))]) (by exact frc)
 ·go_ret;exact .mk (by rw[zeK (.inr (.inr (.inr (.inl (by omega)))))]) (by exact frc)
 all_goals
  have G23:Hid ((c.super.toList.isEmpty || namB c.super)=true):=by unfold Hid;first|(rw[G2.out];rfl)|(rw[G3.out];simp)
  clear G2 g2 hN hS
  try clear G3
  have hw0:Fr No w (w.alloc (.cells #[.string c.name,.string c.super,.slice Af c.fields.length cf,.slice Am c.methods.length cm] 42)):=(Fr.refl No w).alloc _
  go_loopw [3,2] (fun i r wr=>∃k:Nat,k≤c.fields.length∧i=.int .i64 k∧r=.bool false∧Hid (zeI [] c.fields=zeI (c.fields.take k) (c.fields.drop k)) ∧
   Bx wr w.heap.size 42 #[.string c.name,.string c.super,.slice Af c.fields.length cf,.slice Am c.methods.length cm]∧Fr No w wr) (fun i _ _=>c.fields.length-(intOf i).toNat)
  case atStart=>exact⟨0,Nat.zero_le _,rfl,rfl,rfl,hB,hw0⟩
  case round=>
   obtain⟨k,hk,rfl,rfl,hd,hB',hw⟩:=hrel
   clear hB hw0
   obtain⟨b0,b1,b2,b3⟩:=hB'.c4
   have hBl:=hB'.lt
   by_cases hlt:k<c.fields.length
   ·have hfw:=hf.k0 hw
    have htk:=hfw.take (Nat.le_of_lt hlt)
    obtain⟨b,off,rfl,hX,c0,c1,c2,hs1,hs2⟩:=hfw.fld hlt
    have hbl:=lt_of_cell c0
    clear hf hm hfw
    have HN:=fun W=>zlv c.fields[k].name W hs1
    have HK:=fun W=>zlw c.fields[k].kind W hs2
    have HF:=fun W (h:Fr No wr W)=>zeW X _ (c.fields.take k) c.fields[k].name W (htk.k0 h) hs1
    clear htk
    have hd:=Lib.hid (zeM hlt hd.out)
    generalize c.fields[k]=f at *
    have hkk:(k:Int).toNat=k:=by omega
    have hkc:k≤cf:=by omega
    have hneg:ixOf (zeT f.name) (c.fields.take k)=-1∧(c.fields.take k).all (fun g=>!(g.name.toList == f.name.toList))=true∨0≤ixOf (zeT f.name) (c.fields.take k)∧(c.fields.take k).all (fun g=>!(g.name.toList == f.name.toList))=false:=by
     have h1:=zeR (zeT f.name) (c.fields.take k)
     have h2:=zeS (zeT f.name) (c.fields.take k)
     unfold zeT at h1 h2 ⊢
     cases ha:(c.fields.take k).all (fun g=>!(g.name.toList == f.name.toList))
     ·rw[ha] at h1;simp at h1;exact .inr ⟨h1,rfl⟩
     ·rw[ha] at h1;simp at h1;exact .inl ⟨by omega,rfl⟩
    generalize ixOf (zeT f.name) (c.fields.take k)=ix at *
    have hcase:namB f.name=false∨(namB f.name=true∧kndB f.kind=false)∨(namB f.name=true∧kndB f.kind=true):=by
     cases namB f.name<;>cases kndB f.kind<;>simp
    have hA:Fr No wr wr:=Fr.refl _ _
    have e0:=fun W (h:Fr No wr W)=>(hB'.keep h).c4.1
    have e1:=fun W (h:Fr No wr W)=>(hB'.keep h).c4.2.1
    have e2:=fun W (h:Fr No wr W)=>(hB'.keep h).c4.2.2.1
    have e3:=fun W (h:Fr No wr W)=>(hB'.keep h).c4.2.2.2
    have q0:=kp c0
    have q1:=kp c1
    have q2:=kp c2
    go_wp2_with fail
    (refine zgc (X:=No) (by kernel_rfl) (by kernel_rfl) ?_)
    clear b0 b1 b2 b3 c0 c1 c2 hA
    rcases hcase with g1 | ⟨g1,g2⟩ | ⟨g1,g2⟩
    all_goals
     rw[g1] at HN
     try rw[g2] at HK
    ·have HS:Hid (clsB c=false):=zeK (.inr (.inr (.inr (.inr (.inl (by rw[hd.out,g1];rfl))))))
     clear g1 hneg hd
     (repeat((first|go_big_quiet_skip|(go_big_quiet_want;(apply Exists.intro;refine⟨fun W hW=>?_,?_⟩);(focus (first|exact fqc|(go_simp;first|(go_at_call 36;exact(HN W).mono (fun _ _ h=>zgl.toFr h hW)))));go_big_quiet_on));(try simp only[Act.put,lz0,lz1,lz2])));refine wpQuiet_nil ?_
     intro w1 hf1
     clear e0 e1 e2 e3 q0 q1 q2 HN HK HF
     go_wp2
     go_ret;exact .mk (by rw[HS.out]) (by exact frc)
    ·have HS:Hid (clsB c=false):=zeK (.inr (.inr (.inr (.inr (.inl (by rw[hd.out,g1,g2];rfl))))))
     clear g1 g2 hneg hd
     (repeat((first|go_big_quiet_skip|(go_big_quiet_want;(apply Exists.intro;refine⟨fun W hW=>?_,?_⟩);(focus (first|exact fqc|(go_simp;first|(go_at_call 36;exact(HN W).mono (fun _ _ h=>zgl.toFr h hW))|(go_at_call 67;exact(HK W).mono (fun _ _ h=>zgm.toFr h hW)))));go_big_quiet_on));(try simp only[Act.put,lz0,lz1,lz2])));refine wpQuiet_nil ?_
     intro w1 hf1
     clear e0 e1 e2 e3 q0 q1 q2 HN HK HF
     go_wp2
     go_ret;exact .mk (by rw[HS.out]) (by exact frc)
    ·rcases hneg with ⟨rfl,ha⟩ | ⟨hix,ha⟩
     ·have HS:Hid (zeI [] c.fields=zeI (c.fields.take (k+1)) (c.fields.drop (k+1))):=by
       have:=hd.out;rwa [g1,g2,ha,Bool.true_and,Bool.true_and,Bool.true_and] at this
      clear g1 g2 hd ha
      (repeat((first|go_big_quiet_skip|(go_big_quiet_want;(apply Exists.intro;refine⟨fun W hW=>?_,?_⟩);(focus (first|exact fqc|(go_simp;first|(go_at_call 36;exact(HN W).mono (fun _ _ h=>zgl.toFr h hW))|(go_at_call 67;exact(HK W).mono (fun _ _ h=>zgm.toFr h hW))|(go_at_call 68;exact(HF W hW).mono (fun _ _ h=>zeV.toFr h hW)))));go_big_quiet_on));(try simp only[Act.put,lz0,lz1,lz2])));refine wpQuiet_nil ?_
      intro w1 hf1
      clear e0 e1 e2 e3 q0 q1 q2 HN HK HF
      go_wp2
      go_roundw
      case rel=>exact⟨k+1,by omega,by go_num,rfl,HS,hB'.keep hf1,by exact frc⟩
      case measure=>simp[intOf];omega
     ·have HS:Hid (clsB c=false):=zeK (.inr (.inr (.inr (.inr (.inl (by rw[hd.out,g1,g2,ha];rfl))))))
      clear g1 g2 hd ha
      (repeat((first|go_big_quiet_skip|(go_big_quiet_want;(apply Exists.intro;refine⟨fun W hW=>?_,?_⟩);(focus (first|exact fqc|(go_simp;first|(go_at_call 36;exact(HN W).mono (fun _ _ h=>zgl.toFr h hW))|(go_at_call 67;exact(HK W).mono (fun _ _ h=>zgm.toFr h hW))|(go_at_call 68;exact(HF W hW).mono (fun _ _ h=>zeV.toFr h hW)))));go_big_quiet_on));(try simp only[Act.put,lz0,lz1,lz2])));refine wpQuiet_nil ?_
      intro w1 hf1
      clear e0 e1 e2 e3 q0 q1 q2 HN HK HF
      go_wp2
      go_ret;exact .mk (by rw[HS.out]) (by exact frc)
   ·have G5:Hid (zeI [] c.fields=true):=by have:=hd.out;rwa [List.drop_eq_nil_of_le (by omega)] at this
    clear hf hd
    go_wp2
    obtain⟨wz,rfl⟩:∃wz:World,wz=wr:=⟨_,rfl⟩
    go_loopw [4,2] (fun i r wq=>∃k:Nat,k≤c.methods.length∧i=.int .i64 k∧r=.bool false∧Hid (zeJ [] c.methods=zeJ (c.methods.take k) (c.methods.drop k))∧Fr No wz wq) (fun i _ _=>c.methods.length-(intOf i).toNat)
    case atStart=>exact⟨0,Nat.zero_le _,rfl,rfl,rfl,Fr.refl _ _⟩
    case round=>
     clear b0 b1 b2 b3 hBl
     obtain⟨k,hk,rfl,rfl,hd,hfr⟩:=hrel
     have hB2:=hB'.keep hfr
     obtain⟨b0,b1,b2,b3⟩:=hB2.c4
     have hBl:=hB2.lt
     have hwr:Fr No w wr:=hw.trans0 hfr
     by_cases hlt:k<c.methods.length
     ·have hfw:=hm.keep hwr zN (fun _ _ _ h=>h.keep hwr zN)
      have htk:=hfw.take (Nat.le_of_lt hlt)
      obtain⟨b,off,Aa,ca,Ac,cc,Ax,cx,rfl,hX,c0,c1,c2,c3,c4,c5,c6,c7,hr1,hr2,hr3,hr4,hr5,_,_,_,_,_,_⟩:=hfw.mth hlt
      have hbl:=lt_of_cell c0
      have hR:MthC X wr [.string c.methods[k].name,.slice Aa c.methods[k].args.length ca,.int .i64 c.methods[k].ret.kind,.string c.methods[k].ret.name,.int .i64 c.methods[k].locals,.int .i64 c.methods[k].stack,.slice Ac c.methods[k].code.length cc,.slice Ax c.methods[k].maps.length cx] c.methods[k]:=⟨_,_,_,rfl,hr1,hr2,hr3,hr4,hr5⟩
      have HM:=fun W (h:Fr No wr W)=>zf7 X c.methods[k] _ W (hR.keep h zN)
      have HF:=fun W (h:Fr No wr W)=>zeX X _ (c.methods.take k) c.methods[k].name W (htk.keep h zN (fun _ _ _ h9=>h9.keep h zN)) hr1
      clear hm hfw hr1 hr2 hr3 hr4 hr5 hR htk
      have hd:=Lib.hid (zeN hlt hd.out)
      have hkk:(k:Int).toNat=k:=by omega
      have hkc:k≤cm:=by omega
      generalize c.methods[k]=f at *
      have hneg:ixOf (zeU f.name) (c.methods.take k)=-1∧(c.methods.take k).all (fun g=>!(g.name.toList == f.name.toList))=true∨0≤ixOf (zeU f.name) (c.methods.take k)∧(c.methods.take k).all (fun g=>!(g.name.toList == f.name.toList))=false:=by
       have h1:=zeR (zeU f.name) (c.methods.take k)
       have h2:=zeS (zeU f.name) (c.methods.take k)
       unfold zeU at h1 h2 ⊢
       cases ha:(c.methods.take k).all (fun g=>!(g.name.toList == f.name.toList))
       ·rw[ha] at h1;simp at h1;exact .inr ⟨h1,rfl⟩
       ·rw[ha] at h1;simp at h1;exact .inl ⟨by omega,rfl⟩
      generalize ixOf (zeU f.name) (c.methods.take k)=ix at *
      have hcase:mthB f=false∨mthB f=true:=by cases mthB f<;>simp
      have e0:=fun W (h:Fr No wr W)=>(hB2.keep h).c4.1
      have e1:=fun W (h:Fr No wr W)=>(hB2.keep h).c4.2.1
      have e2:=fun W (h:Fr No wr W)=>(hB2.keep h).c4.2.2.1
      have e3:=fun W (h:Fr No wr W)=>(hB2.keep h).c4.2.2.2
      have q0:=kp c0
      have q1:=kp c1
      have q2:=kp c2
      have q3:=kp c3
      have q4:=kp c4
      have q5:=kp c5
      have q6:=kp c6
      have q7:=kp c7
      go_wp2_with fail
      (refine zgc (X:=No) (by kernel_rfl) (by kernel_rfl) ?_)
      clear b0 b1 b2 b3 c0 c1 c2 c3 c4 c5 c6 c7
      rcases hcase with g1|g1
      ·rw[g1] at HM
       have HS:Hid (clsB c=false):=zeK (.inr (.inr (.inr (.inr (.inr (by rw[hd.out,g1];rfl))))))
       clear g1 hneg hd
       (repeat((first|go_big_quiet_skip|(go_big_quiet_want;(apply Exists.intro;refine⟨fun W hW=>?_,?_⟩);(focus (first|exact fqc|(go_simp;first|(go_at_call 69;exact(HM W hW).mono (fun _ _ h=>zgm.toFr h hW)))));go_big_quiet_on));(try simp only[Act.put,lz0,lz1,lz2])));refine wpQuiet_nil ?_
       intro w1 hf1
       clear e0 e1 e2 e3 q0 q1 q2 q3 q4 q5 q6 q7 HM HF
       go_wp2
       go_ret;exact .mk (by rw[HS.out]) (by exact frc)
      ·rw[g1] at HM
       rcases hneg with ⟨rfl,ha⟩ | ⟨hix,ha⟩
       ·have HS:Hid (zeJ [] c.methods=zeJ (c.methods.take (k+1)) (c.methods.drop (k+1))):=by
         have:=hd.out;rwa [g1,ha,Bool.true_and,Bool.true_and] at this
        clear g1 hd ha
        (repeat((first|go_big_quiet_skip|(go_big_quiet_want;(apply Exists.intro;refine⟨fun W hW=>?_,?_⟩);(focus (first|exact fqc|(go_simp;first|(go_at_call 69;exact(HM W hW).mono (fun _ _ h=>zgm.toFr h hW))|(go_at_call 70;exact(HF W hW).mono (fun _ _ h=>zeV.toFr h hW)))));go_big_quiet_on));(try simp only[Act.put,lz0,lz1,lz2])));refine wpQuiet_nil ?_
        intro w1 hf1
        clear e0 e1 e2 e3 q0 q1 q2 q3 q4 q5 q6 q7 HM HF
        go_wp2
        go_roundw
        case rel=>exact⟨k+1,by omega,by go_num,rfl,HS,by exact frc⟩
        case measure=>simp[intOf];omega
       ·have HS:Hid (clsB c=false):=zeK (.inr (.inr (.inr (.inr (.inr (by rw[hd.out,g1,ha];rfl))))))
        clear g1 hd ha
        (repeat((first|go_big_quiet_skip|(go_big_quiet_want;(apply Exists.intro;refine⟨fun W hW=>?_,?_⟩);(focus (first|exact fqc|(go_simp;first|(go_at_call 69;exact(HM W hW).mono (fun _ _ h=>zgm.toFr h hW))|(go_at_call 70;exact(HF W hW).mono (fun _ _ h=>zeV.toFr h hW)))));go_big_quiet_on));(try simp only[Act.put,lz0,lz1,lz2])));refine wpQuiet_nil ?_
        intro w1 hf1
        clear e0 e1 e2 e3 q0 q1 q2 q3 q4 q5 q6 q7 HM HF
        go_wp2
        go_ret;exact .mk (by rw[HS.out]) (by exact frc)
     ·have G6:Hid (clsB c=true):=zeL G1.out G23.out (by omega) (by omega) G5.out (by have:=hd.out;rwa [List.drop_eq_nil_of_le (by omega)] at this)
      clear hm hd
      go_wp2
      go_ret;exact .mk (by rw[G6.out]) (by exact frc)
end Go.Proofs.YtpghfhjhjlmljaaGreat
