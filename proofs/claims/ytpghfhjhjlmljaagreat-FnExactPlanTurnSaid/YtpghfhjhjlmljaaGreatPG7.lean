/- The program's own check of a method. -/
import Derived.Test.YtpghfhjhjlmljaaGreatPG3
set_option maxHeartbeats 2000000
set_option maxRecDepth 100000
namespace Go.Proofs.YtpghfhjhjlmljaaGreat
open Go.RowKit
theorem zeE (s:Str) (w:World) (hs:s.size≤maxLen):
  Calls Tryz.prog 45 #[.string s] w (zgl (namB s) w):=by
 go_enter Tryz.func45,Tryz.ntmps45
 go_wp2_with (go_at_call 76;refine(zfm _ _ hs).mono ?_;rintro e w' ⟨rfl,rfl⟩)
 go_ret
 exact .mk rfl
def mthB (m:Mth):Bool:=
 namB m.name&&decide (m.args.length≤3)&&kndB m.ret&&m.args.all kndB&&decide ((m.args.length:Int)+1≤m.locals)&&decide (m.locals≤6)&&decide (1≤m.stack)&&decide (m.stack≤5)&&zfW m&&zf4 m
theorem zeF {m:Mth} (g:namB m.name=false∨3<m.args.length∨kndB m.ret=false∨m.args.all kndB=false∨m.locals<(m.args.length:Int)+1∨6<m.locals∨m.stack<1∨5<m.stack∨zfW m=false∨zf4 m=false):mthB m=false:=by
 unfold mthB
 rcases g with g|g|g|g|g|g|g|g|g|g
 ·rw[g];simp
 ·rw[decide_eq_false (show ¬m.args.length≤3 by omega)];simp
 ·rw[g];simp
 ·rw[g];simp
 ·rw[decide_eq_false (show ¬(m.args.length:Int)+1≤m.locals by omega)];simp
 ·rw[decide_eq_false (show ¬m.locals≤6 by omega)];simp
 ·rw[decide_eq_false (show ¬1≤m.stack by omega)];simp
 ·rw[decide_eq_false (show ¬m.stack≤5 by omega)];simp
 ·rw[g];simp
 ·rw[g];simp
theorem zeG {m:Mth} (g1:namB m.name=true) (g2:m.args.length≤3) (g3:kndB m.ret=true) (g4:m.args.all kndB=true) (g5:(m.args.length:Int)+1≤m.locals) (g6:m.locals≤6) (g7:1≤m.stack) (g8:m.stack≤5) (g9:zfW m=true) (g10:zf4 m=true):mthB m=true:=by
 simp only[mthB,g1,g2,g3,g4,g5,g6,g7,g8,g9,g10,decide_true,Bool.and_true]
theorem zeH (X:Nat->Prop) (m:Mth) (cs:List Value) (w:World) (h:MthC X w cs m):
  Calls Tryz.prog 78 #[.agg cs.toArray] w (zgm (mthB m) w):=by
 have hcod:=fun W (hW:Fr No w W)=>zfX X m cs W (h.keep hW zN)
 have hmap:=fun W (hW:Fr No w W)=>zf5 X m cs W (h.keep hW zN)
 obtain⟨va,vc,vm,rfl,hn,hrn,ha,_,_⟩:=h
 obtain⟨A,cap,rfl,hcap,hlen⟩:=ha.form
 have hlen':=hlen
 unfold maxLen at hlen'
 have hB:=Bx.new w 133 #[.string m.name,.slice A m.args.length cap,.int .i64 m.ret.kind,.string m.ret.name,.int .i64 m.locals,.int .i64 m.stack,vc,vm]
 have hN:=fun W=>zeE m.name W hn
 have hR:=fun W=>zfn m.ret W hrn
 have hcase:namB m.name=false∨(namB m.name=true∧3<m.args.length)∨(namB m.name=true∧m.args.length≤3∧kndB m.ret=false)∨(namB m.name=true∧m.args.length≤3∧kndB m.ret=true):=by
  cases namB m.name<;>cases kndB m.ret<;>simp<;>omega
 rcases hcase with g1 | ⟨g1,g2⟩ | ⟨g1,g2,g3⟩ | ⟨g1,g2,g3⟩
 all_goals
  try simp only[g1] at hN
  try simp only[g3] at hR
  have G1:=Lib.hid g1
  try have G3:=Lib.hid g3
  go_enter Tryz.func78,Tryz.ntmps78
  go_wp2_with (first
   | (go_at_call 45;refine(hN _).mono ?_;rintro e w' ⟨rfl,rfl⟩)
   | (go_at_call 77;refine(hR _).mono ?_;rintro e w1 ⟨rfl,hf1⟩;have hB1:=hB.keep hf1;obtain⟨e0,e1,e2,e3,e4,e5,e6,e7⟩:=hB1.c8;have hBl:=hB1.lt))
 ·go_ret;exact .mk (by rw[zeF (.inl G1.out)]) (by exact frc)
 ·go_ret;exact .mk (by rw[zeF (.inr (.inl (by omega)))]) (by exact frc)
 ·go_ret;exact .mk (by rw[zeF (.inr (.inr (.inl G3.out)))]) (by exact frc)
 ·have hw1:Fr No w w1:=((Fr.refl No w).alloc _).trans0 hf1
  clear e0 e1 e2 e3 e4 e5 e6 e7 hBl hN hR hB hf1
  go_loopw [24,2] (fun i r wr=>∃k:Nat,k≤m.args.length∧i=.int .i64 k∧r=.bool false∧Hid (m.args.all kndB=(m.args.drop k).all kndB)∧Fr No w1 wr) (fun i _ _=>m.args.length-(intOf i).toNat)
  case atStart=>exact⟨0,Nat.zero_le _,rfl,rfl,rfl,Fr.refl _ _⟩
  case round=>
   obtain⟨k,hk,rfl,rfl,hd,hf⟩:=hrel
   have hw:Fr No w wr:=hw1.trans0 hf
   have hB':=hB1.keep hf
   obtain⟨b0,b1,b2,b3,b4,b5,b6,b7⟩:=hB'.c8
   have hBl:=hB'.lt
   clear hB1
   by_cases hlt:k<m.args.length
   ·obtain⟨b,off,rfl,hX,c0,c1,hs⟩:=(ha.k0 hw).knd hlt
    clear ha hcod hmap
    have H:=fun W=>zfn m.args[k] W hs
    rw[List.drop_eq_getElem_cons hlt,List.all_cons] at hd
    have hd:=Lib.hid hd
    generalize m.args[k]=x at *
    cases hx:kndB x
    all_goals
     simp only[hx] at H
     have hx:=Lib.hid hx
     go_wp2_with (go_at_call 77;refine(H _).mono ?_;rintro e w2 ⟨rfl,hf2⟩)
    ·have HS:Hid (m.args.all kndB=false):=by have:=hd.out.out;rwa [hx.out,Bool.false_and] at this
     go_ret;exact .mk (by rw[zeF (.inr (.inr (.inr (.inl HS.out))))]) (by exact frc)
    ·go_roundw
     case rel=>exact⟨k+1,by omega,by go_num,rfl,by have:=hd.out.out;rwa [hx.out,Bool.true_and] at this,by exact frc⟩
     case measure=>simp[intOf];omega
   ·have ha':Hid (m.args.all kndB=true):=by have:=hd.out;rwa [List.drop_eq_nil_of_le (by omega)] at this
    clear ha hd
    have hcase:m.locals<(m.args.length:Int)+1∨((m.args.length:Int)+1≤m.locals∧6<m.locals)∨((m.args.length:Int)+1≤m.locals∧m.locals≤6∧m.stack<1) ∨
      ((m.args.length:Int)+1≤m.locals∧m.locals≤6∧1≤m.stack∧5<m.stack)∨((m.args.length:Int)+1≤m.locals∧m.locals≤6∧1≤m.stack∧m.stack≤5∧zfW m=false) ∨
      ((m.args.length:Int)+1≤m.locals∧m.locals≤6∧1≤m.stack∧m.stack≤5∧zfW m=true):=by
     cases zfW m<;>simp<;>omega
    have hcod:=hcod wr hw
    have hmap:=fun W (h:Fr No wr W)=>hmap W (hw.trans0 h)
    rcases hcase with g1 | ⟨g1,g2⟩ | ⟨g1,g2,g3⟩ | ⟨g1,g2,g3,g4⟩ | ⟨g1,g2,g3,g4,g5⟩ | ⟨g1,g2,g3,g4,g5⟩
    all_goals
     try simp only[g5] at hcod
     try have G5:=Lib.hid g5
     go_wp2_with (first
      | (go_at_call 110;refine hcod.mono ?_;rintro e w2 ⟨rfl,hf2⟩;obtain⟨f0,f1,f2,f3,f4,f5,f6,f7⟩:=(hB'.keep hf2).c8)
      | (go_at_call 111;refine(hmap _ (by exact frc)).mono ?_;rintro e w3 ⟨rfl,hf3⟩))
    ·go_ret;exact .mk (by rw[zeF (by omega)]) (by exact frc)
    ·go_ret;exact .mk (by rw[zeF (by omega)]) (by exact frc)
    ·go_ret;exact .mk (by rw[zeF (by omega)]) (by exact frc)
    ·go_ret;exact .mk (by rw[zeF (by omega)]) (by exact frc)
    ·go_ret;exact .mk (by rw[zeF (by simp[G5.out])]) (by exact frc)
    ·go_ret;exact .mk (by
      cases hm:zf4 m
      ·rw[zeF (by simp[hm])]
      ·rw[zeG G1.out (by omega) G3.out ha'.out g1 (by omega) (by omega) (by omega) G5.out hm]) (by exact frc)
def zeI:List Fld->List Fld->Bool
 | _,[]=>true
 | seen,f :: fs=>namB f.name&&kndB f.kind&&seen.all (fun g=>!(g.name.toList == f.name.toList))&&zeI (seen ++ [f]) fs
def zeJ:List Mth->List Mth->Bool
 | _,[]=>true
 | seen,f :: fs=>mthB f&&seen.all (fun g=>!(g.name.toList == f.name.toList))&&zeJ (seen ++ [f]) fs
def clsB (c:Cls):Bool:=
 namB c.name&&(c.super.toList.isEmpty || namB c.super)&&decide (c.fields.length≤3)&&decide (c.methods.length≤4)&&zeI [] c.fields&&zeJ [] c.methods
theorem zeK {c:Cls} (g:namB c.name=false∨(c.super.toList.isEmpty=false∧namB c.super=false)∨3<c.fields.length∨4<c.methods.length∨zeI [] c.fields=false∨zeJ [] c.methods=false):clsB c=false:=by
 unfold clsB
 rcases g with g | ⟨g,h⟩|g|g|g|g
 ·rw[g];simp
 ·rw[g,h];simp
 ·rw[decide_eq_false (show ¬c.fields.length≤3 by omega)];simp
 ·rw[decide_eq_false (show ¬c.methods.length≤4 by omega)];simp
 ·rw[g];simp
 ·rw[g];simp
theorem zeL {c:Cls} (g1:namB c.name=true) (g2:(c.super.toList.isEmpty || namB c.super)=true) (g3:c.fields.length≤3) (g4:c.methods.length≤4) (g5:zeI [] c.fields=true) (g6:zeJ [] c.methods=true):clsB c=true:=by
 simp only[clsB,g1,g2,g3,g4,g5,g6,decide_true,Bool.and_true]
theorem zeM {fs:List Fld} {k:Nat} (hk:k<fs.length) (h:zeI [] fs=zeI (fs.take k) (fs.drop k)):
  zeI [] fs=(namB fs[k].name&&kndB fs[k].kind&&(fs.take k).all (fun g=>!(g.name.toList == fs[k].name.toList))&&zeI (fs.take (k+1)) (fs.drop (k+1))):=by
 rw[h,List.drop_eq_getElem_cons hk,zeI,List.take_succ_eq_append_getElem hk]
theorem zeN {fs:List Mth} {k:Nat} (hk:k<fs.length) (h:zeJ [] fs=zeJ (fs.take k) (fs.drop k)):
  zeJ [] fs=(mthB fs[k]&&(fs.take k).all (fun g=>!(g.name.toList == fs[k].name.toList))&&zeJ (fs.take (k+1)) (fs.drop (k+1))):=by
 rw[h,List.drop_eq_getElem_cons hk,zeJ,List.take_succ_eq_append_getElem hk]
theorem Sl.take {α:Type} {X:Nat->Prop} {w:World} {sz:Nat} {R:List Value->α->Prop} {A:Option Addr} {n cap k:Nat} {xs:List α} (h:Sl X w sz R (.slice A n cap) xs) (hk:k≤xs.length):
  Sl X w sz R (.slice A k cap) (xs.take k):=by
 obtain⟨rfl,h1,h2,h3⟩:=h.at_
 have hl:(xs.take k).length=k:=by rw[List.length_take];omega
 refine⟨A,cap,by rw[hl],by omega,by omega,fun h0=>?_⟩
 obtain⟨b,off,rfl,hX,_⟩:=h3 0 (by omega)
 refine⟨b,off,rfl,hX,fun j hj=>?_⟩
 obtain⟨b',off',he,_,cs,hR,hl',hc⟩:=h3 j (by omega)
 simp only[Option.some.injEq,Addr.mk.injEq,and_true] at he
 obtain⟨rfl,rfl⟩:=he
 exact⟨cs,by simpa using hR,hl',hc⟩
theorem zeO (X:Nat->Prop) (c:Cls) (cs:List Value) (w:World) (h:ClsC X w cs c):
  Calls Tryz.prog 46 #[.agg cs.toArray] w (zgm (clsB c) w):=by
 obtain⟨vf,vm,rfl,hn,hsn,hf,hm⟩:=h
 obtain⟨Af,cf,rfl,hcf,hfl⟩:=hf.form
 obtain⟨Am,cm,rfl,hcm,hml⟩:=hm.form
 have hfl':=hfl
 have hml':=hml
 unfold maxLen at hfl' hml'
 have hB:=Bx.new w 42 #[.string c.name,.string c.super,.slice Af c.fields.length cf,.slice Am c.methods.length cm]
 have hN:=fun W=>zeE c.name W hn
 have hS:=fun W=>zeE c.super W hsn
 have hcase:namB c.name=false∨(namB c.name=true∧c.super.toList.isEmpty=false∧namB c.super=false)∨(namB c.name=true∧(c.super.toList.isEmpty=true∨c.super.toList.isEmpty=false∧namB c.super=true)∧3<c.fields.length) ∨
   (namB c.name=true∧(c.super.toList.isEmpty=true∨c.super.toList.isEmpty=false∧namB c.super=true)∧c.fields.length≤3∧4<c.methods.length) ∨
   (namB c.name=true∧(c.super.toList.isEmpty=true∨c.super.toList.isEmpty=false∧namB c.super=true)∧c.fields.length≤3∧c.methods.length≤4):=by
  cases namB c.name<;>cases namB c.super<;>cases c.super.toList.isEmpty<;>simp<;>omega
 rcases hcase with g1 | ⟨g1,g2,g3⟩ | ⟨g1,g2 | ⟨g2,g3⟩,g4⟩ | ⟨g1,g2 | ⟨g2,g3⟩,g4,g5⟩ | ⟨g1,g2 | ⟨g2,g3⟩,g4,g5⟩
 all_goals
  try simp only[g1] at hN
  try simp only[g3] at hS
  have G1:=Lib.hid g1
  try have G2:=Lib.hid g2
  try have G3:=Lib.hid g3
  clear g1
  try clear g3
  go_enter Tryz.func46,Tryz.ntmps46
  go_wp2_with (first
   | (go_at_call_of 45 (Value.string c.name);refine(hN _).mono ?_;rintro e w' ⟨rfl,rfl⟩)
   | (go_at_call_of 45 (Value.string c.super);refine(hS _).mono ?_;rintro e w' ⟨rfl,rfl⟩))
 ·go_ret;exact .mk (by rw[zeK (.inl G1.out)]) (by exact frc)
 ·go_ret;exact .mk (by rw[zeK (.inr (.inl ⟨G2.out,G3.out⟩))]) (by exact frc)
 ·go_ret;exact .mk (by rw[zeK (.inr (.inr (.inl (by omega))))]) (by exact frc)
 ·go_ret;exact .mk (by rw[zeK (.inr (.inr (.inl (by omega))))]) (by exact frc)
 ·go_ret;exact .mk (by rw[zeK (.inr (.inr (.inr (.inl (by omega)))))]) (by exact frc)
 ·go_ret;exact .mk (by rw[zeK (.inr (.inr (.inr (.inl (by omega)))))]) (by exact frc)
 all_goals
  have G23:Hid ((c.super.toList.isEmpty || namB c.super)=true):=by unfold Hid;first|(rw[G2.out];rfl)|(rw[G3.out];simp)
  clear G2 g2 hN hS
  try clear G3
  have hw0:Fr No w (w.alloc (.cells #[.string c.name,.string c.super,.slice Af c.fields.length cf,.slice Am c.methods.length cm] 42)):=(Fr.refl No w).alloc _
  go_loopw [39,2] (fun i r wr=>∃k:Nat,k≤c.fields.length∧i=.int .i64 k∧r=.bool false∧Hid (zeI [] c.fields=zeI (c.fields.take k) (c.fields.drop k)) ∧
   Bx wr w.heap.size 42 #[.string c.name,.string c.super,.slice Af c.fields.length cf,.slice Am c.methods.length cm]∧Fr No w wr) (fun i _ _=>c.fields.length-(intOf i).toNat)
  case atStart=>exact⟨0,Nat.zero_le _,rfl,rfl,rfl,hB,hw0⟩
  case round=>
   obtain⟨k,hk,rfl,rfl,hd,hB',hw⟩:=hrel
   clear hB hw0
   obtain⟨b0,b1,b2,b3⟩:=hB'.c4
   have hBl:=hB'.lt
   by_cases hlt:k<c.fields.length
   ·have hfw:=hf.k0 hw
    have htk:=hfw.take (Nat.le_of_lt hlt)
    obtain⟨b,off,rfl,hX,c0,c1,c2,hs1,hs2⟩:=hfw.fld hlt
    have hbl:=lt_of_cell c0
    clear hf hm hfw
    have HN:=fun W=>zeE c.fields[k].name W hs1
    have HK:=fun W=>zfn c.fields[k].kind W hs2
    have hd:=Lib.hid (zeM hlt hd.out)
    have hlk:(c.fields.take k).length=k:=by rw[List.length_take];omega
    generalize c.fields[k]=f at *
    have hkk:(k:Int).toNat=k:=by omega
    have hkc:k≤cf:=by omega
    cases h1:namB f.name
    ·simp only[h1] at HN
     have HS:Hid (clsB c=false):=zeK (.inr (.inr (.inr (.inr (.inl (by rw[hd.out,h1];rfl))))))
     clear h1 hd htk hlk
     go_wp2_with (go_at_call 45;refine(HN _).mono ?_;rintro e w' ⟨rfl,rfl⟩)
     go_ret;exact .mk (by rw[HS.out]) (by exact frc)
    ·cases h2:kndB f.kind
     ·simp only[h1] at HN
      simp only[h2] at HK
      have HS:Hid (clsB c=false):=zeK (.inr (.inr (.inr (.inr (.inl (by rw[hd.out,h2];simp))))))
      clear h1 h2 hd htk hlk
      go_wp2_with (first
       | (go_at_call 45;refine(HN _).mono ?_;rintro e w' ⟨rfl,rfl⟩)
       | (go_at_call 77;refine(HK _).mono ?_;rintro e w2 ⟨rfl,hf2⟩))
      go_ret;exact .mk (by rw[HS.out]) (by exact frc)
     ·simp only[h1] at HN
      simp only[h2] at HK
      have hd:Hid (zeI [] c.fields=((c.fields.take k).all (fun g=>!(g.name.toList == f.name.toList))&&zeI (c.fields.take (k+1)) (c.fields.drop (k+1)))):=by
       have:=hd.out;rwa [h1,h2,Bool.true_and,Bool.true_and] at this
      clear h1 h2
      have hlk:=Lib.hid hlk
      go_wp2_with (first
       | (go_at_call 45;refine(HN _).mono ?_;rintro e w' ⟨rfl,rfl⟩)
       | (go_at_call 77;refine(HK _).mono ?_;rintro e w2 ⟨rfl,hf2⟩;obtain⟨e0,e1,e2,e3⟩:=(hB'.keep (by exact((Fr.refl No wr).alloc _).trans0 hf2)).c4;have hBl2:=(hB'.keep (by exact((Fr.refl No wr).alloc _).trans0 hf2)).lt))
      have hf3:Fr No wr w2:=((Fr.refl No wr).alloc _).trans0 hf2
      have hF:=(Bx.new wr 125 #[.string f.name,.int .i64 f.kind.kind,.string f.kind.name]).keep hf2
      clear c0 c1 c2 e0 e1 e2 e3 b0 b1 b2 b3 HN HK
      obtain⟨wo,rfl⟩:∃wo:World,wo=wr:=⟨_,rfl⟩
      go_loopw [59,2] (fun i r wi=>∃j:Nat,j≤k∧i=.int .i64 j∧r=.bool false∧Hid ((c.fields.take k).all (fun g=>!(g.name.toList == f.name.toList))=((c.fields.take k).drop j).all (fun g=>!(g.name.toList == f.name.toList)))∧Fr No w2 wi) (fun i _ _=>k-(intOf i).toNat)
      case atStart=>exact⟨0,Nat.zero_le _,rfl,rfl,rfl,Fr.refl _ _⟩
      case round=>
       obtain⟨j,hj,rfl,rfl,hdj,hfi⟩:=hrel
       have hwi:Fr No wo wr:=hf3.trans0 hfi
       obtain⟨f0,f1,f2⟩:=(hF.keep hfi).c3
       have hFl:=(hF.keep hfi).lt
       by_cases hjk:j<k
       ·obtain⟨b',off',he,_,c0,c1,c2,_,_⟩:=(htk.k0 hwi).fld (k:=j) (by rw[hlk.out];exact hjk)
        simp only[Option.some.injEq,Addr.mk.injEq,and_true] at he
        obtain⟨rfl,rfl⟩:=he
        clear htk
        rw[List.drop_eq_getElem_cons (by rw[hlk.out];exact hjk),List.all_cons] at hdj
        have hdj:=Lib.hid hdj
        generalize(c.fields.take k)[j]=g at *
        cases hq:(g.name.toList == f.name.toList)
        ·have hq':=Lib.hid hq
         go_wp2
         go_roundw
         case rel=>exact⟨j+1,by omega,by go_num,rfl,by have:=hdj.out.out;rwa [hq'.out,Bool.not_false,Bool.true_and] at this,by exact frc⟩
         case measure=>simp[intOf];omega
        ·have HS:Hid (clsB c=false):=zeK (.inr (.inr (.inr (.inr (.inl (by rw[hd.out,hdj.out.out,hq];rfl))))))
         go_wp2
         go_ret;exact .mk (by rw[HS.out]) (by exact frc)
       ·have hd':Hid (zeI [] c.fields=zeI (c.fields.take (k+1)) (c.fields.drop (k+1))):=by
         have:=hdj.out
         rw[List.drop_eq_nil_of_le (by rw[hlk.out];omega)] at this
         have h2:=hd.out
         rwa [this,List.all_nil,Bool.true_and] at h2
        clear htk hd hdj
        go_wp2
        go_roundw
        case rel=>exact⟨k+1,by omega,by go_num,rfl,hd',hB'.keep (by exact frc),by exact frc⟩
        case measure=>simp[intOf];omega
   ·have G5:Hid (zeI [] c.fields=true):=by have:=hd.out;rwa [List.drop_eq_nil_of_le (by omega)] at this
    clear hf hd
    go_wp2
    obtain⟨wz,rfl⟩:∃wz:World,wz=wr:=⟨_,rfl⟩
    go_loopw [73,2] (fun i r wq=>∃k:Nat,k≤c.methods.length∧i=.int .i64 k∧r=.bool false∧Hid (zeJ [] c.methods=zeJ (c.methods.take k) (c.methods.drop k))∧Fr No wz wq) (fun i _ _=>c.methods.length-(intOf i).toNat)
    case atStart=>exact⟨0,Nat.zero_le _,rfl,rfl,rfl,Fr.refl _ _⟩
    case round=>
     clear b0 b1 b2 b3 hBl
     obtain⟨k,hk,rfl,rfl,hd,hfr⟩:=hrel
     obtain⟨b0,b1,b2,b3⟩:=(hB'.keep hfr).c4
     have hBl:=(hB'.keep hfr).lt
     have hwr:Fr No w wr:=hw.trans0 hfr
     by_cases hlt:k<c.methods.length
     ·have hfw:=hm.keep hwr zN (fun _ _ _ h=>h.keep hwr zN)
      have htk:=hfw.take (Nat.le_of_lt hlt)
      obtain⟨b,off,Aa,ca,Ac,cc,Ax,cx,rfl,hX,c0,c1,c2,c3,c4,c5,c6,c7,hr1,hr2,hr3,hr4,hr5,_,_,_,_,_,_⟩:=hfw.mth hlt
      have hbl:=lt_of_cell c0
      have hR:MthC X wr [.string c.methods[k].name,.slice Aa c.methods[k].args.length ca,.int .i64 c.methods[k].ret.kind,.string c.methods[k].ret.name,.int .i64 c.methods[k].locals,.int .i64 c.methods[k].stack,.slice Ac c.methods[k].code.length cc,.slice Ax c.methods[k].maps.length cx] c.methods[k]:=⟨_,_,_,rfl,hr1,hr2,hr3,hr4,hr5⟩
      clear hm hfw hr1 hr2 hr3 hr4 hr5
      have HM:=fun W (h:Fr No wr W)=>zeH X c.methods[k] _ W (hR.keep h zN)
      clear hR
      have hd:=Lib.hid (zeN hlt hd.out)
      have hlk:(c.methods.take k).length=k:=by rw[List.length_take];omega
      have hkk:(k:Int).toNat=k:=by omega
      have hkc:k≤cm:=by omega
      generalize c.methods[k]=f at *
      have hF:=Bx.new wr 133 #[.string f.name,.slice Aa f.args.length ca,.int .i64 f.ret.kind,.string f.ret.name,.int .i64 f.locals,.int .i64 f.stack,.slice Ac f.code.length cc,.slice Ax f.maps.length cx]
      cases h1:mthB f
      ·simp only[h1] at HM
       have HS:Hid (clsB c=false):=zeK (.inr (.inr (.inr (.inr (.inr (by rw[hd.out,h1];rfl))))))
       clear h1 hd htk hlk
       go_wp2_with (go_at_call 78;refine(HM _ (by exact frc)).mono ?_;rintro e w2 ⟨rfl,hf2⟩)
       go_ret;exact .mk (by rw[HS.out]) (by exact frc)
      ·simp only[h1] at HM
       have hd:Hid (zeJ [] c.methods=((c.methods.take k).all (fun g=>!(g.name.toList == f.name.toList))&&zeJ (c.methods.take (k+1)) (c.methods.drop (k+1)))):=by
        have:=hd.out;rwa [h1,Bool.true_and] at this
       clear h1
       have hlk:=Lib.hid hlk
       go_wp2_with (go_at_call 78;refine(HM _ (by exact frc)).mono ?_;rintro e w2 ⟨rfl,hf2⟩;obtain⟨e0,e1,e2,e3⟩:=(hB'.keep (by exact(hfr.alloc _).trans0 hf2)).c4;have hBl2:=(hB'.keep (by exact(hfr.alloc _).trans0 hf2)).lt)
       have hf3:Fr No wr w2:=((Fr.refl No wr).alloc _).trans0 hf2
       have hF:=hF.keep hf2
       clear c0 c1 c2 c3 c4 c5 c6 c7 e0 e1 e2 e3 b0 b1 b2 b3 HM
       obtain⟨wo,rfl⟩:∃wo:World,wo=wr:=⟨_,rfl⟩
       go_loopw [86,2] (fun i r wi=>∃j:Nat,j≤k∧i=.int .i64 j∧r=.bool false∧Hid ((c.methods.take k).all (fun g=>!(g.name.toList == f.name.toList))=((c.methods.take k).drop j).all (fun g=>!(g.name.toList == f.name.toList)))∧Fr No w2 wi) (fun i _ _=>k-(intOf i).toNat)
       case atStart=>exact⟨0,Nat.zero_le _,rfl,rfl,rfl,Fr.refl _ _⟩
       case round=>
        obtain⟨j,hj,rfl,rfl,hdj,hfi⟩:=hrel
        have hwi:Fr No wo wr:=hf3.trans0 hfi
        obtain⟨f0,f1,f2,f3,f4,f5,f6,f7⟩:=(hF.keep hfi).c8
        have hFl:=(hF.keep hfi).lt
        by_cases hjk:j<k
        ·obtain⟨b',off',Aa',ca',Ac',cc',Ax',cx',he,_,c0,c1,c2,c3,c4,c5,c6,c7,_,_,_,_,_,_,_,_,_,_,_⟩:=(htk.keep hwi zN (fun _ _ _ h=>h.keep hwi zN)).mth (k:=j) (by rw[hlk.out];exact hjk)
         simp only[Option.some.injEq,Addr.mk.injEq,and_true] at he
         obtain⟨rfl,rfl⟩:=he
         clear htk
         rw[List.drop_eq_getElem_cons (by rw[hlk.out];exact hjk),List.all_cons] at hdj
         have hdj:=Lib.hid hdj
         generalize(c.methods.take k)[j]=g at *
         cases hq:(g.name.toList == f.name.toList)
         ·have hq':=Lib.hid hq
          go_wp2
          go_roundw
          case rel=>exact⟨j+1,by omega,by go_num,rfl,by have:=hdj.out.out;rwa [hq'.out,Bool.not_false,Bool.true_and] at this,by exact frc⟩
          case measure=>simp[intOf];omega
         ·have HS:Hid (clsB c=false):=zeK (.inr (.inr (.inr (.inr (.inr (by rw[hd.out,hdj.out.out,hq];rfl))))))
          go_wp2
          go_ret;exact .mk (by rw[HS.out]) (by exact frc)
        ·have hd':Hid (zeJ [] c.methods=zeJ (c.methods.take (k+1)) (c.methods.drop (k+1))):=by
          have:=hdj.out
          rw[List.drop_eq_nil_of_le (by rw[hlk.out];omega)] at this
          have h2:=hd.out
          rwa [this,List.all_nil,Bool.true_and] at h2
         clear htk hd hdj
         go_wp2
         go_roundw
         case rel=>exact⟨k+1,by omega,by go_num,rfl,hd',by exact frc⟩
         case measure=>simp[intOf];omega
     ·have G6:Hid (clsB c=true):=zeL G1.out G23.out (by omega) (by omega) G5.out (by have:=hd.out;rwa [List.drop_eq_nil_of_le (by omega)] at this)
      clear hm hd
      go_wp2
      go_ret;exact .mk (by rw[G6.out]) (by exact frc)
end Go.Proofs.YtpghfhjhjlmljaaGreat
