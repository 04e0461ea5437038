/- The program's verifier: the simple instructions (written by lkop.py). -/
import Derived.Test.YthembcdcdnffeaaGreatEG38
set_option maxHeartbeats 4000000
set_option maxRecDepth 100000
namespace Go.Proofs.YthembcdcdnffeaaGreat
open Go.RowKit
theorem zer {k:Knd} (h:k.name.size≤maxLen):(zel k).name.size≤maxLen:=by
 unfold zel
 split
 ·exact h
 ·exact Nat.zero_le _
theorem zes (w:World):Calls Tryz.prog 141 #[] w (Gives (.agg #[.int .i64 1,.string ⟨#[]⟩]) w):=by
 go_enter Tryz.func141,Tryz.ntmps141
 go_wp2
 refine bodyPost_ret (v:=.agg #[.int .i64 1,.string ⟨#[]⟩]) (by simp[results,Tryz.results141,go_sem]) rfl ?_
 exact .mk rfl frc
theorem zet (s:Str) (w:World):Calls Tryz.prog 59 #[.string s] w (Gives (.agg #[.int .i64 2,.string s]) w):=by
 go_enter Tryz.func59,Tryz.ntmps59
 go_wp2
 refine bodyPost_ret (v:=.agg #[.int .i64 2,.string s]) (by simp[results,Tryz.results59,go_sem]) rfl ?_
 exact .mk rfl frc
theorem zpR (K:LkP) (E:LkE K) (n:Nat) (Z0:Nat->Prop) (j:Int) (f:Frm) (vl vs:Value) (w:World) (h:LkS K n Z0 j f vl vs w) (hj:0≤j) (hj2:j<1000) (i:Ins) (h1:i.name.size≤maxLen):
  (Calls Tryz.prog 91 #[.pointer (some ⟨K.kb,0,none⟩),.agg #[.int .i64 i.op,.int .i64 i.a,.string i.name,.string i.member]] w (ze0 K n Z0 j ((zcE K.m.stack f.stack numT).map (⟨f.locals,·⟩)) w))∧(Calls Tryz.prog 95 #[.pointer (some ⟨K.kb,0,none⟩),.agg #[.int .i64 i.op,.int .i64 i.a,.string i.name,.string i.member]] w (ze0 K n Z0 j ((zcE K.m.stack f.stack zek).map (⟨f.locals,·⟩)) w))∧(Calls Tryz.prog 96 #[.pointer (some ⟨K.kb,0,none⟩),.agg #[.int .i64 i.op,.int .i64 i.a,.string i.name,.string i.member]] w (ze0 K n Z0 j ((zcE K.m.stack f.stack (clsT i.name)).map (⟨f.locals,·⟩)) w)):=by
 obtain⟨wA,hwA⟩:∃wA,wA=(w.alloc (.cells #[.int .i64 i.op,.int .i64 i.a,.string i.name,.string i.member] 101)):=⟨_,rfl⟩
 have hfA:Fr No w wA:=hwA▸frc
 have B0:=(hwA▸bxc:Bx wA w.heap.size 101 #[.int .i64 i.op,.int .i64 i.a,.string i.name,.string i.member])
 have hZ0:¬Z0 w.heap.size:=fun hz=>by have:=h.lt hz;omega
 have hkl:=h.lt h.zkb
 have hS0:=Lib.hid (h.keep E hfA)
 obtain⟨_,_,c4,c5,_,_,_,_,_,_,_,_⟩:=h.cells w (Fr.refl _ _)
 have hz0:∀b,Z0 b->Z0 b:=fun _ h=>h
 have hy0:∀b,Z0 b->Z0 b∨wA.heap.size≤b:=fun _ h=>.inl h
 have hf0:Fr Z0 wA wA:=Fr.refl _ _
 have hw0:Fr No wA (w.alloc (.cells #[.int .i64 i.op,.int .i64 i.a,.string i.name,.string i.member] 101)):=by rw[hwA];exact Fr.refl _ _
 clear h
 refine⟨?_,?_,?_⟩
 have HP:=fun a b W h=>zdh K E n Z0 j f a b W h hj hj2 numT (Nat.zero_le _)
 generalize zcE K.m.stack f.stack numT=G at *
 rotate_left
 have HP:=fun a b W h=>zdh K E n Z0 j f a b W h hj hj2 zek (Nat.zero_le _)
 generalize zcE K.m.stack f.stack zek=G at *
 rotate_left
 have HP:=fun a b W h=>zdh K E n Z0 j f a b W h hj hj2 (clsT i.name) h1
 generalize zcE K.m.stack f.stack (clsT i.name)=G at *
 rotate_left
 all_goals
  cases G with
  | none=>
   simp only[Option.map_none]
   first|go_enter Tryz.func91,Tryz.ntmps91|go_enter Tryz.func95,Tryz.ntmps95|go_enter Tryz.func96,Tryz.ntmps96
   go_wp2_with (first|(go_at_call 140;refine(HP _ _ _ (hS0.out.keep E frc)).mono ?_;simp only[Option.map_none];rintro e wN ⟨c,rfl,hN⟩)|(go_at_call 141;refine(zes _).mono ?_;rintro e w' ⟨rfl,hg⟩)|(go_at_call 59;refine(zet _ _).mono ?_;rintro e w' ⟨rfl,hg⟩))
   exact⟨rfl,c,rfl,(LkNo.then hy0 hf0 (hN.from frc)).from hfA⟩
  | some s1=>
   simp only[Option.map_some]
   first|go_enter Tryz.func91,Tryz.ntmps91|go_enter Tryz.func95,Tryz.ntmps95|go_enter Tryz.func96,Tryz.ntmps96
   go_wp2_with (first|(go_at_call 140;refine(HP _ _ _ (hS0.out.keep E frc)).mono ?_;simp only[Option.map_some];rintro e w1 ⟨rfl,hOk⟩;obtain⟨Z1,vl1,vs1,hS1,hz1,hy1,hf1⟩:=LkOk.then hz0 hy0 hf0 (hOk.from frc);clear hOk;replace hS1:=Lib.hid hS1;have hB:=B0.keepX hf1 hZ0;obtain⟨p0,p1,p2,p3⟩:=hB.c4;have pl:=hB.lt;have hw1:Fr No w1 w1:=Fr.refl _ _)|(go_at_call 141;refine(zes _).mono ?_;rintro e w' ⟨rfl,hg⟩)|(go_at_call 59;refine(zet _ _).mono ?_;rintro e w' ⟨rfl,hg⟩))
   go_end0
   exact⟨rfl,(show LkOk K n Z0 j ⟨f.locals,s1⟩ wA w1 from⟨Z1,vl1,vs1,hS1.out,hz1,hy1,hf1⟩).from hfA⟩
theorem zpS (K:LkP) (E:LkE K) (n:Nat) (Z0:Nat->Prop) (j:Int) (f:Frm) (vl vs:Value) (w:World) (h:LkS K n Z0 j f vl vs w) (hj:0≤j) (hj2:j<1000) (i:Ins) (_:i.name.size≤maxLen):
  (Calls Tryz.prog 100 #[.pointer (some ⟨K.kb,0,none⟩),.agg #[.int .i64 i.op,.int .i64 i.a,.string i.name,.string i.member]] w (ze0 K n Z0 j ((popF K.p K.k f.stack (zel K.m.ret)).map (⟨f.locals,·⟩)) w))∧(Calls Tryz.prog 104 #[.pointer (some ⟨K.kb,0,none⟩),.agg #[.int .i64 i.op,.int .i64 i.a,.string i.name,.string i.member]] w (ze0 K n Z0 j ((popF K.p K.k f.stack numT).map (⟨f.locals,·⟩)) w)):=by
 obtain⟨wA,hwA⟩:∃wA,wA=(w.alloc (.cells #[.int .i64 i.op,.int .i64 i.a,.string i.name,.string i.member] 101)):=⟨_,rfl⟩
 have hfA:Fr No w wA:=hwA▸frc
 have B0:=(hwA▸bxc:Bx wA w.heap.size 101 #[.int .i64 i.op,.int .i64 i.a,.string i.name,.string i.member])
 have hZ0:¬Z0 w.heap.size:=fun hz=>by have:=h.lt hz;omega
 have hkl:=h.lt h.zkb
 have hS0:=Lib.hid (h.keep E hfA)
 obtain⟨_,_,c4,c5,_,_,_,_,_,_,_,_⟩:=h.cells w (Fr.refl _ _)
 have hz0:∀b,Z0 b->Z0 b:=fun _ h=>h
 have hy0:∀b,Z0 b->Z0 b∨wA.heap.size≤b:=fun _ h=>.inl h
 have hf0:Fr Z0 wA wA:=Fr.refl _ _
 have hw0:Fr No wA (w.alloc (.cells #[.int .i64 i.op,.int .i64 i.a,.string i.name,.string i.member] 101)):=by rw[hwA];exact Fr.refl _ _
 clear h
 refine⟨?_,?_⟩
 have HP:=fun a b W h=>zdk K E n Z0 j f a b W h hj hj2 (zel K.m.ret) (zer E.ret)
 generalize popF K.p K.k f.stack (zel K.m.ret)=G at *
 rotate_left
 have HP:=fun a b W h=>zdk K E n Z0 j f a b W h hj hj2 numT (Nat.zero_le _)
 generalize popF K.p K.k f.stack numT=G at *
 rotate_left
 all_goals
  cases G with
  | none=>
   simp only[Option.map_none]
   first|go_enter Tryz.func100,Tryz.ntmps100|go_enter Tryz.func104,Tryz.ntmps104
   go_wp2_with (first|(go_at_call 143;refine(HP _ _ _ (hS0.out.keep E frc)).mono ?_;simp only[Option.map_none];rintro e wN ⟨c,rfl,hN⟩)|(go_at_call 141;refine(zes _).mono ?_;rintro e w' ⟨rfl,hg⟩)|(go_at_call 60;refine(zkL K.m.ret _ E.ret).mono ?_;rintro e w' ⟨rfl,hg⟩))
   exact⟨rfl,c,rfl,(LkNo.then hy0 hf0 (hN.from frc)).from hfA⟩
  | some s1=>
   simp only[Option.map_some]
   first|go_enter Tryz.func100,Tryz.ntmps100|go_enter Tryz.func104,Tryz.ntmps104
   go_wp2_with (first|(go_at_call 143;refine(HP _ _ _ (hS0.out.keep E frc)).mono ?_;simp only[Option.map_some];rintro e w1 ⟨rfl,hOk⟩;obtain⟨Z1,vl1,vs1,hS1,hz1,hy1,hf1⟩:=LkOk.then hz0 hy0 hf0 (hOk.from frc);clear hOk;replace hS1:=Lib.hid hS1;have hB:=B0.keepX hf1 hZ0;obtain⟨p0,p1,p2,p3⟩:=hB.c4;have pl:=hB.lt;have hw1:Fr No w1 w1:=Fr.refl _ _)|(go_at_call 141;refine(zes _).mono ?_;rintro e w' ⟨rfl,hg⟩)|(go_at_call 60;refine(zkL K.m.ret _ E.ret).mono ?_;rintro e w' ⟨rfl,hg⟩))
   go_end0
   exact⟨rfl,(show LkOk K n Z0 j ⟨f.locals,s1⟩ wA w1 from⟨Z1,vl1,vs1,hS1.out,hz1,hy1,hf1⟩).from hfA⟩
theorem zev (K:LkP) (E:LkE K) (n:Nat) (Z0:Nat->Prop) (j:Int) (f:Frm) (vl vs:Value) (w:World) (h:LkS K n Z0 j f vl vs w) (hj:0≤j) (hj2:j<1000) (i:Ins) (_:i.name.size≤maxLen):
  Calls Tryz.prog 94 #[.pointer (some ⟨K.kb,0,none⟩),.agg #[.int .i64 i.op,.int .i64 i.a,.string i.name,.string i.member]] w (ze0 K n Z0 j (((popF K.p K.k f.stack numT).bind fun s=>(popF K.p K.k s numT).bind fun s=>zcE K.m.stack s numT).map (⟨f.locals,·⟩)) w):=by
 obtain⟨wA,hwA⟩:∃wA,wA=(w.alloc (.cells #[.int .i64 i.op,.int .i64 i.a,.string i.name,.string i.member] 101)):=⟨_,rfl⟩
 have hfA:Fr No w wA:=hwA▸frc
 have B0:=(hwA▸bxc:Bx wA w.heap.size 101 #[.int .i64 i.op,.int .i64 i.a,.string i.name,.string i.member])
 have hZ0:¬Z0 w.heap.size:=fun hz=>by have:=h.lt hz;omega
 have hkl:=h.lt h.zkb
 have hS0:=Lib.hid (h.keep E hfA)
 obtain⟨_,_,c4,c5,_,_,_,_,_,_,_,_⟩:=h.cells w (Fr.refl _ _)
 have hz0:∀b,Z0 b->Z0 b:=fun _ h=>h
 have hy0:∀b,Z0 b->Z0 b∨wA.heap.size≤b:=fun _ h=>.inl h
 have hf0:Fr Z0 wA wA:=Fr.refl _ _
 have hw0:Fr No wA (w.alloc (.cells #[.int .i64 i.op,.int .i64 i.a,.string i.name,.string i.member] 101)):=by rw[hwA];exact Fr.refl _ _
 clear h
 cases g1:popF K.p K.k f.stack numT with
 | none=>
  simp only[Option.bind_none,Option.map_none]
  go_enter Tryz.func94,Tryz.ntmps94
  go_wp2_with (first|(go_at_call 143;refine(zdk K E n Z0 j f _ _ _ (hS0.out.keep E frc) hj hj2 numT (Nat.zero_le _)).mono ?_;simp only[g1,Option.map_none];rintro e wN ⟨c,rfl,hN⟩)|(go_at_call 141;refine(zes _).mono ?_;rintro e w' ⟨rfl,hg⟩))
  exact⟨rfl,c,rfl,(LkNo.then hy0 hf0 (hN.from frc)).from hfA⟩
 | some s1=>
  cases g2:popF K.p K.k s1 numT with
  | none=>
   simp only[g2,Option.bind_some,Option.bind_none,Option.map_none]
   go_enter Tryz.func94,Tryz.ntmps94
   go_wp2_with (first|(go_at_call 143;refine(zdk K E n Z1 j ⟨f.locals,s1⟩ _ _ _ (hS1.out.keep E frc) hj hj2 numT (Nat.zero_le _)).mono ?_;simp only[g2,Option.map_none];rintro e wN ⟨c,rfl,hN⟩)|(go_at_call 143;refine(zdk K E n Z0 j f _ _ _ (hS0.out.keep E frc) hj hj2 numT (Nat.zero_le _)).mono ?_;simp only[g1,Option.map_some];rintro e w1 ⟨rfl,hOk⟩;obtain⟨Z1,vl1,vs1,hS1,hz1,hy1,hf1⟩:=LkOk.then hz0 hy0 hf0 (hOk.from frc);clear hOk;replace hS1:=Lib.hid hS1;have hB:=B0.keepX hf1 hZ0;obtain⟨p0,p1,p2,p3⟩:=hB.c4;have pl:=hB.lt;have hw1:Fr No w1 w1:=Fr.refl _ _)|(go_at_call 141;refine(zes _).mono ?_;rintro e w' ⟨rfl,hg⟩))
   exact⟨rfl,c,rfl,(LkNo.then hy1 hf1 (hN.from frc)).from hfA⟩
  | some s2=>
   cases g3:zcE K.m.stack s2 numT with
   | none=>
    simp only[g2,g3,Option.bind_some,Option.map_none]
    go_enter Tryz.func94,Tryz.ntmps94
    go_wp2_with (first|(go_at_call 140;refine(zdh K E n Z2 j ⟨f.locals,s2⟩ _ _ _ (hS2.out.keep E frc) hj hj2 numT (Nat.zero_le _)).mono ?_;simp only[g3,Option.map_none];rintro e wN ⟨c,rfl,hN⟩)|(go_at_call 143;refine(zdk K E n Z1 j ⟨f.locals,s1⟩ _ _ _ (hS1.out.keep E frc) hj hj2 numT (Nat.zero_le _)).mono ?_;simp only[g2,Option.map_some];rintro e w2 ⟨rfl,hOk⟩;obtain⟨Z2,vl2,vs2,hS2,hz2,hy2,hf2⟩:=LkOk.then hz1 hy1 hf1 (hOk.from frc);clear hOk;replace hS2:=Lib.hid hS2;have hB:=B0.keepX hf2 hZ0;obtain⟨p0,p1,p2,p3⟩:=hB.c4;have pl:=hB.lt;have hw2:Fr No w2 w2:=Fr.refl _ _)|(go_at_call 143;refine(zdk K E n Z0 j f _ _ _ (hS0.out.keep E frc) hj hj2 numT (Nat.zero_le _)).mono ?_;simp only[g1,Option.map_some];rintro e w1 ⟨rfl,hOk⟩;obtain⟨Z1,vl1,vs1,hS1,hz1,hy1,hf1⟩:=LkOk.then hz0 hy0 hf0 (hOk.from frc);clear hOk;replace hS1:=Lib.hid hS1;have hB:=B0.keepX hf1 hZ0;obtain⟨p0,p1,p2,p3⟩:=hB.c4;have pl:=hB.lt;have hw1:Fr No w1 w1:=Fr.refl _ _)|(go_at_call 141;refine(zes _).mono ?_;rintro e w' ⟨rfl,hg⟩))
    exact⟨rfl,c,rfl,(LkNo.then hy2 hf2 (hN.from frc)).from hfA⟩
   | some s3=>
    simp only[g2,g3,Option.bind_some,Option.map_some]
    go_enter Tryz.func94,Tryz.ntmps94
    go_wp2_with (first|(go_at_call 140;refine(zdh K E n Z2 j ⟨f.locals,s2⟩ _ _ _ (hS2.out.keep E frc) hj hj2 numT (Nat.zero_le _)).mono ?_;simp only[g3,Option.map_some];rintro e w3 ⟨rfl,hOk⟩;obtain⟨Z3,vl3,vs3,hS3,hz3,hy3,hf3⟩:=LkOk.then hz2 hy2 hf2 (hOk.from frc);clear hOk;replace hS3:=Lib.hid hS3;have hB:=B0.keepX hf3 hZ0;obtain⟨p0,p1,p2,p3⟩:=hB.c4;have pl:=hB.lt;have hw3:Fr No w3 w3:=Fr.refl _ _)|(go_at_call 143;refine(zdk K E n Z1 j ⟨f.locals,s1⟩ _ _ _ (hS1.out.keep E frc) hj hj2 numT (Nat.zero_le _)).mono ?_;simp only[g2,Option.map_some];rintro e w2 ⟨rfl,hOk⟩;obtain⟨Z2,vl2,vs2,hS2,hz2,hy2,hf2⟩:=LkOk.then hz1 hy1 hf1 (hOk.from frc);clear hOk;replace hS2:=Lib.hid hS2;have hB:=B0.keepX hf2 hZ0;obtain⟨p0,p1,p2,p3⟩:=hB.c4;have pl:=hB.lt;have hw2:Fr No w2 w2:=Fr.refl _ _)|(go_at_call 143;refine(zdk K E n Z0 j f _ _ _ (hS0.out.keep E frc) hj hj2 numT (Nat.zero_le _)).mono ?_;simp only[g1,Option.map_some];rintro e w1 ⟨rfl,hOk⟩;obtain⟨Z1,vl1,vs1,hS1,hz1,hy1,hf1⟩:=LkOk.then hz0 hy0 hf0 (hOk.from frc);clear hOk;replace hS1:=Lib.hid hS1;have hB:=B0.keepX hf1 hZ0;obtain⟨p0,p1,p2,p3⟩:=hB.c4;have pl:=hB.lt;have hw1:Fr No w1 w1:=Fr.refl _ _)|(go_at_call 141;refine(zes _).mono ?_;rintro e w' ⟨rfl,hg⟩))
    go_end0
    exact⟨rfl,(show LkOk K n Z0 j ⟨f.locals,s3⟩ wA w3 from⟨Z3,vl3,vs3,hS3.out,hz3,hy3,hf3⟩).from hfA⟩
theorem zeA (K:LkP) (E:LkE K) (n:Nat) (Z0:Nat->Prop) (j:Int) (f:Frm) (vl vs:Value) (w:World) (h:LkS K n Z0 j f vl vs w) (hj:0≤j) (hj2:j<1000) (i:Ins) (h1:i.name.size≤maxLen):
  Calls Tryz.prog 105 #[.pointer (some ⟨K.kb,0,none⟩),.agg #[.int .i64 i.op,.int .i64 i.a,.string i.name,.string i.member]] w (ze0 K n Z0 j (((popR f.stack).bind fun s=>zcE K.m.stack s (clsT i.name)).map (⟨f.locals,·⟩)) w):=by
 obtain⟨wA,hwA⟩:∃wA,wA=(w.alloc (.cells #[.int .i64 i.op,.int .i64 i.a,.string i.name,.string i.member] 101)):=⟨_,rfl⟩
 have hfA:Fr No w wA:=hwA▸frc
 have B0:=(hwA▸bxc:Bx wA w.heap.size 101 #[.int .i64 i.op,.int .i64 i.a,.string i.name,.string i.member])
 have hZ0:¬Z0 w.heap.size:=fun hz=>by have:=h.lt hz;omega
 have hkl:=h.lt h.zkb
 have hS0:=Lib.hid (h.keep E hfA)
 obtain⟨_,_,c4,c5,_,_,_,_,_,_,_,_⟩:=h.cells w (Fr.refl _ _)
 have hz0:∀b,Z0 b->Z0 b:=fun _ h=>h
 have hy0:∀b,Z0 b->Z0 b∨wA.heap.size≤b:=fun _ h=>.inl h
 have hf0:Fr Z0 wA wA:=Fr.refl _ _
 have hw0:Fr No wA (w.alloc (.cells #[.int .i64 i.op,.int .i64 i.a,.string i.name,.string i.member] 101)):=by rw[hwA];exact Fr.refl _ _
 clear h
 cases g1:popR f.stack with
 | none=>
  simp only[Option.bind_none,Option.map_none]
  go_enter Tryz.func105,Tryz.ntmps105
  go_wp2_with (first|(go_at_call 148;refine(zm3 K E n Z0 j f _ _ _ (hS0.out.keep E frc) hj hj2).mono ?_;simp only[g1,Option.map_none];rintro e wN ⟨c,rfl,hN⟩)|(go_at_call 59;refine(zet _ _).mono ?_;rintro e w' ⟨rfl,hg⟩))
  exact⟨rfl,c,rfl,(LkNo.then hy0 hf0 (hN.from frc)).from hfA⟩
 | some s1=>
  cases g2:zcE K.m.stack s1 (clsT i.name) with
  | none=>
   simp only[g2,Option.bind_some,Option.map_none]
   go_enter Tryz.func105,Tryz.ntmps105
   go_wp2_with (first|(go_at_call 140;refine(zdh K E n Z1 j ⟨f.locals,s1⟩ _ _ _ (hS1.out.keep E frc) hj hj2 (clsT i.name) h1).mono ?_;simp only[g2,Option.map_none];rintro e wN ⟨c,rfl,hN⟩)|(go_at_call 148;refine(zm3 K E n Z0 j f _ _ _ (hS0.out.keep E frc) hj hj2).mono ?_;simp only[g1,Option.map_some];rintro e w1 ⟨rfl,hOk⟩;obtain⟨Z1,vl1,vs1,hS1,hz1,hy1,hf1⟩:=LkOk.then hz0 hy0 hf0 (hOk.from frc);clear hOk;replace hS1:=Lib.hid hS1;have hB:=B0.keepX hf1 hZ0;obtain⟨p0,p1,p2,p3⟩:=hB.c4;have pl:=hB.lt;have hw1:Fr No w1 w1:=Fr.refl _ _)|(go_at_call 59;refine(zet _ _).mono ?_;rintro e w' ⟨rfl,hg⟩))
   exact⟨rfl,c,rfl,(LkNo.then hy1 hf1 (hN.from frc)).from hfA⟩
  | some s2=>
   simp only[g2,Option.bind_some,Option.map_some]
   go_enter Tryz.func105,Tryz.ntmps105
   go_wp2_with (first|(go_at_call 140;refine(zdh K E n Z1 j ⟨f.locals,s1⟩ _ _ _ (hS1.out.keep E frc) hj hj2 (clsT i.name) h1).mono ?_;simp only[g2,Option.map_some];rintro e w2 ⟨rfl,hOk⟩;obtain⟨Z2,vl2,vs2,hS2,hz2,hy2,hf2⟩:=LkOk.then hz1 hy1 hf1 (hOk.from frc);clear hOk;replace hS2:=Lib.hid hS2;have hB:=B0.keepX hf2 hZ0;obtain⟨p0,p1,p2,p3⟩:=hB.c4;have pl:=hB.lt;have hw2:Fr No w2 w2:=Fr.refl _ _)|(go_at_call 148;refine(zm3 K E n Z0 j f _ _ _ (hS0.out.keep E frc) hj hj2).mono ?_;simp only[g1,Option.map_some];rintro e w1 ⟨rfl,hOk⟩;obtain⟨Z1,vl1,vs1,hS1,hz1,hy1,hf1⟩:=LkOk.then hz0 hy0 hf0 (hOk.from frc);clear hOk;replace hS1:=Lib.hid hS1;have hB:=B0.keepX hf1 hZ0;obtain⟨p0,p1,p2,p3⟩:=hB.c4;have pl:=hB.lt;have hw1:Fr No w1 w1:=Fr.refl _ _)|(go_at_call 59;refine(zet _ _).mono ?_;rintro e w' ⟨rfl,hg⟩))
   go_end0
   exact⟨rfl,(show LkOk K n Z0 j ⟨f.locals,s2⟩ wA w2 from⟨Z2,vl2,vs2,hS2.out,hz2,hy2,hf2⟩).from hfA⟩
theorem zeB (K:LkP) (E:LkE K) (n:Nat) (Z0:Nat->Prop) (j:Int) (f:Frm) (vl vs:Value) (w:World) (h:LkS K n Z0 j f vl vs w) (hj:0≤j) (hj2:j<1000) (i:Ins) (_:i.name.size≤maxLen):
  Calls Tryz.prog 101 #[.pointer (some ⟨K.kb,0,none⟩),.agg #[.int .i64 i.op,.int .i64 i.a,.string i.name,.string i.member]] w (ze0 K n Z0 j ((popF K.p K.k f.stack numT).bind fun s=>if brB K ⟨f.locals,s⟩ i.a then some ⟨f.locals,s⟩ else none) w):=by
 obtain⟨wA,hwA⟩:∃wA,wA=(w.alloc (.cells #[.int .i64 i.op,.int .i64 i.a,.string i.name,.string i.member] 101)):=⟨_,rfl⟩
 have hfA:Fr No w wA:=hwA▸frc
 have B0:=(hwA▸bxc:Bx wA w.heap.size 101 #[.int .i64 i.op,.int .i64 i.a,.string i.name,.string i.member])
 have hZ0:¬Z0 w.heap.size:=fun hz=>by have:=h.lt hz;omega
 have hkl:=h.lt h.zkb
 have hS0:=Lib.hid (h.keep E hfA)
 obtain⟨_,_,c4,c5,_,_,_,_,_,_,_,_⟩:=h.cells w (Fr.refl _ _)
 have hz0:∀b,Z0 b->Z0 b:=fun _ h=>h
 have hy0:∀b,Z0 b->Z0 b∨wA.heap.size≤b:=fun _ h=>.inl h
 have hf0:Fr Z0 wA wA:=Fr.refl _ _
 have hw0:Fr No wA (w.alloc (.cells #[.int .i64 i.op,.int .i64 i.a,.string i.name,.string i.member] 101)):=by rw[hwA];exact Fr.refl _ _
 clear h
 cases g1:popF K.p K.k f.stack numT with
 | none=>
  simp only[Option.bind_none]
  go_enter Tryz.func101,Tryz.ntmps101
  go_wp2_with (first|(go_at_call 143;refine(zdk K E n Z0 j f _ _ _ (hS0.out.keep E frc) hj hj2 numT (Nat.zero_le _)).mono ?_;simp only[g1,Option.map_none];rintro e wN ⟨c,rfl,hN⟩)|(go_at_call 141;refine(zes _).mono ?_;rintro e w' ⟨rfl,hg⟩))
  exact⟨rfl,c,rfl,(LkNo.then hy0 hf0 (hN.from frc)).from hfA⟩
 | some s1=>
  cases g2:brB K ⟨f.locals,s1⟩ i.a with
  | false=>
   simp only[g2,Option.bind_some,Bool.false_eq_true,if_false]
   go_enter Tryz.func101,Tryz.ntmps101
   go_wp2_with (first|(go_at_call 147;refine(znb K E n Z1 j ⟨f.locals,s1⟩ _ _ _ (hS1.out.keep E frc) hj hj2 i.a).mono ?_;simp only[g2,Bool.false_eq_true,if_false];rintro e wN ⟨c,rfl,hN⟩)|(go_at_call 143;refine(zdk K E n Z0 j f _ _ _ (hS0.out.keep E frc) hj hj2 numT (Nat.zero_le _)).mono ?_;simp only[g1,Option.map_some];rintro e w1 ⟨rfl,hOk⟩;obtain⟨Z1,vl1,vs1,hS1,hz1,hy1,hf1⟩:=LkOk.then hz0 hy0 hf0 (hOk.from frc);clear hOk;replace hS1:=Lib.hid hS1;have hB:=B0.keepX hf1 hZ0;obtain⟨p0,p1,p2,p3⟩:=hB.c4;have pl:=hB.lt;have hw1:Fr No w1 w1:=Fr.refl _ _)|(go_at_call 141;refine(zes _).mono ?_;rintro e w' ⟨rfl,hg⟩))
   exact⟨rfl,c,rfl,(LkNo.then hy1 hf1 (hN.from frc)).from hfA⟩
  | true=>
   simp only[g2,Option.bind_some,if_true]
   go_enter Tryz.func101,Tryz.ntmps101
   go_wp2_with (first|(go_at_call 147;refine(znb K E n Z1 j ⟨f.locals,s1⟩ _ _ _ (hS1.out.keep E frc) hj hj2 i.a).mono ?_;simp only[g2,if_true];rintro e w2 ⟨rfl,hOk⟩;obtain⟨Z2,vl2,vs2,hS2,hz2,hy2,hf2⟩:=LkOk.then hz1 hy1 hf1 (hOk.from frc);clear hOk;replace hS2:=Lib.hid hS2;have hB:=B0.keepX hf2 hZ0;obtain⟨p0,p1,p2,p3⟩:=hB.c4;have pl:=hB.lt;have hw2:Fr No w2 w2:=Fr.refl _ _)|(go_at_call 143;refine(zdk K E n Z0 j f _ _ _ (hS0.out.keep E frc) hj hj2 numT (Nat.zero_le _)).mono ?_;simp only[g1,Option.map_some];rintro e w1 ⟨rfl,hOk⟩;obtain⟨Z1,vl1,vs1,hS1,hz1,hy1,hf1⟩:=LkOk.then hz0 hy0 hf0 (hOk.from frc);clear hOk;replace hS1:=Lib.hid hS1;have hB:=B0.keepX hf1 hZ0;obtain⟨p0,p1,p2,p3⟩:=hB.c4;have pl:=hB.lt;have hw1:Fr No w1 w1:=Fr.refl _ _)|(go_at_call 141;refine(zes _).mono ?_;rintro e w' ⟨rfl,hg⟩))
   go_end0
   exact⟨rfl,(show LkOk K n Z0 j ⟨f.locals,s1⟩ wA w2 from⟨Z2,vl2,vs2,hS2.out,hz2,hy2,hf2⟩).from hfA⟩
theorem zeC (K:LkP) (E:LkE K) (n:Nat) (Z0:Nat->Prop) (j:Int) (f:Frm) (vl vs:Value) (w:World) (h:LkS K n Z0 j f vl vs w) (hj:0≤j) (hj2:j<1000) (i:Ins) (_:i.name.size≤maxLen):
  Calls Tryz.prog 102 #[.pointer (some ⟨K.kb,0,none⟩),.agg #[.int .i64 i.op,.int .i64 i.a,.string i.name,.string i.member]] w (ze0 K n Z0 j ((popR f.stack).bind fun s=>if brB K ⟨f.locals,s⟩ i.a then some ⟨f.locals,s⟩ else none) w):=by
 obtain⟨wA,hwA⟩:∃wA,wA=(w.alloc (.cells #[.int .i64 i.op,.int .i64 i.a,.string i.name,.string i.member] 101)):=⟨_,rfl⟩
 have hfA:Fr No w wA:=hwA▸frc
 have B0:=(hwA▸bxc:Bx wA w.heap.size 101 #[.int .i64 i.op,.int .i64 i.a,.string i.name,.string i.member])
 have hZ0:¬Z0 w.heap.size:=fun hz=>by have:=h.lt hz;omega
 have hkl:=h.lt h.zkb
 have hS0:=Lib.hid (h.keep E hfA)
 obtain⟨_,_,c4,c5,_,_,_,_,_,_,_,_⟩:=h.cells w (Fr.refl _ _)
 have hz0:∀b,Z0 b->Z0 b:=fun _ h=>h
 have hy0:∀b,Z0 b->Z0 b∨wA.heap.size≤b:=fun _ h=>.inl h
 have hf0:Fr Z0 wA wA:=Fr.refl _ _
 have hw0:Fr No wA (w.alloc (.cells #[.int .i64 i.op,.int .i64 i.a,.string i.name,.string i.member] 101)):=by rw[hwA];exact Fr.refl _ _
 clear h
 cases g1:popR f.stack with
 | none=>
  simp only[Option.bind_none]
  go_enter Tryz.func102,Tryz.ntmps102
  go_wp2_with (first|(go_at_call 148;refine(zm3 K E n Z0 j f _ _ _ (hS0.out.keep E frc) hj hj2).mono ?_;simp only[g1,Option.map_none];rintro e wN ⟨c,rfl,hN⟩))
  exact⟨rfl,c,rfl,(LkNo.then hy0 hf0 (hN.from frc)).from hfA⟩
 | some s1=>
  cases g2:brB K ⟨f.locals,s1⟩ i.a with
  | false=>
   simp only[g2,Option.bind_some,Bool.false_eq_true,if_false]
   go_enter Tryz.func102,Tryz.ntmps102
   go_wp2_with (first|(go_at_call 147;refine(znb K E n Z1 j ⟨f.locals,s1⟩ _ _ _ (hS1.out.keep E frc) hj hj2 i.a).mono ?_;simp only[g2,Bool.false_eq_true,if_false];rintro e wN ⟨c,rfl,hN⟩)|(go_at_call 148;refine(zm3 K E n Z0 j f _ _ _ (hS0.out.keep E frc) hj hj2).mono ?_;simp only[g1,Option.map_some];rintro e w1 ⟨rfl,hOk⟩;obtain⟨Z1,vl1,vs1,hS1,hz1,hy1,hf1⟩:=LkOk.then hz0 hy0 hf0 (hOk.from frc);clear hOk;replace hS1:=Lib.hid hS1;have hB:=B0.keepX hf1 hZ0;obtain⟨p0,p1,p2,p3⟩:=hB.c4;have pl:=hB.lt;have hw1:Fr No w1 w1:=Fr.refl _ _))
   exact⟨rfl,c,rfl,(LkNo.then hy1 hf1 (hN.from frc)).from hfA⟩
  | true=>
   simp only[g2,Option.bind_some,if_true]
   go_enter Tryz.func102,Tryz.ntmps102
   go_wp2_with (first|(go_at_call 147;refine(znb K E n Z1 j ⟨f.locals,s1⟩ _ _ _ (hS1.out.keep E frc) hj hj2 i.a).mono ?_;simp only[g2,if_true];rintro e w2 ⟨rfl,hOk⟩;obtain⟨Z2,vl2,vs2,hS2,hz2,hy2,hf2⟩:=LkOk.then hz1 hy1 hf1 (hOk.from frc);clear hOk;replace hS2:=Lib.hid hS2;have hB:=B0.keepX hf2 hZ0;obtain⟨p0,p1,p2,p3⟩:=hB.c4;have pl:=hB.lt;have hw2:Fr No w2 w2:=Fr.refl _ _)|(go_at_call 148;refine(zm3 K E n Z0 j f _ _ _ (hS0.out.keep E frc) hj hj2).mono ?_;simp only[g1,Option.map_some];rintro e w1 ⟨rfl,hOk⟩;obtain⟨Z1,vl1,vs1,hS1,hz1,hy1,hf1⟩:=LkOk.then hz0 hy0 hf0 (hOk.from frc);clear hOk;replace hS1:=Lib.hid hS1;have hB:=B0.keepX hf1 hZ0;obtain⟨p0,p1,p2,p3⟩:=hB.c4;have pl:=hB.lt;have hw1:Fr No w1 w1:=Fr.refl _ _))
   go_end0
   exact⟨rfl,(show LkOk K n Z0 j ⟨f.locals,s1⟩ wA w2 from⟨Z2,vl2,vs2,hS2.out,hz2,hy2,hf2⟩).from hfA⟩
theorem zeD (K:LkP) (E:LkE K) (n:Nat) (Z0:Nat->Prop) (j:Int) (f:Frm) (vl vs:Value) (w:World) (h:LkS K n Z0 j f vl vs w) (hj:0≤j) (hj2:j<1000) (i:Ins) (_:i.name.size≤maxLen):
  Calls Tryz.prog 103 #[.pointer (some ⟨K.kb,0,none⟩),.agg #[.int .i64 i.op,.int .i64 i.a,.string i.name,.string i.member]] w (ze0 K n Z0 j (if brB K f i.a then some f else none) w):=by
 obtain⟨wA,hwA⟩:∃wA,wA=(w.alloc (.cells #[.int .i64 i.op,.int .i64 i.a,.string i.name,.string i.member] 101)):=⟨_,rfl⟩
 have hfA:Fr No w wA:=hwA▸frc
 have B0:=(hwA▸bxc:Bx wA w.heap.size 101 #[.int .i64 i.op,.int .i64 i.a,.string i.name,.string i.member])
 have hZ0:¬Z0 w.heap.size:=fun hz=>by have:=h.lt hz;omega
 have hkl:=h.lt h.zkb
 have hS0:=Lib.hid (h.keep E hfA)
 obtain⟨_,_,c4,c5,_,_,_,_,_,_,_,_⟩:=h.cells w (Fr.refl _ _)
 have hz0:∀b,Z0 b->Z0 b:=fun _ h=>h
 have hy0:∀b,Z0 b->Z0 b∨wA.heap.size≤b:=fun _ h=>.inl h
 have hf0:Fr Z0 wA wA:=Fr.refl _ _
 have hw0:Fr No wA (w.alloc (.cells #[.int .i64 i.op,.int .i64 i.a,.string i.name,.string i.member] 101)):=by rw[hwA];exact Fr.refl _ _
 clear h
 cases g1:brB K f i.a with
 | false=>
  simp only[Bool.false_eq_true,if_false]
  go_enter Tryz.func103,Tryz.ntmps103
  go_wp2_with (first|(go_at_call 147;refine(znb K E n Z0 j f _ _ _ (hS0.out.keep E frc) hj hj2 i.a).mono ?_;simp only[g1,Bool.false_eq_true,if_false];rintro e wN ⟨c,rfl,hN⟩))
  exact⟨rfl,c,rfl,(LkNo.then hy0 hf0 (hN.from frc)).from hfA⟩
 | true=>
  simp only[if_true]
  go_enter Tryz.func103,Tryz.ntmps103
  go_wp2_with (first|(go_at_call 147;refine(znb K E n Z0 j f _ _ _ (hS0.out.keep E frc) hj hj2 i.a).mono ?_;simp only[g1,if_true];rintro e w1 ⟨rfl,hOk⟩;obtain⟨Z1,vl1,vs1,hS1,hz1,hy1,hf1⟩:=LkOk.then hz0 hy0 hf0 (hOk.from frc);clear hOk;replace hS1:=Lib.hid hS1;have hB:=B0.keepX hf1 hZ0;obtain⟨p0,p1,p2,p3⟩:=hB.c4;have pl:=hB.lt;have hw1:Fr No w1 w1:=Fr.refl _ _))
  go_end0
  exact⟨rfl,(show LkOk K n Z0 j f wA w1 from⟨Z1,vl1,vs1,hS1.out,hz1,hy1,hf1⟩).from hfA⟩
end Go.Proofs.YthembcdcdnffeaaGreat
