/- The laws' own copies: new memory that reads as the same data, none of it frozen. -/
import Derived.Test.YtpghfhjhjlmljaaGreatPG21
set_option maxHeartbeats 2000000
set_option maxRecDepth 100000
namespace Go.Proofs.YtpghfhjhjlmljaaGreat
open Go.RowKit
theorem ziR (x:Knd) (cs:List Value) (w:World) (h:KndC cs x):
  Calls Tryz.prog 105 #[.agg cs.toArray] w (zch (.agg cs.toArray) w):=by
 obtain⟨rfl,z0⟩:=h
 go_enter Tryz.func105,Tryz.ntmps105
 go_wp2
 refine bodyPost_ret (v:=.agg #[.int .i64 x.kind,.string x.name]) (by simp[results,Tryz.results105,go_sem]) rfl ?_
 exact .mk rfl (by exact frc) (by exact nfc)
theorem ziS:(Tryz.prog.info? 123).map (fun i=>(i.zero,i.size,i.bytes))=some (some (.agg #[.int .i64 0,.string ⟨#[]⟩]),2,24):=by kernel_rfl
theorem ziT (X:Nat->Prop) (v:Value) (xs:List Knd) (w:World) (h:Sl X w 2 KndC v xs) (hs:szL zhA xs≤1048576):
  Calls Tryz.prog 106 #[v] w (zcj 2 (fun _ _=>KndC) xs w):=by
 have hlen:xs.length≤1048576:=by have:=zgj zhA xs;omega
 obtain⟨A,cap,rfl,_,_⟩:=h.form
 have hmk:=fun W=>zgo 129 123 _ _ _ Tryz.underlying129 ziS xs.length (by omega) (by omega) W
 go_enter Tryz.func106,Tryz.ntmps106
 go_wp2
 have hF0:=Fill.new w 123 2 KndC xs #[.int .i64 0,.string ⟨#[]⟩]
 clear hmk
 go_loopw [4] (fun i wr=>∃k:Nat,k≤xs.length∧i=.int .i64 k∧Fill wr w.heap.size 123 2 xs.length k KndC xs∧Fr No w wr∧NF w wr) (fun i _=>xs.length-(intOf i).toNat)
 case atStart=>exact⟨0,Nat.zero_le _,rfl,hF0,by exact frc,by exact nfc⟩
 case round=>
  clear hF0
  obtain⟨k,hk,rfl,hF,hf,nf0⟩:=hrel
  by_cases hlt:k<xs.length
  ·obtain⟨b,off,rfl,hX,c0,c1,z0⟩:=(h.k0 hf).knd hlt
   have H:=fun W=>ziR xs[k] _ W ⟨rfl,z0⟩
   clear h
   go_wp2_with fail
   refine(H _).mono ?_
   rintro e w1 ⟨rfl,hf1,nf1⟩
   have hF1:=hF.keep hf1 (fun h=>h) (fun _ _ _ h=>h)
   obtain⟨o0,ho0⟩:=hF1.cell? (o:=k * 2) (by omega)
   obtain⟨o1,ho1⟩:=hF1.cell? (o:=k * 2+1) (by omega)
   have hfz:=fun o=>hF1.frozen o
   clear c0 c1 H hF
   have hF1:=Lib.hid hF1
   go_wp2
   go_roundw
   case rel=>exact⟨k+1,by omega,by go_num,hF1.out.step (cs:=[.int .i64 xs[k].kind,.string xs[k].name]) hlt hlt ⟨rfl,z0⟩ rfl,by exact frc,by exact nfc⟩
   case measure=>simp[intOf];omega
  ·have he:k=xs.length:=by omega
   subst he
   clear h
   have hF:=Lib.hid hF
   go_wp2
   go_ret
   have hF:=hF.out
   exact⟨_,rfl,hF.done (X:=fun b=>b<w.heap.size) (by omega) (by unfold maxLen;omega),by exact frc,by exact nfc⟩
theorem ziU (x:Tag) (cs:List Value) (w:World) (h:TagC cs x):
  Calls Tryz.prog 151 #[.agg cs.toArray] w (zch (.agg cs.toArray) w):=by
 obtain⟨rfl,z0⟩:=h
 go_enter Tryz.func151,Tryz.ntmps151
 go_wp2
 refine bodyPost_ret (v:=.agg #[.int .i64 x.kind,.string x.name]) (by simp[results,Tryz.results151,go_sem]) rfl ?_
 exact .mk rfl (by exact frc) (by exact nfc)
theorem ziV:(Tryz.prog.info? 187).map (fun i=>(i.zero,i.size,i.bytes))=some (some (.agg #[.int .i64 0,.string ⟨#[]⟩]),2,24):=by kernel_rfl
theorem ziW (X:Nat->Prop) (v:Value) (xs:List Tag) (w:World) (h:Sl X w 2 TagC v xs) (hs:szL zhD xs≤1048576):
  Calls Tryz.prog 144 #[v] w (zcj 2 (fun _ _=>TagC) xs w):=by
 have hlen:xs.length≤1048576:=by have:=zgj zhD xs;omega
 obtain⟨A,cap,rfl,_,_⟩:=h.form
 have hmk:=fun W=>zgo 163 187 _ _ _ Tryz.underlying163 ziV xs.length (by omega) (by omega) W
 go_enter Tryz.func144,Tryz.ntmps144
 go_wp2
 have hF0:=Fill.new w 187 2 TagC xs #[.int .i64 0,.string ⟨#[]⟩]
 clear hmk
 go_loopw [4] (fun i wr=>∃k:Nat,k≤xs.length∧i=.int .i64 k∧Fill wr w.heap.size 187 2 xs.length k TagC xs∧Fr No w wr∧NF w wr) (fun i _=>xs.length-(intOf i).toNat)
 case atStart=>exact⟨0,Nat.zero_le _,rfl,hF0,by exact frc,by exact nfc⟩
 case round=>
  clear hF0
  obtain⟨k,hk,rfl,hF,hf,nf0⟩:=hrel
  by_cases hlt:k<xs.length
  ·obtain⟨b,off,rfl,hX,c0,c1,z0⟩:=(h.k0 hf).tag hlt
   have H:=fun W=>ziU xs[k] _ W ⟨rfl,z0⟩
   clear h
   go_wp2_with fail
   refine(H _).mono ?_
   rintro e w1 ⟨rfl,hf1,nf1⟩
   have hF1:=hF.keep hf1 (fun h=>h) (fun _ _ _ h=>h)
   obtain⟨o0,ho0⟩:=hF1.cell? (o:=k * 2) (by omega)
   obtain⟨o1,ho1⟩:=hF1.cell? (o:=k * 2+1) (by omega)
   have hfz:=fun o=>hF1.frozen o
   clear c0 c1 H hF
   have hF1:=Lib.hid hF1
   go_wp2
   go_roundw
   case rel=>exact⟨k+1,by omega,by go_num,hF1.out.step (cs:=[.int .i64 xs[k].kind,.string xs[k].name]) hlt hlt ⟨rfl,z0⟩ rfl,by exact frc,by exact nfc⟩
   case measure=>simp[intOf];omega
  ·have he:k=xs.length:=by omega
   subst he
   clear h
   have hF:=Lib.hid hF
   go_wp2
   go_ret
   have hF:=hF.out
   exact⟨_,rfl,hF.done (X:=fun b=>b<w.heap.size) (by omega) (by unfold maxLen;omega),by exact frc,by exact nfc⟩
theorem ziX (x:Ins) (cs:List Value) (w:World) (h:InsC cs x):
  Calls Tryz.prog 134 #[.agg cs.toArray] w (zch (.agg cs.toArray) w):=by
 obtain⟨rfl,z0,z1⟩:=h
 go_enter Tryz.func134,Tryz.ntmps134
 go_wp2
 refine bodyPost_ret (v:=.agg #[.int .i64 x.op,.int .i64 x.a,.string x.name,.string x.member]) (by simp[results,Tryz.results134,go_sem]) rfl ?_
 exact .mk rfl (by exact frc) (by exact nfc)
theorem ziY:(Tryz.prog.info? 178).map (fun i=>(i.zero,i.size,i.bytes))=some (some (.agg #[.int .i64 0,.int .i64 0,.string ⟨#[]⟩,.string ⟨#[]⟩]),4,48):=by kernel_rfl
theorem ziZ (X:Nat->Prop) (v:Value) (xs:List Ins) (w:World) (h:Sl X w 4 InsC v xs) (hs:szL zhG xs≤1048576):
  Calls Tryz.prog 107 #[v] w (zcj 4 (fun _ _=>InsC) xs w):=by
 have hlen:xs.length≤1048576:=by have:=zgj zhG xs;omega
 obtain⟨A,cap,rfl,_,_⟩:=h.form
 have hmk:=fun W=>zgo 130 178 _ _ _ Tryz.underlying130 ziY xs.length (by omega) (by omega) W
 go_enter Tryz.func107,Tryz.ntmps107
 go_wp2
 have hF0:=Fill.new w 178 4 InsC xs #[.int .i64 0,.int .i64 0,.string ⟨#[]⟩,.string ⟨#[]⟩]
 clear hmk
 go_loopw [4] (fun i wr=>∃k:Nat,k≤xs.length∧i=.int .i64 k∧Fill wr w.heap.size 178 4 xs.length k InsC xs∧Fr No w wr∧NF w wr) (fun i _=>xs.length-(intOf i).toNat)
 case atStart=>exact⟨0,Nat.zero_le _,rfl,hF0,by exact frc,by exact nfc⟩
 case round=>
  clear hF0
  obtain⟨k,hk,rfl,hF,hf,nf0⟩:=hrel
  by_cases hlt:k<xs.length
  ·obtain⟨b,off,rfl,hX,c0,c1,c2,c3,z0,z1⟩:=(h.k0 hf).ins hlt
   have H:=fun W=>ziX xs[k] _ W ⟨rfl,z0,z1⟩
   clear h
   go_wp2_with fail
   refine(H _).mono ?_
   rintro e w1 ⟨rfl,hf1,nf1⟩
   have hF1:=hF.keep hf1 (fun h=>h) (fun _ _ _ h=>h)
   obtain⟨o0,ho0⟩:=hF1.cell? (o:=k * 4) (by omega)
   obtain⟨o1,ho1⟩:=hF1.cell? (o:=k * 4+1) (by omega)
   obtain⟨o2,ho2⟩:=hF1.cell? (o:=k * 4+2) (by omega)
   obtain⟨o3,ho3⟩:=hF1.cell? (o:=k * 4+3) (by omega)
   have hfz:=fun o=>hF1.frozen o
   clear c0 c1 c2 c3 H hF
   have hF1:=Lib.hid hF1
   go_wp2
   go_roundw
   case rel=>exact⟨k+1,by omega,by go_num,hF1.out.step (cs:=[.int .i64 xs[k].op,.int .i64 xs[k].a,.string xs[k].name,.string xs[k].member]) hlt hlt ⟨rfl,z0,z1⟩ rfl,by exact frc,by exact nfc⟩
   case measure=>simp[intOf];omega
  ·have he:k=xs.length:=by omega
   subst he
   clear h
   have hF:=Lib.hid hF
   go_wp2
   go_ret
   have hF:=hF.out
   exact⟨_,rfl,hF.done (X:=fun b=>b<w.heap.size) (by omega) (by unfold maxLen;omega),by exact frc,by exact nfc⟩
theorem zi0 (x:Fld) (cs:List Value) (w:World) (h:FldC cs x):
  Calls Tryz.prog 74 #[.agg cs.toArray] w (zch (.agg cs.toArray) w):=by
 obtain⟨rfl,z0,z1⟩:=h
 have H_kind:=fun W (_:Fr No w W)=>ziR x.kind _ W ⟨rfl,(by assumption)⟩
 go_enter Tryz.func74,Tryz.ntmps74
 go_wp2_with fail
 refine(H_kind _ ?_).mono ?_
 ·exact frc
 rintro e w1 ⟨rfl,hf1,nf1⟩
 have hb1:Bx w1 w.heap.size 115 #[.string x.name,.int .i64 x.kind.kind,.string x.kind.name]:=Bx.keepTo w1 (by exact bxc) hf1
 have hr1:Bx w1 (w.heap.size+1) 125 #[.string ⟨#[]⟩,.int .i64 0,.string ⟨#[]⟩]:=Bx.keepTo w1 (by exact bxc) hf1
 have ho1:Bx w1 (w.heap.size+1+1) 125 #[.string x.name,.int .i64 0,.string ⟨#[]⟩]:=Bx.keepTo w1 (by exact bxc) hf1
 obtain⟨a1_0,a1_1,a1_2⟩:=hb1.c3
 obtain⟨b1_0,b1_1,b1_2⟩:=hr1.c3
 obtain⟨c1_0,c1_1,c1_2⟩:=ho1.c3
 have fr1:=fun j=>hr1.frozen j
 have fo1:=fun j=>ho1.frozen j
 go_wp2
 refine bodyPost_ret (v:=.agg #[.string x.name,.int .i64 x.kind.kind,.string x.kind.name]) (by simp[results,Tryz.results74,go_sem, *]) rfl ?_
 exact .mk rfl (by exact frc) (by exact nfc)
theorem zi3:(Tryz.prog.info? 125).map (fun i=>(i.zero,i.size,i.bytes))=some (some (.agg #[.string ⟨#[]⟩,.int .i64 0,.string ⟨#[]⟩]),3,40):=by kernel_rfl
theorem zi4 (X:Nat->Prop) (v:Value) (xs:List Fld) (w:World) (h:Sl X w 3 FldC v xs) (hs:szL zhJ xs≤1048576):
  Calls Tryz.prog 43 #[v] w (zcj 3 (fun _ _=>FldC) xs w):=by
 have hlen:xs.length≤1048576:=by have:=zgj zhJ xs;omega
 obtain⟨A,cap,rfl,_,_⟩:=h.form
 have hmk:=fun W=>zgo 39 125 _ _ _ Tryz.underlying39 zi3 xs.length (by omega) (by omega) W
 go_enter Tryz.func43,Tryz.ntmps43
 go_wp2
 have hF0:=Fill.new w 125 3 FldC xs #[.string ⟨#[]⟩,.int .i64 0,.string ⟨#[]⟩]
 clear hmk
 go_loopw [4] (fun i wr=>∃k:Nat,k≤xs.length∧i=.int .i64 k∧Fill wr w.heap.size 125 3 xs.length k FldC xs∧Fr No w wr∧NF w wr) (fun i _=>xs.length-(intOf i).toNat)
 case atStart=>exact⟨0,Nat.zero_le _,rfl,hF0,by exact frc,by exact nfc⟩
 case round=>
  clear hF0
  obtain⟨k,hk,rfl,hF,hf,nf0⟩:=hrel
  by_cases hlt:k<xs.length
  ·obtain⟨b,off,rfl,hX,c0,c1,c2,z0,z1⟩:=(h.k0 hf).fld hlt
   have H:=fun W=>zi0 xs[k] _ W ⟨rfl,z0,z1⟩
   clear h
   go_wp2_with fail
   refine(H _).mono ?_
   rintro e w1 ⟨rfl,hf1,nf1⟩
   have hF1:=hF.keep hf1 (fun h=>h) (fun _ _ _ h=>h)
   obtain⟨o0,ho0⟩:=hF1.cell? (o:=k * 3) (by omega)
   obtain⟨o1,ho1⟩:=hF1.cell? (o:=k * 3+1) (by omega)
   obtain⟨o2,ho2⟩:=hF1.cell? (o:=k * 3+2) (by omega)
   have hfz:=fun o=>hF1.frozen o
   clear c0 c1 c2 H hF
   have hF1:=Lib.hid hF1
   go_wp2
   go_roundw
   case rel=>exact⟨k+1,by omega,by go_num,hF1.out.step (cs:=[.string xs[k].name,.int .i64 xs[k].kind.kind,.string xs[k].kind.name]) hlt hlt ⟨rfl,z0,z1⟩ rfl,by exact frc,by exact nfc⟩
   case measure=>simp[intOf];omega
  ·have he:k=xs.length:=by omega
   subst he
   clear h
   have hF:=Lib.hid hF
   go_wp2
   go_ret
   have hF:=hF.out
   exact⟨_,rfl,hF.done (X:=fun b=>b<w.heap.size) (by omega) (by unfold maxLen;omega),by exact frc,by exact nfc⟩
theorem zi5 (X:Nat->Prop) (x:Mp) (cs:List Value) (w:World) (h:MapC X w cs x) (hs:szMp x≤1048576):
  Calls Tryz.prog 135 #[.agg cs.toArray] w (zci MapC x w):=by
 obtain⟨v_locals,v_stack,rfl,h_locals,h_stack⟩:=h
 unfold szMp at hs
 have H_locals:=fun W (h:Fr No w W)=>ziW X _ x.locals W (h_locals.k0 h) (by omega)
 have H_stack:=fun W (h:Fr No w W)=>ziW X _ x.stack W (h_stack.k0 h) (by omega)
 obtain⟨A_locals,c_locals,rfl,_,_⟩:=h_locals.form
 clear h_locals
 obtain⟨A_stack,c_stack,rfl,_,_⟩:=h_stack.form
 clear h_stack
 clear hs
 go_enter Tryz.func135,Tryz.ntmps135
 go_wp2_with fail
 refine(H_locals _ ?_).mono ?_
 ·exact frc
 rintro e w1 ⟨v1,rfl,s_locals,hf1,nf1⟩
 obtain⟨B_locals,d_locals,rfl,_,_⟩:=s_locals.form
 have t_locals:=s_locals.weaken (Y:=fun b=>b<w.heap.size+3) (fun b (hb:b<w.heap.size+3)=>Nat.lt_of_lt_of_le hb (by first|(simp;done)|(simp;omega))) (fun _ _ _ h=>h)
 clear s_locals
 have hb1:Bx w1 w.heap.size 198 #[.int .i64 x.at_,.slice A_locals x.locals.length c_locals,.slice A_stack x.stack.length c_stack]:=Bx.keepTo w1 (by exact bxc) hf1
 have hr1:Bx w1 (w.heap.size+1) 165 #[.int .i64 0,.slice none 0 0,.slice none 0 0]:=Bx.keepTo w1 (by exact bxc) hf1
 have ho1:Bx w1 (w.heap.size+1+1) 165 #[.int .i64 x.at_,.slice none 0 0,.slice none 0 0]:=Bx.keepTo w1 (by exact bxc) hf1
 obtain⟨a1_0,a1_1,a1_2⟩:=hb1.c3
 obtain⟨b1_0,b1_1,b1_2⟩:=hr1.c3
 obtain⟨c1_0,c1_1,c1_2⟩:=ho1.c3
 have fr1:=fun j=>hr1.frozen j
 have fo1:=fun j=>ho1.frozen j
 go_wp2_with fail
 refine(H_stack _ ?_).mono ?_
 ·exact frc
 rintro e w2 ⟨v2,rfl,s_stack,hf2,nf2⟩
 obtain⟨B_stack,d_stack,rfl,_,_⟩:=s_stack.form
 have hlo:=ho1.lt
 have t_stack:=s_stack.weaken (Y:=fun b=>b<w.heap.size+3) (fun b (hb:b<w.heap.size+3)=>Nat.lt_of_lt_of_le hb (by first|(simp;done)|(simp;omega))) (fun _ _ _ h=>h)
 clear s_stack hlo
 have hb2:Bx w2 w.heap.size 198 #[.int .i64 x.at_,.slice A_locals x.locals.length c_locals,.slice A_stack x.stack.length c_stack]:=Bx.keepTo w2 (by exact bxc) hf2
 have hr2:Bx w2 (w.heap.size+1) 165 #[.int .i64 0,.slice none 0 0,.slice none 0 0]:=Bx.keepTo w2 (by exact bxc) hf2
 have ho2:Bx w2 (w.heap.size+1+1) 165 #[.int .i64 x.at_,.slice B_locals x.locals.length d_locals,.slice none 0 0]:=Bx.keepTo w2 (by exact bxc) hf2
 clear a1_0 a1_1 a1_2 b1_0 b1_1 b1_2 c1_0 c1_1 c1_2 fr1 fo1 hb1 hr1 ho1
 obtain⟨a2_0,a2_1,a2_2⟩:=hb2.c3
 obtain⟨b2_0,b2_1,b2_2⟩:=hr2.c3
 obtain⟨c2_0,c2_1,c2_2⟩:=ho2.c3
 have fr2:=fun j=>hr2.frozen j
 have fo2:=fun j=>ho2.frozen j
 go_wp2
 refine bodyPost_ret (v:=.agg #[.int .i64 x.at_,.slice B_locals x.locals.length d_locals,.slice B_stack x.stack.length d_stack]) (by simp[results,Tryz.results135,go_sem, *]) rfl ?_
 refine⟨_,rfl,⟨_,_,rfl,?_,?_⟩,by exact frc,by exact nfc⟩
 ·exact(t_locals.keep (Y:=fun b=>b<w.heap.size+3) (by exact frx) (fun _ h=>h) (fun _ _ _ h=>h)).weaken (fun b hb=>Nat.lt_add_right 3 hb) (fun _ _ _ h=>h)
 ·exact(t_stack.keep (Y:=fun b=>b<w.heap.size+3) (by exact frx) (fun _ h=>h) (fun _ _ _ h=>h)).weaken (fun b hb=>Nat.lt_add_right 3 hb) (fun _ _ _ h=>h)
theorem zi6:(Tryz.prog.info? 165).map (fun i=>(i.zero,i.size,i.bytes))=some (some (.agg #[.int .i64 0,.slice none 0 0,.slice none 0 0]),3,56):=by kernel_rfl
theorem zi7 (X:Nat->Prop) (v:Value) (xs:List Mp) (w:World) (h:Sl X w 3 (MapC X w) v xs) (hs:szL szMp xs≤1048576):
  Calls Tryz.prog 108 #[v] w (zcj 3 MapC xs w):=by
 have hlen:xs.length≤1048576:=by have:=zgj szMp xs;omega
 obtain⟨A,cap,rfl,_,_⟩:=h.form
 have hmk:=fun W=>zgo 131 165 _ _ _ Tryz.underlying131 zi6 xs.length (by omega) (by omega) W
 go_enter Tryz.func108,Tryz.ntmps108
 go_wp2
 have hF0:=Fill.newW w 165 3 (MapC (fun b=>b<w.heap.size+1)) xs #[.int .i64 0,.slice none 0 0,.slice none 0 0]
 clear hmk
 go_loopw [4] (fun i wr=>∃k:Nat,k≤xs.length∧i=.int .i64 k∧Fill wr w.heap.size 165 3 xs.length k (MapC (fun b=>b<w.heap.size+1) wr) xs∧Fr No w wr∧NF w wr) (fun i _=>xs.length-(intOf i).toNat)
 case atStart=>exact⟨0,Nat.zero_le _,rfl,hF0,by exact frc,by exact nfc⟩
 case round=>
  clear hF0
  obtain⟨k,hk,rfl,hF,hf,nf0⟩:=hrel
  by_cases hlt:k<xs.length
  ·obtain⟨b,off,A_locals,c_locals,A_stack,c_stack,rfl,hX,c0,c1,c2,h_locals,h_stack,_,_,_,_⟩:=(h.keep hf zN (fun _ _ _ h9=>h9.keep hf zN)).map hlt
   have H:=zi5 X xs[k] _ wr (show MapC X wr [.int .i64 xs[k].at_,.slice A_locals xs[k].locals.length c_locals,.slice A_stack xs[k].stack.length c_stack] xs[k] from⟨_,_,rfl,h_locals,h_stack⟩) (by have:=zgk szMp xs k hlt;omega)
   clear h
   go_wp2_with fail
   refine H.mono ?_
   rintro e w1 ⟨cs1,rfl,⟨u_locals,u_stack,rfl,g_locals,g_stack⟩,hf1,nf1⟩
   obtain⟨B_locals,d_locals,rfl,_,_⟩:=g_locals.form
   obtain⟨B_stack,d_stack,rfl,_,_⟩:=g_stack.form
   have hF1:=hF.keep hf1 (fun h=>h) (fun _ _ _ h=>h.keep hf1 zN)
   have hgl:∀b,b<w.heap.size+1->b<wr.heap.size:=fun b hb=>by have:=hF.lt;omega
   have hR1:MapC (fun b=>b<w.heap.size+1) w1 [.int .i64 xs[k].at_,.slice B_locals xs[k].locals.length d_locals,.slice B_stack xs[k].stack.length d_stack] xs[k]:=(show MapC (fun b=>b<wr.heap.size) w1 [.int .i64 xs[k].at_,.slice B_locals xs[k].locals.length d_locals,.slice B_stack xs[k].stack.length d_stack] xs[k] from⟨_,_,rfl,g_locals,g_stack⟩).weaken hgl
   obtain⟨o0,ho0⟩:=hF1.cell? (o:=k * 3) (by omega)
   obtain⟨o1,ho1⟩:=hF1.cell? (o:=k * 3+1) (by omega)
   obtain⟨o2,ho2⟩:=hF1.cell? (o:=k * 3+2) (by omega)
   have hfz:=fun o=>hF1.frozen o
   clear c0 c1 c2 H hF
   have hF1:=Lib.hid hF1
   go_wp2
   go_roundw
   case rel=>exact⟨k+1,by omega,by go_num,(hF1.out.step (cs:=[.int .i64 xs[k].at_,.slice B_locals xs[k].locals.length d_locals,.slice B_stack xs[k].stack.length d_stack]) hlt hlt hR1 rfl).keep (Fr.refl No _) (fun h=>h) (fun _ _ _ h=>h.keep (Y:=fun b=>b<w.heap.size+1) (by exact frx) (fun _ h=>h)),by exact frc,by exact nfc⟩
   case measure=>simp[intOf];omega
  ·have he:k=xs.length:=by omega
   subst he
   clear h
   have hF:=Lib.hid hF
   go_wp2
   go_ret
   have hF:=hF.out
   exact⟨_,rfl,(hF.done (X:=fun b=>b<w.heap.size) (by omega) (by unfold maxLen;omega)).weaken (fun _ h=>h) (fun _ _ _ h=>h.weaken (fun b hb=>Nat.lt_add_right 1 hb)),by exact frc,by exact nfc⟩
theorem zi8 (X:Nat->Prop) (x:Mth) (cs:List Value) (w:World) (h:MthC X w cs x) (hs:zhO x≤1048576):
  Calls Tryz.prog 75 #[.agg cs.toArray] w (zci MthC x w):=by
 obtain⟨v_args,v_code,v_maps,rfl,z0,z1,h_args,h_code,h_maps⟩:=h
 unfold zhO at hs
 have H_args:=fun W (h:Fr No w W)=>ziT X _ x.args W (h_args.k0 h) (by omega)
 have H_ret:=fun W (_:Fr No w W)=>ziR x.ret _ W ⟨rfl,(by assumption)⟩
 have H_code:=fun W (h:Fr No w W)=>ziZ X _ x.code W (h_code.k0 h) (by omega)
 have H_maps:=fun W (h:Fr No w W)=>zi7 X _ x.maps W (h_maps.keep h zN (fun _ _ _ h9=>h9.keep h zN)) (by omega)
 obtain⟨A_args,c_args,rfl,_,_⟩:=h_args.form
 clear h_args
 obtain⟨A_code,c_code,rfl,_,_⟩:=h_code.form
 clear h_code
 obtain⟨A_maps,c_maps,rfl,_,_⟩:=h_maps.form
 clear h_maps
 clear hs
 go_enter Tryz.func75,Tryz.ntmps75
 go_wp2_with fail
 refine(H_args _ ?_).mono ?_
 ·exact frc
 rintro e w1 ⟨v1,rfl,s_args,hf1,nf1⟩
 obtain⟨B_args,d_args,rfl,_,_⟩:=s_args.form
 have t_args:=s_args.weaken (Y:=fun b=>b<w.heap.size+3) (fun b (hb:b<w.heap.size+3)=>Nat.lt_of_lt_of_le hb (by first|(simp;done)|(simp;omega))) (fun _ _ _ h=>h)
 clear s_args
 have hb1:Bx w1 w.heap.size 121 #[.string x.name,.slice A_args x.args.length c_args,.int .i64 x.ret.kind,.string x.ret.name,.int .i64 x.locals,.int .i64 x.stack,.slice A_code x.code.length c_code,.slice A_maps x.maps.length c_maps]:=Bx.keepTo w1 (by exact bxc) hf1
 have hr1:Bx w1 (w.heap.size+1) 133 #[.string ⟨#[]⟩,.slice none 0 0,.int .i64 0,.string ⟨#[]⟩,.int .i64 0,.int .i64 0,.slice none 0 0,.slice none 0 0]:=Bx.keepTo w1 (by exact bxc) hf1
 have ho1:Bx w1 (w.heap.size+1+1) 133 #[.string x.name,.slice none 0 0,.int .i64 0,.string ⟨#[]⟩,.int .i64 0,.int .i64 0,.slice none 0 0,.slice none 0 0]:=Bx.keepTo w1 (by exact bxc) hf1
 obtain⟨a1_0,a1_1,a1_2,a1_3,a1_4,a1_5,a1_6,a1_7⟩:=hb1.c8
 obtain⟨b1_0,b1_1,b1_2,b1_3,b1_4,b1_5,b1_6,b1_7⟩:=hr1.c8
 obtain⟨c1_0,c1_1,c1_2,c1_3,c1_4,c1_5,c1_6,c1_7⟩:=ho1.c8
 have fr1:=fun j=>hr1.frozen j
 have fo1:=fun j=>ho1.frozen j
 go_wp2_with fail
 refine(H_ret _ ?_).mono ?_
 ·exact frc
 rintro e w2 ⟨rfl,hf2,nf2⟩
 have hb2:Bx w2 w.heap.size 121 #[.string x.name,.slice A_args x.args.length c_args,.int .i64 x.ret.kind,.string x.ret.name,.int .i64 x.locals,.int .i64 x.stack,.slice A_code x.code.length c_code,.slice A_maps x.maps.length c_maps]:=Bx.keepTo w2 (by exact bxc) hf2
 have hr2:Bx w2 (w.heap.size+1) 133 #[.string ⟨#[]⟩,.slice none 0 0,.int .i64 0,.string ⟨#[]⟩,.int .i64 0,.int .i64 0,.slice none 0 0,.slice none 0 0]:=Bx.keepTo w2 (by exact bxc) hf2
 have ho2:Bx w2 (w.heap.size+1+1) 133 #[.string x.name,.slice B_args x.args.length d_args,.int .i64 0,.string ⟨#[]⟩,.int .i64 0,.int .i64 0,.slice none 0 0,.slice none 0 0]:=Bx.keepTo w2 (by exact bxc) hf2
 clear a1_0 a1_1 a1_2 a1_3 a1_4 a1_5 a1_6 a1_7 b1_0 b1_1 b1_2 b1_3 b1_4 b1_5 b1_6 b1_7 c1_0 c1_1 c1_2 c1_3 c1_4 c1_5 c1_6 c1_7 fr1 fo1 hb1 hr1 ho1
 obtain⟨a2_0,a2_1,a2_2,a2_3,a2_4,a2_5,a2_6,a2_7⟩:=hb2.c8
 obtain⟨b2_0,b2_1,b2_2,b2_3,b2_4,b2_5,b2_6,b2_7⟩:=hr2.c8
 obtain⟨c2_0,c2_1,c2_2,c2_3,c2_4,c2_5,c2_6,c2_7⟩:=ho2.c8
 have fr2:=fun j=>hr2.frozen j
 have fo2:=fun j=>ho2.frozen j
 go_wp2_with fail
 refine(H_code _ ?_).mono ?_
 ·exact frc
 rintro e w3 ⟨v3,rfl,zlB,hf3,nf3⟩
 obtain⟨B_code,d_code,rfl,_,_⟩:=zlB.form
 have hlo:=ho2.lt
 have t_code:=zlB.weaken (Y:=fun b=>b<w.heap.size+3) (fun b (hb:b<w.heap.size+3)=>Nat.lt_of_lt_of_le hb (by first|(simp;done)|(simp;omega))) (fun _ _ _ h=>h)
 clear zlB hlo
 have hb3:Bx w3 w.heap.size 121 #[.string x.name,.slice A_args x.args.length c_args,.int .i64 x.ret.kind,.string x.ret.name,.int .i64 x.locals,.int .i64 x.stack,.slice A_code x.code.length c_code,.slice A_maps x.maps.length c_maps]:=Bx.keepTo w3 (by exact bxc) hf3
 have hr3:Bx w3 (w.heap.size+1) 133 #[.string ⟨#[]⟩,.slice none 0 0,.int .i64 0,.string ⟨#[]⟩,.int .i64 0,.int .i64 0,.slice none 0 0,.slice none 0 0]:=Bx.keepTo w3 (by exact bxc) hf3
 have ho3:Bx w3 (w.heap.size+1+1) 133 #[.string x.name,.slice B_args x.args.length d_args,.int .i64 x.ret.kind,.string x.ret.name,.int .i64 x.locals,.int .i64 x.stack,.slice none 0 0,.slice none 0 0]:=Bx.keepTo w3 (by exact bxc) hf3
 clear a2_0 a2_1 a2_2 a2_3 a2_4 a2_5 a2_6 a2_7 b2_0 b2_1 b2_2 b2_3 b2_4 b2_5 b2_6 b2_7 c2_0 c2_1 c2_2 c2_3 c2_4 c2_5 c2_6 c2_7 fr2 fo2 hb2 hr2 ho2
 obtain⟨a3_0,a3_1,a3_2,a3_3,a3_4,a3_5,a3_6,a3_7⟩:=hb3.c8
 obtain⟨b3_0,b3_1,b3_2,b3_3,b3_4,b3_5,b3_6,b3_7⟩:=hr3.c8
 obtain⟨c3_0,c3_1,c3_2,c3_3,c3_4,c3_5,c3_6,c3_7⟩:=ho3.c8
 have fr3:=fun j=>hr3.frozen j
 have fo3:=fun j=>ho3.frozen j
 go_wp2_with fail
 refine(H_maps _ ?_).mono ?_
 ·exact frc
 rintro e w4 ⟨v4,rfl,zlD,hf4,nf4⟩
 obtain⟨B_maps,d_maps,rfl,_,_⟩:=zlD.form
 have hlo:=ho3.lt
 have t_maps:=zlD.weaken (Y:=fun b=>b<w.heap.size+3) (fun b (hb:b<w.heap.size+3)=>Nat.lt_of_lt_of_le hb (by first|(simp;done)|(simp;omega))) (fun _ _ _ h9=>h9.weaken (fun b (hb:b<w.heap.size+3)=>Nat.lt_of_lt_of_le hb (by first|(simp;done)|(simp;omega))))
 clear zlD hlo
 have hb4:Bx w4 w.heap.size 121 #[.string x.name,.slice A_args x.args.length c_args,.int .i64 x.ret.kind,.string x.ret.name,.int .i64 x.locals,.int .i64 x.stack,.slice A_code x.code.length c_code,.slice A_maps x.maps.length c_maps]:=Bx.keepTo w4 (by exact bxc) hf4
 have hr4:Bx w4 (w.heap.size+1) 133 #[.string ⟨#[]⟩,.slice none 0 0,.int .i64 0,.string ⟨#[]⟩,.int .i64 0,.int .i64 0,.slice none 0 0,.slice none 0 0]:=Bx.keepTo w4 (by exact bxc) hf4
 have ho4:Bx w4 (w.heap.size+1+1) 133 #[.string x.name,.slice B_args x.args.length d_args,.int .i64 x.ret.kind,.string x.ret.name,.int .i64 x.locals,.int .i64 x.stack,.slice B_code x.code.length d_code,.slice none 0 0]:=Bx.keepTo w4 (by exact bxc) hf4
 clear a3_0 a3_1 a3_2 a3_3 a3_4 a3_5 a3_6 a3_7 b3_0 b3_1 b3_2 b3_3 b3_4 b3_5 b3_6 b3_7 c3_0 c3_1 c3_2 c3_3 c3_4 c3_5 c3_6 c3_7 fr3 fo3 hb3 hr3 ho3
 obtain⟨a4_0,a4_1,a4_2,a4_3,a4_4,a4_5,a4_6,a4_7⟩:=hb4.c8
 obtain⟨b4_0,b4_1,b4_2,b4_3,b4_4,b4_5,b4_6,b4_7⟩:=hr4.c8
 obtain⟨c4_0,c4_1,c4_2,c4_3,c4_4,c4_5,c4_6,c4_7⟩:=ho4.c8
 have fr4:=fun j=>hr4.frozen j
 have fo4:=fun j=>ho4.frozen j
 go_wp2
 refine bodyPost_ret (v:=.agg #[.string x.name,.slice B_args x.args.length d_args,.int .i64 x.ret.kind,.string x.ret.name,.int .i64 x.locals,.int .i64 x.stack,.slice B_code x.code.length d_code,.slice B_maps x.maps.length d_maps]) (by simp[results,Tryz.results75,go_sem, *]) rfl ?_
 refine⟨_,rfl,⟨_,_,_,rfl,z0,z1,?_,?_,?_⟩,by exact frc,by exact nfc⟩
 ·exact(t_args.keep (Y:=fun b=>b<w.heap.size+3) (by exact frx) (fun _ h=>h) (fun _ _ _ h=>h)).weaken (fun b hb=>Nat.lt_add_right 3 hb) (fun _ _ _ h=>h)
 ·exact(t_code.keep (Y:=fun b=>b<w.heap.size+3) (by exact frx) (fun _ h=>h) (fun _ _ _ h=>h)).weaken (fun b hb=>Nat.lt_add_right 3 hb) (fun _ _ _ h=>h)
 ·exact(t_maps.keep (Y:=fun b=>b<w.heap.size+3) (by exact frx) (fun _ h=>h) (fun _ _ _ h9=>h9.keep (Y:=fun b=>b<w.heap.size+3) (by exact frx) (fun _ h=>h))).weaken (fun b hb=>Nat.lt_add_right 3 hb) (fun _ _ _ h9=>h9.weaken (fun b hb=>Nat.lt_add_right 3 hb))
theorem zi9:(Tryz.prog.info? 133).map (fun i=>(i.zero,i.size,i.bytes))=some (some (.agg #[.string ⟨#[]⟩,.slice none 0 0,.int .i64 0,.string ⟨#[]⟩,.int .i64 0,.int .i64 0,.slice none 0 0,.slice none 0 0]),8,128):=by kernel_rfl
theorem zja (X:Nat->Prop) (v:Value) (xs:List Mth) (w:World) (h:Sl X w 8 (MthC X w) v xs) (hs:szL zhO xs≤1048576):
  Calls Tryz.prog 44 #[v] w (zcj 8 MthC xs w):=by
 have hlen:xs.length≤1048576:=by have:=zgj zhO xs;omega
 obtain⟨A,cap,rfl,_,_⟩:=h.form
 have hmk:=fun W=>zgo 40 133 _ _ _ Tryz.underlying40 zi9 xs.length (by omega) (by omega) W
 go_enter Tryz.func44,Tryz.ntmps44
 go_wp2
 have hF0:=Fill.newW w 133 8 (MthC (fun b=>b<w.heap.size+1)) xs #[.string ⟨#[]⟩,.slice none 0 0,.int .i64 0,.string ⟨#[]⟩,.int .i64 0,.int .i64 0,.slice none 0 0,.slice none 0 0]
 clear hmk
 go_loopw [4] (fun i wr=>∃k:Nat,k≤xs.length∧i=.int .i64 k∧Fill wr w.heap.size 133 8 xs.length k (MthC (fun b=>b<w.heap.size+1) wr) xs∧Fr No w wr∧NF w wr) (fun i _=>xs.length-(intOf i).toNat)
 case atStart=>exact⟨0,Nat.zero_le _,rfl,hF0,by exact frc,by exact nfc⟩
 case round=>
  clear hF0
  obtain⟨k,hk,rfl,hF,hf,nf0⟩:=hrel
  by_cases hlt:k<xs.length
  ·obtain⟨b,off,A_args,c_args,A_code,c_code,A_maps,c_maps,rfl,hX,c0,c1,c2,c3,c4,c5,c6,c7,z0,z1,h_args,h_code,h_maps,_,_,_,_,_,_⟩:=(h.keep hf zN (fun _ _ _ h9=>h9.keep hf zN)).mth hlt
   have H:=zi8 X xs[k] _ wr (show MthC X wr [.string xs[k].name,.slice A_args xs[k].args.length c_args,.int .i64 xs[k].ret.kind,.string xs[k].ret.name,.int .i64 xs[k].locals,.int .i64 xs[k].stack,.slice A_code xs[k].code.length c_code,.slice A_maps xs[k].maps.length c_maps] xs[k] from⟨_,_,_,rfl,z0,z1,h_args,h_code,h_maps⟩) (by have:=zgk zhO xs k hlt;omega)
   clear h
   go_wp2_with fail
   refine H.mono ?_
   rintro e w1 ⟨cs1,rfl,⟨u_args,u_code,u_maps,rfl,y0,y1,g_args,g_code,g_maps⟩,hf1,nf1⟩
   obtain⟨B_args,d_args,rfl,_,_⟩:=g_args.form
   obtain⟨B_code,d_code,rfl,_,_⟩:=g_code.form
   obtain⟨B_maps,d_maps,rfl,_,_⟩:=g_maps.form
   have hF1:=hF.keep hf1 (fun h=>h) (fun _ _ _ h=>h.keep hf1 zN)
   have hgl:∀b,b<w.heap.size+1->b<wr.heap.size:=fun b hb=>by have:=hF.lt;omega
   have hR1:MthC (fun b=>b<w.heap.size+1) w1 [.string xs[k].name,.slice B_args xs[k].args.length d_args,.int .i64 xs[k].ret.kind,.string xs[k].ret.name,.int .i64 xs[k].locals,.int .i64 xs[k].stack,.slice B_code xs[k].code.length d_code,.slice B_maps xs[k].maps.length d_maps] xs[k]:=(show MthC (fun b=>b<wr.heap.size) w1 [.string xs[k].name,.slice B_args xs[k].args.length d_args,.int .i64 xs[k].ret.kind,.string xs[k].ret.name,.int .i64 xs[k].locals,.int .i64 xs[k].stack,.slice B_code xs[k].code.length d_code,.slice B_maps xs[k].maps.length d_maps] xs[k] from⟨_,_,_,rfl,y0,y1,g_args,g_code,g_maps⟩).weaken hgl
   obtain⟨o0,ho0⟩:=hF1.cell? (o:=k * 8) (by omega)
   obtain⟨o1,ho1⟩:=hF1.cell? (o:=k * 8+1) (by omega)
   obtain⟨o2,ho2⟩:=hF1.cell? (o:=k * 8+2) (by omega)
   obtain⟨o3,ho3⟩:=hF1.cell? (o:=k * 8+3) (by omega)
   obtain⟨o4,ho4⟩:=hF1.cell? (o:=k * 8+4) (by omega)
   obtain⟨o5,ho5⟩:=hF1.cell? (o:=k * 8+5) (by omega)
   obtain⟨o6,ho6⟩:=hF1.cell? (o:=k * 8+6) (by omega)
   obtain⟨o7,ho7⟩:=hF1.cell? (o:=k * 8+7) (by omega)
   have hfz:=fun o=>hF1.frozen o
   clear c0 c1 c2 c3 c4 c5 c6 c7 H hF
   have hF1:=Lib.hid hF1
   go_wp2
   go_roundw
   case rel=>exact⟨k+1,by omega,by go_num,(hF1.out.step (cs:=[.string xs[k].name,.slice B_args xs[k].args.length d_args,.int .i64 xs[k].ret.kind,.string xs[k].ret.name,.int .i64 xs[k].locals,.int .i64 xs[k].stack,.slice B_code xs[k].code.length d_code,.slice B_maps xs[k].maps.length d_maps]) hlt hlt hR1 rfl).keep (Fr.refl No _) (fun h=>h) (fun _ _ _ h=>h.keep (Y:=fun b=>b<w.heap.size+1) (by exact frx) (fun _ h=>h)),by exact frc,by exact nfc⟩
   case measure=>simp[intOf];omega
  ·have he:k=xs.length:=by omega
   subst he
   clear h
   have hF:=Lib.hid hF
   go_wp2
   go_ret
   have hF:=hF.out
   exact⟨_,rfl,(hF.done (X:=fun b=>b<w.heap.size) (by omega) (by unfold maxLen;omega)).weaken (fun _ h=>h) (fun _ _ _ h=>h.weaken (fun b hb=>Nat.lt_add_right 1 hb)),by exact frc,by exact nfc⟩
theorem zjb (X:Nat->Prop) (x:Cls) (cs:List Value) (w:World) (h:ClsC X w cs x) (hs:zhR x≤1048576):
  Calls Tryz.prog 22 #[.agg cs.toArray] w (zci ClsC x w):=by
 obtain⟨v_fields,v_methods,rfl,z0,z1,h_fields,h_methods⟩:=h
 unfold zhR at hs
 have H_fields:=fun W (h:Fr No w W)=>zi4 X _ x.fields W (h_fields.k0 h) (by omega)
 have H_methods:=fun W (h:Fr No w W)=>zja X _ x.methods W (h_methods.keep h zN (fun _ _ _ h9=>h9.keep h zN)) (by omega)
 obtain⟨A_fields,c_fields,rfl,_,_⟩:=h_fields.form
 clear h_fields
 obtain⟨A_methods,c_methods,rfl,_,_⟩:=h_methods.form
 clear h_methods
 clear hs
 go_enter Tryz.func22,Tryz.ntmps22
 go_wp2_with fail
 refine(H_fields _ ?_).mono ?_
 ·exact frc
 rintro e w1 ⟨v1,rfl,s_fields,hf1,nf1⟩
 obtain⟨B_fields,d_fields,rfl,_,_⟩:=s_fields.form
 have t_fields:=s_fields.weaken (Y:=fun b=>b<w.heap.size+3) (fun b (hb:b<w.heap.size+3)=>Nat.lt_of_lt_of_le hb (by first|(simp;done)|(simp;omega))) (fun _ _ _ h=>h)
 clear s_fields
 have hb1:Bx w1 w.heap.size 28 #[.string x.name,.string x.super,.slice A_fields x.fields.length c_fields,.slice A_methods x.methods.length c_methods]:=Bx.keepTo w1 (by exact bxc) hf1
 have hr1:Bx w1 (w.heap.size+1) 42 #[.string ⟨#[]⟩,.string ⟨#[]⟩,.slice none 0 0,.slice none 0 0]:=Bx.keepTo w1 (by exact bxc) hf1
 have ho1:Bx w1 (w.heap.size+1+1) 42 #[.string x.name,.string x.super,.slice none 0 0,.slice none 0 0]:=Bx.keepTo w1 (by exact bxc) hf1
 obtain⟨a1_0,a1_1,a1_2,a1_3⟩:=hb1.c4
 obtain⟨b1_0,b1_1,b1_2,b1_3⟩:=hr1.c4
 obtain⟨c1_0,c1_1,c1_2,c1_3⟩:=ho1.c4
 have fr1:=fun j=>hr1.frozen j
 have fo1:=fun j=>ho1.frozen j
 go_wp2_with fail
 refine(H_methods _ ?_).mono ?_
 ·exact frc
 rintro e w2 ⟨v2,rfl,s_methods,hf2,nf2⟩
 obtain⟨B_methods,d_methods,rfl,_,_⟩:=s_methods.form
 have hlo:=ho1.lt
 have t_methods:=s_methods.weaken (Y:=fun b=>b<w.heap.size+3) (fun b (hb:b<w.heap.size+3)=>Nat.lt_of_lt_of_le hb (by first|(simp;done)|(simp;omega))) (fun _ _ _ h9=>h9.weaken (fun b (hb:b<w.heap.size+3)=>Nat.lt_of_lt_of_le hb (by first|(simp;done)|(simp;omega))))
 clear s_methods hlo
 have hb2:Bx w2 w.heap.size 28 #[.string x.name,.string x.super,.slice A_fields x.fields.length c_fields,.slice A_methods x.methods.length c_methods]:=Bx.keepTo w2 (by exact bxc) hf2
 have hr2:Bx w2 (w.heap.size+1) 42 #[.string ⟨#[]⟩,.string ⟨#[]⟩,.slice none 0 0,.slice none 0 0]:=Bx.keepTo w2 (by exact bxc) hf2
 have ho2:Bx w2 (w.heap.size+1+1) 42 #[.string x.name,.string x.super,.slice B_fields x.fields.length d_fields,.slice none 0 0]:=Bx.keepTo w2 (by exact bxc) hf2
 clear a1_0 a1_1 a1_2 a1_3 b1_0 b1_1 b1_2 b1_3 c1_0 c1_1 c1_2 c1_3 fr1 fo1 hb1 hr1 ho1
 obtain⟨a2_0,a2_1,a2_2,a2_3⟩:=hb2.c4
 obtain⟨b2_0,b2_1,b2_2,b2_3⟩:=hr2.c4
 obtain⟨c2_0,c2_1,c2_2,c2_3⟩:=ho2.c4
 have fr2:=fun j=>hr2.frozen j
 have fo2:=fun j=>ho2.frozen j
 go_wp2
 refine bodyPost_ret (v:=.agg #[.string x.name,.string x.super,.slice B_fields x.fields.length d_fields,.slice B_methods x.methods.length d_methods]) (by simp[results,Tryz.results22,go_sem, *]) rfl ?_
 refine⟨_,rfl,⟨_,_,rfl,z0,z1,?_,?_⟩,by exact frc,by exact nfc⟩
 ·exact(t_fields.keep (Y:=fun b=>b<w.heap.size+3) (by exact frx) (fun _ h=>h) (fun _ _ _ h=>h)).weaken (fun b hb=>Nat.lt_add_right 3 hb) (fun _ _ _ h=>h)
 ·exact(t_methods.keep (Y:=fun b=>b<w.heap.size+3) (by exact frx) (fun _ h=>h) (fun _ _ _ h9=>h9.keep (Y:=fun b=>b<w.heap.size+3) (by exact frx) (fun _ h=>h))).weaken (fun b hb=>Nat.lt_add_right 3 hb) (fun _ _ _ h9=>h9.weaken (fun b hb=>Nat.lt_add_right 3 hb))
theorem zjc:(Tryz.prog.info? 42).map (fun i=>(i.zero,i.size,i.bytes))=some (some (.agg #[.string ⟨#[]⟩,.string ⟨#[]⟩,.slice none 0 0,.slice none 0 0]),4,80):=by kernel_rfl
theorem zjd (X:Nat->Prop) (v:Value) (xs:List Cls) (w:World) (h:Sl X w 4 (ClsC X w) v xs) (hs:szL zhR xs≤1048576):
  Calls Tryz.prog 72 #[v] w (zcj 4 ClsC xs w):=by
 have hlen:xs.length≤1048576:=by have:=zgj zhR xs;omega
 obtain⟨A,cap,rfl,_,_⟩:=h.form
 have hmk:=fun W=>zgo 64 42 _ _ _ Tryz.underlying64 zjc xs.length (by omega) (by omega) W
 go_enter Tryz.func72,Tryz.ntmps72
 go_wp2
 have hF0:=Fill.newW w 42 4 (ClsC (fun b=>b<w.heap.size+1)) xs #[.string ⟨#[]⟩,.string ⟨#[]⟩,.slice none 0 0,.slice none 0 0]
 clear hmk
 go_loopw [4] (fun i wr=>∃k:Nat,k≤xs.length∧i=.int .i64 k∧Fill wr w.heap.size 42 4 xs.length k (ClsC (fun b=>b<w.heap.size+1) wr) xs∧Fr No w wr∧NF w wr) (fun i _=>xs.length-(intOf i).toNat)
 case atStart=>exact⟨0,Nat.zero_le _,rfl,hF0,by exact frc,by exact nfc⟩
 case round=>
  clear hF0
  obtain⟨k,hk,rfl,hF,hf,nf0⟩:=hrel
  by_cases hlt:k<xs.length
  ·obtain⟨b,off,A_fields,c_fields,A_methods,c_methods,rfl,hX,c0,c1,c2,c3,z0,z1,h_fields,h_methods,_,_,_,_⟩:=(h.keep hf zN (fun _ _ _ h9=>h9.keep hf zN)).cls hlt
   have H:=zjb X xs[k] _ wr (show ClsC X wr [.string xs[k].name,.string xs[k].super,.slice A_fields xs[k].fields.length c_fields,.slice A_methods xs[k].methods.length c_methods] xs[k] from⟨_,_,rfl,z0,z1,h_fields,h_methods⟩) (by have:=zgk zhR xs k hlt;omega)
   clear h
   go_wp2_with fail
   refine H.mono ?_
   rintro e w1 ⟨cs1,rfl,⟨u_fields,u_methods,rfl,y0,y1,g_fields,g_methods⟩,hf1,nf1⟩
   obtain⟨B_fields,d_fields,rfl,_,_⟩:=g_fields.form
   obtain⟨B_methods,d_methods,rfl,_,_⟩:=g_methods.form
   have hF1:=hF.keep hf1 (fun h=>h) (fun _ _ _ h=>h.keep hf1 zN)
   have hgl:∀b,b<w.heap.size+1->b<wr.heap.size:=fun b hb=>by have:=hF.lt;omega
   have hR1:ClsC (fun b=>b<w.heap.size+1) w1 [.string xs[k].name,.string xs[k].super,.slice B_fields xs[k].fields.length d_fields,.slice B_methods xs[k].methods.length d_methods] xs[k]:=(show ClsC (fun b=>b<wr.heap.size) w1 [.string xs[k].name,.string xs[k].super,.slice B_fields xs[k].fields.length d_fields,.slice B_methods xs[k].methods.length d_methods] xs[k] from⟨_,_,rfl,y0,y1,g_fields,g_methods⟩).weaken hgl
   obtain⟨o0,ho0⟩:=hF1.cell? (o:=k * 4) (by omega)
   obtain⟨o1,ho1⟩:=hF1.cell? (o:=k * 4+1) (by omega)
   obtain⟨o2,ho2⟩:=hF1.cell? (o:=k * 4+2) (by omega)
   obtain⟨o3,ho3⟩:=hF1.cell? (o:=k * 4+3) (by omega)
   have hfz:=fun o=>hF1.frozen o
   clear c0 c1 c2 c3 H hF
   have hF1:=Lib.hid hF1
   go_wp2
   go_roundw
   case rel=>exact⟨k+1,by omega,by go_num,(hF1.out.step (cs:=[.string xs[k].name,.string xs[k].super,.slice B_fields xs[k].fields.length d_fields,.slice B_methods xs[k].methods.length d_methods]) hlt hlt hR1 rfl).keep (Fr.refl No _) (fun h=>h) (fun _ _ _ h=>h.keep (Y:=fun b=>b<w.heap.size+1) (by exact frx) (fun _ h=>h)),by exact frc,by exact nfc⟩
   case measure=>simp[intOf];omega
  ·have he:k=xs.length:=by omega
   subst he
   clear h
   have hF:=Lib.hid hF
   go_wp2
   go_ret
   have hF:=hF.out
   exact⟨_,rfl,(hF.done (X:=fun b=>b<w.heap.size) (by omega) (by unfold maxLen;omega)).weaken (fun _ h=>h) (fun _ _ _ h=>h.weaken (fun b hb=>Nat.lt_add_right 1 hb)),by exact frc,by exact nfc⟩
theorem zje (x:Ask) (cs:List Value) (w:World) (h:AskC cs x):
  Calls Tryz.prog 104 #[.agg cs.toArray] w (zch (.agg cs.toArray) w):=by
 obtain⟨rfl,z0⟩:=h
 go_enter Tryz.func104,Tryz.ntmps104
 go_wp2
 refine bodyPost_ret (v:=.agg #[.string x.name,.int .i64 x.keeper]) (by simp[results,Tryz.results104,go_sem]) rfl ?_
 exact .mk rfl (by exact frc) (by exact nfc)
theorem zjf:(Tryz.prog.info? 86).map (fun i=>(i.zero,i.size,i.bytes))=some (some (.agg #[.string ⟨#[]⟩,.int .i64 0]),2,24):=by kernel_rfl
theorem zjg (X:Nat->Prop) (v:Value) (xs:List Ask) (w:World) (h:Sl X w 2 AskC v xs) (hs:szL zb5 xs≤1048576):
  Calls Tryz.prog 73 #[v] w (zcj 2 (fun _ _=>AskC) xs w):=by
 have hlen:xs.length≤1048576:=by have:=zgj zb5 xs;omega
 obtain⟨A,cap,rfl,_,_⟩:=h.form
 have hmk:=fun W=>zgo 65 86 _ _ _ Tryz.underlying65 zjf xs.length (by omega) (by omega) W
 go_enter Tryz.func73,Tryz.ntmps73
 go_wp2
 have hF0:=Fill.new w 86 2 AskC xs #[.string ⟨#[]⟩,.int .i64 0]
 clear hmk
 go_loopw [4] (fun i wr=>∃k:Nat,k≤xs.length∧i=.int .i64 k∧Fill wr w.heap.size 86 2 xs.length k AskC xs∧Fr No w wr∧NF w wr) (fun i _=>xs.length-(intOf i).toNat)
 case atStart=>exact⟨0,Nat.zero_le _,rfl,hF0,by exact frc,by exact nfc⟩
 case round=>
  clear hF0
  obtain⟨k,hk,rfl,hF,hf,nf0⟩:=hrel
  by_cases hlt:k<xs.length
  ·obtain⟨b,off,rfl,hX,c0,c1,z0⟩:=(h.k0 hf).ask hlt
   have H:=fun W=>zje xs[k] _ W ⟨rfl,z0⟩
   clear h
   go_wp2_with fail
   refine(H _).mono ?_
   rintro e w1 ⟨rfl,hf1,nf1⟩
   have hF1:=hF.keep hf1 (fun h=>h) (fun _ _ _ h=>h)
   obtain⟨o0,ho0⟩:=hF1.cell? (o:=k * 2) (by omega)
   obtain⟨o1,ho1⟩:=hF1.cell? (o:=k * 2+1) (by omega)
   have hfz:=fun o=>hF1.frozen o
   clear c0 c1 H hF
   have hF1:=Lib.hid hF1
   go_wp2
   go_roundw
   case rel=>exact⟨k+1,by omega,by go_num,hF1.out.step (cs:=[.string xs[k].name,.int .i64 xs[k].keeper]) hlt hlt ⟨rfl,z0⟩ rfl,by exact frc,by exact nfc⟩
   case measure=>simp[intOf];omega
  ·have he:k=xs.length:=by omega
   subst he
   clear h
   have hF:=Lib.hid hF
   go_wp2
   go_ret
   have hF:=hF.out
   exact⟨_,rfl,hF.done (X:=fun b=>b<w.heap.size) (by omega) (by unfold maxLen;omega),by exact frc,by exact nfc⟩
theorem zjh (X:Nat->Prop) (x:Kpr) (cs:List Value) (w:World) (h:KprC X w cs x) (hs:zb8 x≤1048576):
  Calls Tryz.prog 42 #[.agg cs.toArray] w (zci KprC x w):=by
 obtain⟨v_owns,v_asks,rfl,h_owns,h_asks⟩:=h
 unfold zb8 at hs
 have H_owns:=fun W (h:Fr No w W)=>zjd X _ x.owns W (h_owns.keep h zN (fun _ _ _ h9=>h9.keep h zN)) (by omega)
 have H_asks:=fun W (h:Fr No w W)=>zjg X _ x.asks W (h_asks.k0 h) (by omega)
 obtain⟨A_owns,c_owns,rfl,_,_⟩:=h_owns.form
 clear h_owns
 obtain⟨A_asks,c_asks,rfl,_,_⟩:=h_asks.form
 clear h_asks
 clear hs
 go_enter Tryz.func42,Tryz.ntmps42
 go_wp2_with fail
 refine(H_owns _ ?_).mono ?_
 ·exact frc
 rintro e w1 ⟨v1,rfl,s_owns,hf1,nf1⟩
 obtain⟨B_owns,d_owns,rfl,_,_⟩:=s_owns.form
 have t_owns:=s_owns.weaken (Y:=fun b=>b<w.heap.size+3) (fun b (hb:b<w.heap.size+3)=>Nat.lt_of_lt_of_le hb (by first|(simp;done)|(simp;omega))) (fun _ _ _ h9=>h9.weaken (fun b (hb:b<w.heap.size+3)=>Nat.lt_of_lt_of_le hb (by first|(simp;done)|(simp;omega))))
 clear s_owns
 have hb1:Bx w1 w.heap.size 76 #[.slice A_owns x.owns.length c_owns,.slice A_asks x.asks.length c_asks]:=Bx.keepTo w1 (by exact bxc) hf1
 have hr1:Bx w1 (w.heap.size+1) 67 #[.slice none 0 0,.slice none 0 0]:=Bx.keepTo w1 (by exact bxc) hf1
 have ho1:Bx w1 (w.heap.size+1+1) 67 #[.slice none 0 0,.slice none 0 0]:=Bx.keepTo w1 (by exact bxc) hf1
 obtain⟨a1_0,a1_1⟩:=hb1.c2
 obtain⟨b1_0,b1_1⟩:=hr1.c2
 obtain⟨c1_0,c1_1⟩:=ho1.c2
 have fr1:=fun j=>hr1.frozen j
 have fo1:=fun j=>ho1.frozen j
 go_wp2_with fail
 refine(H_asks _ ?_).mono ?_
 ·exact frc
 rintro e w2 ⟨v2,rfl,zaM,hf2,nf2⟩
 obtain⟨B_asks,d_asks,rfl,_,_⟩:=zaM.form
 have hlo:=ho1.lt
 have t_asks:=zaM.weaken (Y:=fun b=>b<w.heap.size+3) (fun b (hb:b<w.heap.size+3)=>Nat.lt_of_lt_of_le hb (by first|(simp;done)|(simp;omega))) (fun _ _ _ h=>h)
 clear zaM hlo
 have hb2:Bx w2 w.heap.size 76 #[.slice A_owns x.owns.length c_owns,.slice A_asks x.asks.length c_asks]:=Bx.keepTo w2 (by exact bxc) hf2
 have hr2:Bx w2 (w.heap.size+1) 67 #[.slice none 0 0,.slice none 0 0]:=Bx.keepTo w2 (by exact bxc) hf2
 have ho2:Bx w2 (w.heap.size+1+1) 67 #[.slice B_owns x.owns.length d_owns,.slice none 0 0]:=Bx.keepTo w2 (by exact bxc) hf2
 clear a1_0 a1_1 b1_0 b1_1 c1_0 c1_1 fr1 fo1 hb1 hr1 ho1
 obtain⟨a2_0,a2_1⟩:=hb2.c2
 obtain⟨b2_0,b2_1⟩:=hr2.c2
 obtain⟨c2_0,c2_1⟩:=ho2.c2
 have fr2:=fun j=>hr2.frozen j
 have fo2:=fun j=>ho2.frozen j
 go_wp2
 refine bodyPost_ret (v:=.agg #[.slice B_owns x.owns.length d_owns,.slice B_asks x.asks.length d_asks]) (by simp[results,Tryz.results42,go_sem, *]) rfl ?_
 refine⟨_,rfl,⟨_,_,rfl,?_,?_⟩,by exact frc,by exact nfc⟩
 ·exact(t_owns.keep (Y:=fun b=>b<w.heap.size+3) (by exact frx) (fun _ h=>h) (fun _ _ _ h9=>h9.keep (Y:=fun b=>b<w.heap.size+3) (by exact frx) (fun _ h=>h))).weaken (fun b hb=>Nat.lt_add_right 3 hb) (fun _ _ _ h9=>h9.weaken (fun b hb=>Nat.lt_add_right 3 hb))
 ·exact(t_asks.keep (Y:=fun b=>b<w.heap.size+3) (by exact frx) (fun _ h=>h) (fun _ _ _ h=>h)).weaken (fun b hb=>Nat.lt_add_right 3 hb) (fun _ _ _ h=>h)
theorem zji:(Tryz.prog.info? 67).map (fun i=>(i.zero,i.size,i.bytes))=some (some (.agg #[.slice none 0 0,.slice none 0 0]),2,48):=by kernel_rfl
theorem zjj (X:Nat->Prop) (v:Value) (xs:List Kpr) (w:World) (h:Sl X w 2 (KprC X w) v xs) (hs:szL zb8 xs≤1048576):
  Calls Tryz.prog 21 #[v] w (zcj 2 KprC xs w):=by
 have hlen:xs.length≤1048576:=by have:=zgj zb8 xs;omega
 obtain⟨A,cap,rfl,_,_⟩:=h.form
 have hmk:=fun W=>zgo 33 67 _ _ _ Tryz.underlying33 zji xs.length (by omega) (by omega) W
 go_enter Tryz.func21,Tryz.ntmps21
 go_wp2
 have hF0:=Fill.newW w 67 2 (KprC (fun b=>b<w.heap.size+1)) xs #[.slice none 0 0,.slice none 0 0]
 clear hmk
 go_loopw [4] (fun i wr=>∃k:Nat,k≤xs.length∧i=.int .i64 k∧Fill wr w.heap.size 67 2 xs.length k (KprC (fun b=>b<w.heap.size+1) wr) xs∧Fr No w wr∧NF w wr) (fun i _=>xs.length-(intOf i).toNat)
 case atStart=>exact⟨0,Nat.zero_le _,rfl,hF0,by exact frc,by exact nfc⟩
 case round=>
  clear hF0
  obtain⟨k,hk,rfl,hF,hf,nf0⟩:=hrel
  by_cases hlt:k<xs.length
  ·obtain⟨b,off,A_owns,c_owns,A_asks,c_asks,rfl,hX,c0,c1,h_owns,h_asks,_,_,_,_⟩:=(h.keep hf zN (fun _ _ _ h9=>h9.keep hf zN)).kpr hlt
   have H:=zjh X xs[k] _ wr (show KprC X wr [.slice A_owns xs[k].owns.length c_owns,.slice A_asks xs[k].asks.length c_asks] xs[k] from⟨_,_,rfl,h_owns,h_asks⟩) (by have:=zgk zb8 xs k hlt;omega)
   clear h
   go_wp2_with fail
   refine H.mono ?_
   rintro e w1 ⟨cs1,rfl,⟨u_owns,u_asks,rfl,g_owns,g_asks⟩,hf1,nf1⟩
   obtain⟨B_owns,d_owns,rfl,_,_⟩:=g_owns.form
   obtain⟨B_asks,d_asks,rfl,_,_⟩:=g_asks.form
   have hF1:=hF.keep hf1 (fun h=>h) (fun _ _ _ h=>h.keep hf1 zN)
   have hgl:∀b,b<w.heap.size+1->b<wr.heap.size:=fun b hb=>by have:=hF.lt;omega
   have hR1:KprC (fun b=>b<w.heap.size+1) w1 [.slice B_owns xs[k].owns.length d_owns,.slice B_asks xs[k].asks.length d_asks] xs[k]:=(show KprC (fun b=>b<wr.heap.size) w1 [.slice B_owns xs[k].owns.length d_owns,.slice B_asks xs[k].asks.length d_asks] xs[k] from⟨_,_,rfl,g_owns,g_asks⟩).weaken hgl
   obtain⟨o0,ho0⟩:=hF1.cell? (o:=k * 2) (by omega)
   obtain⟨o1,ho1⟩:=hF1.cell? (o:=k * 2+1) (by omega)
   have hfz:=fun o=>hF1.frozen o
   clear c0 c1 H hF
   have hF1:=Lib.hid hF1
   go_wp2
   go_roundw
   case rel=>exact⟨k+1,by omega,by go_num,(hF1.out.step (cs:=[.slice B_owns xs[k].owns.length d_owns,.slice B_asks xs[k].asks.length d_asks]) hlt hlt hR1 rfl).keep (Fr.refl No _) (fun h=>h) (fun _ _ _ h=>h.keep (Y:=fun b=>b<w.heap.size+1) (by exact frx) (fun _ h=>h)),by exact frc,by exact nfc⟩
   case measure=>simp[intOf];omega
  ·have he:k=xs.length:=by omega
   subst he
   clear h
   have hF:=Lib.hid hF
   go_wp2
   go_ret
   have hF:=hF.out
   exact⟨_,rfl,(hF.done (X:=fun b=>b<w.heap.size) (by omega) (by unfold maxLen;omega)).weaken (fun _ h=>h) (fun _ _ _ h=>h.weaken (fun b hb=>Nat.lt_add_right 1 hb)),by exact frc,by exact nfc⟩
theorem zjk (X:Nat->Prop) (x:Plan) (cs:List Value) (w:World) (h:zf9 X w cs x) (hs:zcb x≤1048576):
  Calls Tryz.prog 7 #[.agg cs.toArray] w (zci zf9 x w):=by
 obtain⟨v_keepers,rfl,h_keepers⟩:=h
 unfold zcb at hs
 have H_keepers:=fun W (h:Fr No w W)=>zjj X _ x.keepers W (h_keepers.keep h zN (fun _ _ _ h9=>h9.keep h zN)) (by omega)
 obtain⟨A_keepers,c_keepers,rfl,_,_⟩:=h_keepers.form
 clear h_keepers
 clear hs
 go_enter Tryz.func7,Tryz.ntmps7
 go_wp2_with fail
 refine(H_keepers _ ?_).mono ?_
 ·exact frc
 rintro e w1 ⟨v1,rfl,s_keepers,hf1,nf1⟩
 obtain⟨B_keepers,d_keepers,rfl,_,_⟩:=s_keepers.form
 have t_keepers:=s_keepers.weaken (Y:=fun b=>b<w.heap.size+3) (fun b (hb:b<w.heap.size+3)=>Nat.lt_of_lt_of_le hb (by first|(simp;done)|(simp;omega))) (fun _ _ _ h9=>h9.weaken (fun b (hb:b<w.heap.size+3)=>Nat.lt_of_lt_of_le hb (by first|(simp;done)|(simp;omega))))
 clear s_keepers
 have hb1:Bx w1 w.heap.size 24 #[.slice A_keepers x.keepers.length c_keepers]:=Bx.keepTo w1 (by exact bxc) hf1
 have hr1:Bx w1 (w.heap.size+1) 35 #[.slice none 0 0]:=Bx.keepTo w1 (by exact bxc) hf1
 have ho1:Bx w1 (w.heap.size+1+1) 35 #[.slice none 0 0]:=Bx.keepTo w1 (by exact bxc) hf1
 have a1_0:=hb1.c1
 have b1_0:=hr1.c1
 have c1_0:=ho1.c1
 have fr1:=fun j=>hr1.frozen j
 have fo1:=fun j=>ho1.frozen j
 go_wp2
 refine bodyPost_ret (v:=.agg #[.slice B_keepers x.keepers.length d_keepers]) (by simp[results,Tryz.results7,go_sem, *]) rfl ?_
 refine⟨_,rfl,⟨_,rfl,?_⟩,by exact frc,by exact nfc⟩
 ·exact(t_keepers.keep (Y:=fun b=>b<w.heap.size+3) (by exact frx) (fun _ h=>h) (fun _ _ _ h9=>h9.keep (Y:=fun b=>b<w.heap.size+3) (by exact frx) (fun _ h=>h))).weaken (fun b hb=>Nat.lt_add_right 3 hb) (fun _ _ _ h9=>h9.weaken (fun b hb=>Nat.lt_add_right 3 hb))
end Go.Proofs.YtpghfhjhjlmljaaGreat
