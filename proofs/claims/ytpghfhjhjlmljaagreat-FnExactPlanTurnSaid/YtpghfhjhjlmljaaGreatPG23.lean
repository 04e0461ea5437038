/- The laws' own comparisons: what reads as the same data is equal. -/
import Derived.Test.YtpghfhjhjlmljaaGreatPG1
import Derived.Test.YtpghfhjhjlmljaaGreatRows
import Derived.WalkSpells
import Derived.WalkLawsBesides
import Derived.Deep.RegionWith
set_option maxHeartbeats 2000000
set_option maxRecDepth 100000
namespace Go.Proofs.YtpghfhjhjlmljaaGreat
open Go.RowKit
theorem zjO (x:Knd) (cs cs1:List Value) (w:World) (h:KndC cs x) (h1:KndC cs1 x):
  Calls Tryz.prog 122 #[.agg cs.toArray,.agg cs1.toArray] w (zgm true w):=by
 obtain⟨rfl,_⟩:=h
 obtain⟨rfl,_⟩:=h1
 go_enter Tryz.func122,Tryz.ntmps122
 go_wp2
 go_ret
 exact .mk rfl (by exact frc)
theorem zjP (X Y:Nat->Prop) (v v1:Value) (xs:List Knd) (w:World) (h:Sl X w 2 KndC v xs) (g:Sl Y w 2 KndC v1 xs):
  Calls Tryz.prog 123 #[v,v1] w (zgm true w):=by
 obtain⟨A,cap,rfl,_,hlen⟩:=h.form
 obtain⟨B,cap1,rfl,_,_⟩:=g.form
 unfold maxLen at hlen
 go_enter Tryz.func123,Tryz.ntmps123
 go_wp2
 go_loopw [5,4] (fun i r wr=>∃k:Nat,k≤xs.length∧i=.int .i64 k∧r=.bool false∧Fr No w wr) (fun i _ _=>xs.length-(intOf i).toNat)
 case atStart=>exact⟨0,Nat.zero_le _,rfl,rfl,Fr.refl _ _⟩
 case round=>
  obtain⟨k,hk,rfl,rfl,hf⟩:=hrel
  by_cases hlt:k<xs.length
  ·obtain⟨b,bf,rfl,_,c0,c1,z0⟩:=(h.k0 hf).knd hlt
   obtain⟨a,af,rfl,_,f0,f1,y0⟩:=(g.k0 hf).knd hlt
   clear h g
   have H:=fun W (_:Fr No wr W)=>zjO xs[k] _ _ W ⟨rfl,z0⟩ ⟨rfl,z0⟩
   generalize xs[k]=x at *
   have c0:=kp c0
   have f0:=kp f0
   have c1:=kp c1
   have f1:=kp f1
   go_wp2_with fail
   (refine zgc (X:=No) (by kernel_rfl) (by kernel_rfl) ?_);(repeat(first|(apply zgb;(focus (exact rfl));simp only[Act.put,lz0,lz1,lz2])|(apply zga;(focus (exact rfl));(focus (intro W hW;go_simp;first|done|exact rfl|(go_at_call 122;exact(H W hW).mono (fun _ _ h=>⟨h.1,hW.trans0 h.2⟩))));simp only[Act.put,lz0,lz1,lz2])));refine wpQuiet_nil ?_
   intro w1 hf1
   clear c0 c1 f0 f1 H
   go_wp2
   go_roundw
   case rel=>exact⟨k+1,by omega,by go_num,rfl,by exact frc⟩
   case measure=>simp[intOf];omega
  ·clear h g
   go_wp2
   go_ret
   exact .mk rfl (by exact frc)
theorem zjQ (x:Tag) (cs cs1:List Value) (w:World) (h:TagC cs x) (h1:TagC cs1 x):
  Calls Tryz.prog 153 #[.agg cs.toArray,.agg cs1.toArray] w (zgm true w):=by
 obtain⟨rfl,_⟩:=h
 obtain⟨rfl,_⟩:=h1
 go_enter Tryz.func153,Tryz.ntmps153
 go_wp2
 go_ret
 exact .mk rfl (by exact frc)
theorem zjR (X Y:Nat->Prop) (v v1:Value) (xs:List Tag) (w:World) (h:Sl X w 2 TagC v xs) (g:Sl Y w 2 TagC v1 xs):
  Calls Tryz.prog 149 #[v,v1] w (zgm true w):=by
 obtain⟨A,cap,rfl,_,hlen⟩:=h.form
 obtain⟨B,cap1,rfl,_,_⟩:=g.form
 unfold maxLen at hlen
 go_enter Tryz.func149,Tryz.ntmps149
 go_wp2
 go_loopw [5,4] (fun i r wr=>∃k:Nat,k≤xs.length∧i=.int .i64 k∧r=.bool false∧Fr No w wr) (fun i _ _=>xs.length-(intOf i).toNat)
 case atStart=>exact⟨0,Nat.zero_le _,rfl,rfl,Fr.refl _ _⟩
 case round=>
  obtain⟨k,hk,rfl,rfl,hf⟩:=hrel
  by_cases hlt:k<xs.length
  ·obtain⟨b,bf,rfl,_,c0,c1,z0⟩:=(h.k0 hf).tag hlt
   obtain⟨a,af,rfl,_,f0,f1,y0⟩:=(g.k0 hf).tag hlt
   clear h g
   have H:=fun W (_:Fr No wr W)=>zjQ xs[k] _ _ W ⟨rfl,z0⟩ ⟨rfl,z0⟩
   generalize xs[k]=x at *
   have c0:=kp c0
   have f0:=kp f0
   have c1:=kp c1
   have f1:=kp f1
   go_wp2_with fail
   (refine zgc (X:=No) (by kernel_rfl) (by kernel_rfl) ?_);(repeat(first|(apply zgb;(focus (exact rfl));simp only[Act.put,lz0,lz1,lz2])|(apply zga;(focus (exact rfl));(focus (intro W hW;go_simp;first|done|exact rfl|(go_at_call 153;exact(H W hW).mono (fun _ _ h=>⟨h.1,hW.trans0 h.2⟩))));simp only[Act.put,lz0,lz1,lz2])));refine wpQuiet_nil ?_
   intro w1 hf1
   clear c0 c1 f0 f1 H
   go_wp2
   go_roundw
   case rel=>exact⟨k+1,by omega,by go_num,rfl,by exact frc⟩
   case measure=>simp[intOf];omega
  ·clear h g
   go_wp2
   go_ret
   exact .mk rfl (by exact frc)
theorem zjS (x:Ins) (cs cs1:List Value) (w:World) (h:InsC cs x) (h1:InsC cs1 x):
  Calls Tryz.prog 139 #[.agg cs.toArray,.agg cs1.toArray] w (zgm true w):=by
 obtain⟨rfl,_⟩:=h
 obtain⟨rfl,_⟩:=h1
 go_enter Tryz.func139,Tryz.ntmps139
 go_wp2
 go_ret
 exact .mk rfl (by exact frc)
theorem zjT (X Y:Nat->Prop) (v v1:Value) (xs:List Ins) (w:World) (h:Sl X w 4 InsC v xs) (g:Sl Y w 4 InsC v1 xs):
  Calls Tryz.prog 124 #[v,v1] w (zgm true w):=by
 obtain⟨A,cap,rfl,_,hlen⟩:=h.form
 obtain⟨B,cap1,rfl,_,_⟩:=g.form
 unfold maxLen at hlen
 go_enter Tryz.func124,Tryz.ntmps124
 go_wp2
 go_loopw [5,4] (fun i r wr=>∃k:Nat,k≤xs.length∧i=.int .i64 k∧r=.bool false∧Fr No w wr) (fun i _ _=>xs.length-(intOf i).toNat)
 case atStart=>exact⟨0,Nat.zero_le _,rfl,rfl,Fr.refl _ _⟩
 case round=>
  obtain⟨k,hk,rfl,rfl,hf⟩:=hrel
  by_cases hlt:k<xs.length
  ·obtain⟨b,bf,rfl,_,c0,c1,c2,c3,z0,z1⟩:=(h.k0 hf).ins hlt
   obtain⟨a,af,rfl,_,f0,f1,f2,f3,y0,y1⟩:=(g.k0 hf).ins hlt
   clear h g
   have H:=fun W (_:Fr No wr W)=>zjS xs[k] _ _ W ⟨rfl,z0,z1⟩ ⟨rfl,z0,z1⟩
   generalize xs[k]=x at *
   have c0:=kp c0
   have f0:=kp f0
   have c1:=kp c1
   have f1:=kp f1
   have c2:=kp c2
   have f2:=kp f2
   have c3:=kp c3
   have f3:=kp f3
   go_wp2_with fail
   (refine zgc (X:=No) (by kernel_rfl) (by kernel_rfl) ?_);(repeat(first|(apply zgb;(focus (exact rfl));simp only[Act.put,lz0,lz1,lz2])|(apply zga;(focus (exact rfl));(focus (intro W hW;go_simp;first|done|exact rfl|(go_at_call 139;exact(H W hW).mono (fun _ _ h=>⟨h.1,hW.trans0 h.2⟩))));simp only[Act.put,lz0,lz1,lz2])));refine wpQuiet_nil ?_
   intro w1 hf1
   clear c0 c1 c2 c3 f0 f1 f2 f3 H
   go_wp2
   go_roundw
   case rel=>exact⟨k+1,by omega,by go_num,rfl,by exact frc⟩
   case measure=>simp[intOf];omega
  ·clear h g
   go_wp2
   go_ret
   exact .mk rfl (by exact frc)
theorem zjU (x:Fld) (cs cs1:List Value) (w:World) (h:FldC cs x) (h1:FldC cs1 x):
  Calls Tryz.prog 88 #[.agg cs.toArray,.agg cs1.toArray] w (zgm true w):=by
 obtain⟨rfl,z0,z1⟩:=h
 obtain⟨rfl,_⟩:=h1
 have H_kind:=fun W (_:Fr No w W)=>zjO x.kind _ _ W ⟨rfl,(by assumption)⟩ ⟨rfl,(by assumption)⟩
 go_enter Tryz.func88,Tryz.ntmps88
 obtain⟨ha0,hb0, -⟩:=Bx.two w 125 #[.string x.name,.int .i64 x.kind.kind,.string x.kind.name] 125 #[.string x.name,.int .i64 x.kind.kind,.string x.kind.name]
 go_wp2_with (first
  | (go_at_call 122;refine(H_kind _ ?_).mono ?_;(focus (exact frc));rintro e w1 ⟨rfl,hf1⟩;have ha1:=Bx.keepTo w1 ha0 (by exact frc);have hb1:=Bx.keepTo w1 hb0 (by exact frc);obtain⟨e1_0,e1_1,e1_2⟩:=ha1.c3;obtain⟨f1_0,f1_1,f1_2⟩:=hb1.c3;have hw1:Fr No w w1:=(by exact frc)))
 go_ret
 exact .mk rfl (by exact frc)
theorem zjV (X Y:Nat->Prop) (v v1:Value) (xs:List Fld) (w:World) (h:Sl X w 3 FldC v xs) (g:Sl Y w 3 FldC v1 xs):
  Calls Tryz.prog 53 #[v,v1] w (zgm true w):=by
 obtain⟨A,cap,rfl,_,hlen⟩:=h.form
 obtain⟨B,cap1,rfl,_,_⟩:=g.form
 unfold maxLen at hlen
 go_enter Tryz.func53,Tryz.ntmps53
 go_wp2
 go_loopw [5,4] (fun i r wr=>∃k:Nat,k≤xs.length∧i=.int .i64 k∧r=.bool false∧Fr No w wr) (fun i _ _=>xs.length-(intOf i).toNat)
 case atStart=>exact⟨0,Nat.zero_le _,rfl,rfl,Fr.refl _ _⟩
 case round=>
  obtain⟨k,hk,rfl,rfl,hf⟩:=hrel
  by_cases hlt:k<xs.length
  ·obtain⟨b,bf,rfl,_,c0,c1,c2,z0,z1⟩:=(h.k0 hf).fld hlt
   obtain⟨a,af,rfl,_,f0,f1,f2,y0,y1⟩:=(g.k0 hf).fld hlt
   clear h g
   have H:=fun W (_:Fr No wr W)=>zjU xs[k] _ _ W ⟨rfl,z0,z1⟩ ⟨rfl,z0,z1⟩
   generalize xs[k]=x at *
   have c0:=kp c0
   have f0:=kp f0
   have c1:=kp c1
   have f1:=kp f1
   have c2:=kp c2
   have f2:=kp f2
   go_wp2_with fail
   (refine zgc (X:=No) (by kernel_rfl) (by kernel_rfl) ?_);(repeat(first|(apply zgb;(focus (exact rfl));simp only[Act.put,lz0,lz1,lz2])|(apply zga;(focus (exact rfl));(focus (intro W hW;go_simp;first|done|exact rfl|(go_at_call 88;exact(H W hW).mono (fun _ _ h=>⟨h.1,hW.trans0 h.2⟩))));simp only[Act.put,lz0,lz1,lz2])));refine wpQuiet_nil ?_
   intro w1 hf1
   clear c0 c1 c2 f0 f1 f2 H
   go_wp2
   go_roundw
   case rel=>exact⟨k+1,by omega,by go_num,rfl,by exact frc⟩
   case measure=>simp[intOf];omega
  ·clear h g
   go_wp2
   go_ret
   exact .mk rfl (by exact frc)
theorem zjW (X Y:Nat->Prop) (x:Mp) (cs cs1:List Value) (w:World) (h:MapC X w cs x) (h1:MapC Y w cs1 x):
  Calls Tryz.prog 140 #[.agg cs.toArray,.agg cs1.toArray] w (zgm true w):=by
 obtain⟨v_locals,v_stack,rfl,h_locals,h_stack⟩:=h
 obtain⟨u_locals,u_stack,rfl,g_locals,g_stack⟩:=h1
 have H_locals:=fun W (h:Fr No w W)=>zjR X Y _ _ x.locals W (h_locals.k0 h) (g_locals.k0 h)
 have H_stack:=fun W (h:Fr No w W)=>zjR X Y _ _ x.stack W (h_stack.k0 h) (g_stack.k0 h)
 obtain⟨A_locals,c_locals,rfl,_,_⟩:=h_locals.form
 obtain⟨B_locals,d_locals,rfl,_,_⟩:=g_locals.form
 clear h_locals g_locals
 obtain⟨A_stack,c_stack,rfl,_,_⟩:=h_stack.form
 obtain⟨B_stack,d_stack,rfl,_,_⟩:=g_stack.form
 clear h_stack g_stack
 go_enter Tryz.func140,Tryz.ntmps140
 obtain⟨ha0,hb0, -⟩:=Bx.two w 165 #[.int .i64 x.at_,.slice A_locals x.locals.length c_locals,.slice A_stack x.stack.length c_stack] 165 #[.int .i64 x.at_,.slice B_locals x.locals.length d_locals,.slice B_stack x.stack.length d_stack]
 go_wp2_with (first
  | (go_at_call_of 149 (Value.slice A_locals x.locals.length c_locals);refine(H_locals _ ?_).mono ?_;(focus (exact frc));rintro e w1 ⟨rfl,hf1⟩;have ha1:=Bx.keepTo w1 ha0 (by exact frc);have hb1:=Bx.keepTo w1 hb0 (by exact frc);obtain⟨e1_0,e1_1,e1_2⟩:=ha1.c3;obtain⟨f1_0,f1_1,f1_2⟩:=hb1.c3;have hw1:Fr No w w1:=(by exact frc))
  | (go_at_call_of 149 (Value.slice A_stack x.stack.length c_stack);refine(H_stack _ ?_).mono ?_;(focus (exact frc));rintro e w2 ⟨rfl,hf2⟩;have ha2:=Bx.keepTo w2 ha1 (by exact frc);have hb2:=Bx.keepTo w2 hb1 (by exact frc);obtain⟨e2_0,e2_1,e2_2⟩:=ha2.c3;obtain⟨f2_0,f2_1,f2_2⟩:=hb2.c3;have hw2:Fr No w w2:=(by exact frc)))
 go_ret
 exact .mk rfl (by exact frc)
theorem zjX (X Y:Nat->Prop) (v v1:Value) (xs:List Mp) (w:World) (h:Sl X w 3 (MapC X w) v xs) (g:Sl Y w 3 (MapC Y w) v1 xs):
  Calls Tryz.prog 125 #[v,v1] w (zgm true w):=by
 obtain⟨A,cap,rfl,_,hlen⟩:=h.form
 obtain⟨B,cap1,rfl,_,_⟩:=g.form
 unfold maxLen at hlen
 go_enter Tryz.func125,Tryz.ntmps125
 go_wp2
 go_loopw [5,4] (fun i r wr=>∃k:Nat,k≤xs.length∧i=.int .i64 k∧r=.bool false∧Fr No w wr) (fun i _ _=>xs.length-(intOf i).toNat)
 case atStart=>exact⟨0,Nat.zero_le _,rfl,rfl,Fr.refl _ _⟩
 case round=>
  obtain⟨k,hk,rfl,rfl,hf⟩:=hrel
  by_cases hlt:k<xs.length
  ·obtain⟨b,bf,A_locals,c_locals,A_stack,c_stack,rfl,_,c0,c1,c2,hA_locals,hA_stack,_,_,_,_⟩:=(h.keep hf zN (fun _ _ _ h9=>h9.keep hf zN)).map hlt
   obtain⟨a,af,B_locals,d_locals,B_stack,d_stack,rfl,_,f0,f1,f2,hB_locals,hB_stack,_,_,_,_⟩:=(g.keep hf zN (fun _ _ _ h9=>h9.keep hf zN)).map hlt
   clear h g
   have H:=fun W (h:Fr No wr W)=>zjW X Y xs[k] _ _ W ((show MapC X wr [.int .i64 xs[k].at_,.slice A_locals xs[k].locals.length c_locals,.slice A_stack xs[k].stack.length c_stack] xs[k] from⟨_,_,rfl,hA_locals,hA_stack⟩).keep h zN) ((show MapC Y wr [.int .i64 xs[k].at_,.slice B_locals xs[k].locals.length d_locals,.slice B_stack xs[k].stack.length d_stack] xs[k] from⟨_,_,rfl,hB_locals,hB_stack⟩).keep h zN)
   generalize xs[k]=x at *
   have c0:=kp c0
   have f0:=kp f0
   have c1:=kp c1
   have f1:=kp f1
   have c2:=kp c2
   have f2:=kp f2
   go_wp2_with fail
   (refine zgc (X:=No) (by kernel_rfl) (by kernel_rfl) ?_);(repeat(first|(apply zgb;(focus (exact rfl));simp only[Act.put,lz0,lz1,lz2])|(apply zga;(focus (exact rfl));(focus (intro W hW;go_simp;first|done|exact rfl|(go_at_call 140;exact(H W hW).mono (fun _ _ h=>⟨h.1,hW.trans0 h.2⟩))));simp only[Act.put,lz0,lz1,lz2])));refine wpQuiet_nil ?_
   intro w1 hf1
   clear c0 c1 c2 f0 f1 f2 H
   go_wp2
   go_roundw
   case rel=>exact⟨k+1,by omega,by go_num,rfl,by exact frc⟩
   case measure=>simp[intOf];omega
  ·clear h g
   go_wp2
   go_ret
   exact .mk rfl (by exact frc)
theorem zjY (X Y:Nat->Prop) (x:Mth) (cs cs1:List Value) (w:World) (h:MthC X w cs x) (h1:MthC Y w cs1 x):
  Calls Tryz.prog 89 #[.agg cs.toArray,.agg cs1.toArray] w (zgm true w):=by
 obtain⟨v_args,v_code,v_maps,rfl,z0,z1,h_args,h_code,h_maps⟩:=h
 obtain⟨u_args,u_code,u_maps,rfl,_,_,g_args,g_code,g_maps⟩:=h1
 have H_args:=fun W (h:Fr No w W)=>zjP X Y _ _ x.args W (h_args.k0 h) (g_args.k0 h)
 have H_ret:=fun W (_:Fr No w W)=>zjO x.ret _ _ W ⟨rfl,(by assumption)⟩ ⟨rfl,(by assumption)⟩
 have H_code:=fun W (h:Fr No w W)=>zjT X Y _ _ x.code W (h_code.k0 h) (g_code.k0 h)
 have H_maps:=fun W (h:Fr No w W)=>zjX X Y _ _ x.maps W (h_maps.keep h zN (fun _ _ _ h9=>h9.keep h zN)) (g_maps.keep h zN (fun _ _ _ h9=>h9.keep h zN))
 obtain⟨A_args,c_args,rfl,_,_⟩:=h_args.form
 obtain⟨B_args,d_args,rfl,_,_⟩:=g_args.form
 clear h_args g_args
 obtain⟨A_code,c_code,rfl,_,_⟩:=h_code.form
 obtain⟨B_code,d_code,rfl,_,_⟩:=g_code.form
 clear h_code g_code
 obtain⟨A_maps,c_maps,rfl,_,_⟩:=h_maps.form
 obtain⟨B_maps,d_maps,rfl,_,_⟩:=g_maps.form
 clear h_maps g_maps
 go_enter Tryz.func89,Tryz.ntmps89
 obtain⟨ha0,hb0, -⟩:=Bx.two w 133 #[.string x.name,.slice A_args x.args.length c_args,.int .i64 x.ret.kind,.string x.ret.name,.int .i64 x.locals,.int .i64 x.stack,.slice A_code x.code.length c_code,.slice A_maps x.maps.length c_maps] 133 #[.string x.name,.slice B_args x.args.length d_args,.int .i64 x.ret.kind,.string x.ret.name,.int .i64 x.locals,.int .i64 x.stack,.slice B_code x.code.length d_code,.slice B_maps x.maps.length d_maps]
 go_wp2_with (first
  | (go_at_call_of 123 (Value.slice A_args x.args.length c_args);refine(H_args _ ?_).mono ?_;(focus (exact frc));rintro e w1 ⟨rfl,hf1⟩;have ha1:=Bx.keepTo w1 ha0 (by exact frc);have hb1:=Bx.keepTo w1 hb0 (by exact frc);obtain⟨e1_0,e1_1,e1_2,e1_3,e1_4,e1_5,e1_6,e1_7⟩:=ha1.c8;obtain⟨f1_0,f1_1,f1_2,f1_3,f1_4,f1_5,f1_6,f1_7⟩:=hb1.c8;have hw1:Fr No w w1:=(by exact frc))
  | (go_at_call 122;refine(H_ret _ ?_).mono ?_;(focus (exact frc));rintro e w2 ⟨rfl,hf2⟩;have ha2:=Bx.keepTo w2 ha1 (by exact frc);have hb2:=Bx.keepTo w2 hb1 (by exact frc);obtain⟨e2_0,e2_1,e2_2,e2_3,e2_4,e2_5,e2_6,e2_7⟩:=ha2.c8;obtain⟨f2_0,f2_1,f2_2,f2_3,f2_4,f2_5,f2_6,f2_7⟩:=hb2.c8;have hw2:Fr No w w2:=(by exact frc))
  | (go_at_call_of 124 (Value.slice A_code x.code.length c_code);refine(H_code _ ?_).mono ?_;(focus (exact frc));rintro e w3 ⟨rfl,hf3⟩;have ha3:=Bx.keepTo w3 ha2 (by exact frc);have hb3:=Bx.keepTo w3 hb2 (by exact frc);obtain⟨e3_0,e3_1,e3_2,e3_3,e3_4,e3_5,e3_6,e3_7⟩:=ha3.c8;obtain⟨f3_0,f3_1,f3_2,f3_3,f3_4,f3_5,f3_6,f3_7⟩:=hb3.c8;have hw3:Fr No w w3:=(by exact frc))
  | (go_at_call_of 125 (Value.slice A_maps x.maps.length c_maps);refine(H_maps _ ?_).mono ?_;(focus (exact frc));rintro e w4 ⟨rfl,hf4⟩;have ha4:=Bx.keepTo w4 ha3 (by exact frc);have hb4:=Bx.keepTo w4 hb3 (by exact frc);obtain⟨e4_0,e4_1,e4_2,e4_3,e4_4,e4_5,e4_6,e4_7⟩:=ha4.c8;obtain⟨f4_0,f4_1,f4_2,f4_3,f4_4,f4_5,f4_6,f4_7⟩:=hb4.c8;have hw4:Fr No w w4:=(by exact frc)))
 go_ret
 exact .mk rfl (by exact frc)
theorem zjZ (X Y:Nat->Prop) (v v1:Value) (xs:List Mth) (w:World) (h:Sl X w 8 (MthC X w) v xs) (g:Sl Y w 8 (MthC Y w) v1 xs):
  Calls Tryz.prog 54 #[v,v1] w (zgm true w):=by
 obtain⟨A,cap,rfl,_,hlen⟩:=h.form
 obtain⟨B,cap1,rfl,_,_⟩:=g.form
 unfold maxLen at hlen
 go_enter Tryz.func54,Tryz.ntmps54
 go_wp2
 go_loopw [5,4] (fun i r wr=>∃k:Nat,k≤xs.length∧i=.int .i64 k∧r=.bool false∧Fr No w wr) (fun i _ _=>xs.length-(intOf i).toNat)
 case atStart=>exact⟨0,Nat.zero_le _,rfl,rfl,Fr.refl _ _⟩
 case round=>
  obtain⟨k,hk,rfl,rfl,hf⟩:=hrel
  by_cases hlt:k<xs.length
  ·obtain⟨b,bf,A_args,c_args,A_code,c_code,A_maps,c_maps,rfl,_,c0,c1,c2,c3,c4,c5,c6,c7,z0,z1,hA_args,hA_code,hA_maps,_,_,_,_,_,_⟩:=(h.keep hf zN (fun _ _ _ h9=>h9.keep hf zN)).mth hlt
   obtain⟨a,af,B_args,d_args,B_code,d_code,B_maps,d_maps,rfl,_,f0,f1,f2,f3,f4,f5,f6,f7,y0,y1,hB_args,hB_code,hB_maps,_,_,_,_,_,_⟩:=(g.keep hf zN (fun _ _ _ h9=>h9.keep hf zN)).mth hlt
   clear h g
   have H:=fun W (h:Fr No wr W)=>zjY X Y xs[k] _ _ W ((show MthC X wr [.string xs[k].name,.slice A_args xs[k].args.length c_args,.int .i64 xs[k].ret.kind,.string xs[k].ret.name,.int .i64 xs[k].locals,.int .i64 xs[k].stack,.slice A_code xs[k].code.length c_code,.slice A_maps xs[k].maps.length c_maps] xs[k] from⟨_,_,_,rfl,z0,z1,hA_args,hA_code,hA_maps⟩).keep h zN) ((show MthC Y wr [.string xs[k].name,.slice B_args xs[k].args.length d_args,.int .i64 xs[k].ret.kind,.string xs[k].ret.name,.int .i64 xs[k].locals,.int .i64 xs[k].stack,.slice B_code xs[k].code.length d_code,.slice B_maps xs[k].maps.length d_maps] xs[k] from⟨_,_,_,rfl,y0,y1,hB_args,hB_code,hB_maps⟩).keep h zN)
   generalize xs[k]=x at *
   have c0:=kp c0
   have f0:=kp f0
   have c1:=kp c1
   have f1:=kp f1
   have c2:=kp c2
   have f2:=kp f2
   have c3:=kp c3
   have f3:=kp f3
   have c4:=kp c4
   have f4:=kp f4
   have c5:=kp c5
   have f5:=kp f5
   have c6:=kp c6
   have f6:=kp f6
   have c7:=kp c7
   have f7:=kp f7
   go_wp2_with fail
   (refine zgc (X:=No) (by kernel_rfl) (by kernel_rfl) ?_);(repeat(first|(apply zgb;(focus (exact rfl));simp only[Act.put,lz0,lz1,lz2])|(apply zga;(focus (exact rfl));(focus (intro W hW;go_simp;first|done|exact rfl|(go_at_call 89;exact(H W hW).mono (fun _ _ h=>⟨h.1,hW.trans0 h.2⟩))));simp only[Act.put,lz0,lz1,lz2])));refine wpQuiet_nil ?_
   intro w1 hf1
   clear c0 c1 c2 c3 c4 c5 c6 c7 f0 f1 f2 f3 f4 f5 f6 f7 H
   go_wp2
   go_roundw
   case rel=>exact⟨k+1,by omega,by go_num,rfl,by exact frc⟩
   case measure=>simp[intOf];omega
  ·clear h g
   go_wp2
   go_ret
   exact .mk rfl (by exact frc)
theorem zj0 (X Y:Nat->Prop) (x:Cls) (cs cs1:List Value) (w:World) (h:ClsC X w cs x) (h1:ClsC Y w cs1 x):
  Calls Tryz.prog 27 #[.agg cs.toArray,.agg cs1.toArray] w (zgm true w):=by
 obtain⟨v_fields,v_methods,rfl,z0,z1,h_fields,h_methods⟩:=h
 obtain⟨u_fields,u_methods,rfl,_,_,g_fields,g_methods⟩:=h1
 have H_fields:=fun W (h:Fr No w W)=>zjV X Y _ _ x.fields W (h_fields.k0 h) (g_fields.k0 h)
 have H_methods:=fun W (h:Fr No w W)=>zjZ X Y _ _ x.methods W (h_methods.keep h zN (fun _ _ _ h9=>h9.keep h zN)) (g_methods.keep h zN (fun _ _ _ h9=>h9.keep h zN))
 obtain⟨A_fields,c_fields,rfl,_,_⟩:=h_fields.form
 obtain⟨B_fields,d_fields,rfl,_,_⟩:=g_fields.form
 clear h_fields g_fields
 obtain⟨A_methods,c_methods,rfl,_,_⟩:=h_methods.form
 obtain⟨B_methods,d_methods,rfl,_,_⟩:=g_methods.form
 clear h_methods g_methods
 go_enter Tryz.func27,Tryz.ntmps27
 obtain⟨ha0,hb0, -⟩:=Bx.two w 42 #[.string x.name,.string x.super,.slice A_fields x.fields.length c_fields,.slice A_methods x.methods.length c_methods] 42 #[.string x.name,.string x.super,.slice B_fields x.fields.length d_fields,.slice B_methods x.methods.length d_methods]
 go_wp2_with (first
  | (go_at_call_of 53 (Value.slice A_fields x.fields.length c_fields);refine(H_fields _ ?_).mono ?_;(focus (exact frc));rintro e w1 ⟨rfl,hf1⟩;have ha1:=Bx.keepTo w1 ha0 (by exact frc);have hb1:=Bx.keepTo w1 hb0 (by exact frc);obtain⟨e1_0,e1_1,e1_2,e1_3⟩:=ha1.c4;obtain⟨f1_0,f1_1,f1_2,f1_3⟩:=hb1.c4;have hw1:Fr No w w1:=(by exact frc))
  | (go_at_call_of 54 (Value.slice A_methods x.methods.length c_methods);refine(H_methods _ ?_).mono ?_;(focus (exact frc));rintro e w2 ⟨rfl,hf2⟩;have ha2:=Bx.keepTo w2 ha1 (by exact frc);have hb2:=Bx.keepTo w2 hb1 (by exact frc);obtain⟨e2_0,e2_1,e2_2,e2_3⟩:=ha2.c4;obtain⟨f2_0,f2_1,f2_2,f2_3⟩:=hb2.c4;have hw2:Fr No w w2:=(by exact frc)))
 go_ret
 exact .mk rfl (by exact frc)
end Go.Proofs.YtpghfhjhjlmljaaGreat
