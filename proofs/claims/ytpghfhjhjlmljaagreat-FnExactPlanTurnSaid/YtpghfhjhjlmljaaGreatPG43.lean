/- The laws' own comparisons of keepers: what reads as the same data is equal. -/
import Derived.Test.YtpghfhjhjlmljaaGreatPG23
import Derived.Test.YtpghfhjhjlmljaaGreatPG11
set_option maxHeartbeats 2000000
set_option maxRecDepth 100000
namespace Go.Proofs.YtpghfhjhjlmljaaGreat
open Go.RowKit
theorem zhq (X Y:Nat->Prop) (v v1:Value) (xs:List Cls) (w:World) (h:Sl X w 4 (ClsC X w) v xs) (g:Sl Y w 4 (ClsC Y w) v1 xs):
  Calls Tryz.prog 86 #[v,v1] w (zgm true w):=by
 obtain⟨A,cap,rfl,_,hlen⟩:=h.form
 obtain⟨B,cap1,rfl,_,_⟩:=g.form
 unfold maxLen at hlen
 go_enter Tryz.func86,Tryz.ntmps86
 go_wp2
 go_loopw [5,4] (fun i r wr=>∃k:Nat,k≤xs.length∧i=.int .i64 k∧r=.bool false∧Fr No w wr) (fun i _ _=>xs.length-(intOf i).toNat)
 case atStart=>exact⟨0,Nat.zero_le _,rfl,rfl,Fr.refl _ _⟩
 case round=>
  obtain⟨k,hk,rfl,rfl,hf⟩:=hrel
  by_cases hlt:k<xs.length
  ·obtain⟨b,bf,A_fields,c_fields,A_methods,c_methods,rfl,_,c0,c1,c2,c3,z0,z1,hA_fields,hA_methods,_,_,_,_⟩:=(h.keep hf zN (fun _ _ _ h9=>h9.keep hf zN)).cls hlt
   obtain⟨a,af,B_fields,d_fields,B_methods,d_methods,rfl,_,f0,f1,f2,f3,y0,y1,hB_fields,hB_methods,_,_,_,_⟩:=(g.keep hf zN (fun _ _ _ h9=>h9.keep hf zN)).cls hlt
   clear h g
   have H:=fun W (h:Fr No wr W)=>zj0 X Y xs[k] _ _ W ((show ClsC X wr [.string xs[k].name,.string xs[k].super,.slice A_fields xs[k].fields.length c_fields,.slice A_methods xs[k].methods.length c_methods] xs[k] from⟨_,_,rfl,z0,z1,hA_fields,hA_methods⟩).keep h zN) ((show ClsC Y wr [.string xs[k].name,.string xs[k].super,.slice B_fields xs[k].fields.length d_fields,.slice B_methods xs[k].methods.length d_methods] xs[k] from⟨_,_,rfl,y0,y1,hB_fields,hB_methods⟩).keep h zN)
   generalize xs[k]=x at *
   have c0:=kp c0
   have f0:=kp f0
   have c1:=kp c1
   have f1:=kp f1
   have c2:=kp c2
   have f2:=kp f2
   have c3:=kp c3
   have f3:=kp f3
   go_wp2_with fail
   (refine zgc (X:=No) (by kernel_rfl) (by kernel_rfl) ?_);(repeat(first|(apply zgb;(focus (exact rfl));simp only[Act.put,lz0,lz1,lz2])|(apply zga;(focus (exact rfl));(focus (intro W hW;go_simp;first|done|exact rfl|(go_at_call 27;exact(H W hW).mono (fun _ _ h=>⟨h.1,hW.trans0 h.2⟩))));simp only[Act.put,lz0,lz1,lz2])));refine wpQuiet_nil ?_
   intro w1 hf1
   clear c0 c1 c2 c3 f0 f1 f2 f3 H
   go_wp2
   go_roundw
   case rel=>exact⟨k+1,by omega,by go_num,rfl,by exact frc⟩
   case measure=>simp[intOf];omega
  ·clear h g
   go_wp2
   go_ret
   exact .mk rfl (by exact frc)
theorem zhr (x:Ask) (cs cs1:List Value) (w:World) (h:AskC cs x) (h1:AskC cs1 x):
  Calls Tryz.prog 121 #[.agg cs.toArray,.agg cs1.toArray] w (zgm true w):=by
 obtain⟨rfl,_⟩:=h
 obtain⟨rfl,_⟩:=h1
 go_enter Tryz.func121,Tryz.ntmps121
 go_wp2
 go_ret
 exact .mk rfl (by exact frc)
theorem zhs (X Y:Nat->Prop) (v v1:Value) (xs:List Ask) (w:World) (h:Sl X w 2 AskC v xs) (g:Sl Y w 2 AskC v1 xs):
  Calls Tryz.prog 87 #[v,v1] w (zgm true w):=by
 obtain⟨A,cap,rfl,_,hlen⟩:=h.form
 obtain⟨B,cap1,rfl,_,_⟩:=g.form
 unfold maxLen at hlen
 go_enter Tryz.func87,Tryz.ntmps87
 go_wp2
 go_loopw [5,4] (fun i r wr=>∃k:Nat,k≤xs.length∧i=.int .i64 k∧r=.bool false∧Fr No w wr) (fun i _ _=>xs.length-(intOf i).toNat)
 case atStart=>exact⟨0,Nat.zero_le _,rfl,rfl,Fr.refl _ _⟩
 case round=>
  obtain⟨k,hk,rfl,rfl,hf⟩:=hrel
  by_cases hlt:k<xs.length
  ·obtain⟨b,bf,rfl,_,c0,c1,z0⟩:=(h.k0 hf).ask hlt
   obtain⟨a,af,rfl,_,f0,f1,y0⟩:=(g.k0 hf).ask hlt
   clear h g
   have H:=fun W (_:Fr No wr W)=>zhr xs[k] _ _ W ⟨rfl,z0⟩ ⟨rfl,z0⟩
   generalize xs[k]=x at *
   have c0:=kp c0
   have f0:=kp f0
   have c1:=kp c1
   have f1:=kp f1
   go_wp2_with fail
   (refine zgc (X:=No) (by kernel_rfl) (by kernel_rfl) ?_);(repeat(first|(apply zgb;(focus (exact rfl));simp only[Act.put,lz0,lz1,lz2])|(apply zga;(focus (exact rfl));(focus (intro W hW;go_simp;first|done|exact rfl|(go_at_call 121;exact(H W hW).mono (fun _ _ h=>⟨h.1,hW.trans0 h.2⟩))));simp only[Act.put,lz0,lz1,lz2])));refine wpQuiet_nil ?_
   intro w1 hf1
   clear c0 c1 f0 f1 H
   go_wp2
   go_roundw
   case rel=>exact⟨k+1,by omega,by go_num,rfl,by exact frc⟩
   case measure=>simp[intOf];omega
  ·clear h g
   go_wp2
   go_ret
   exact .mk rfl (by exact frc)
theorem zht (X Y:Nat->Prop) (x:Kpr) (cs cs1:List Value) (w:World) (h:KprC X w cs x) (h1:KprC Y w cs1 x):
  Calls Tryz.prog 52 #[.agg cs.toArray,.agg cs1.toArray] w (zgm true w):=by
 obtain⟨v_owns,v_asks,rfl,h_owns,h_asks⟩:=h
 obtain⟨u_owns,u_asks,rfl,g_owns,g_asks⟩:=h1
 have H_owns:=fun W (h:Fr No w W)=>zhq X Y _ _ x.owns W (h_owns.keep h zN (fun _ _ _ h9=>h9.keep h zN)) (g_owns.keep h zN (fun _ _ _ h9=>h9.keep h zN))
 have H_asks:=fun W (h:Fr No w W)=>zhs X Y _ _ x.asks W (h_asks.k0 h) (g_asks.k0 h)
 obtain⟨A_owns,c_owns,rfl,_,_⟩:=h_owns.form
 obtain⟨B_owns,d_owns,rfl,_,_⟩:=g_owns.form
 clear h_owns g_owns
 obtain⟨A_asks,c_asks,rfl,_,_⟩:=h_asks.form
 obtain⟨B_asks,d_asks,rfl,_,_⟩:=g_asks.form
 clear h_asks g_asks
 go_enter Tryz.func52,Tryz.ntmps52
 obtain⟨ha0,hb0, -⟩:=Bx.two w 67 #[.slice A_owns x.owns.length c_owns,.slice A_asks x.asks.length c_asks] 67 #[.slice B_owns x.owns.length d_owns,.slice B_asks x.asks.length d_asks]
 go_wp2_with (first
  | (go_at_call_of 86 (Value.slice A_owns x.owns.length c_owns);refine(H_owns _ ?_).mono ?_;(focus (exact frc));rintro e w1 ⟨rfl,hf1⟩;have ha1:=Bx.keepTo w1 ha0 (by exact frc);have hb1:=Bx.keepTo w1 hb0 (by exact frc);obtain⟨e1_0,e1_1⟩:=ha1.c2;obtain⟨f1_0,f1_1⟩:=hb1.c2;have hw1:Fr No w w1:=(by exact frc))
  | (go_at_call_of 87 (Value.slice A_asks x.asks.length c_asks);refine(H_asks _ ?_).mono ?_;(focus (exact frc));rintro e w2 ⟨rfl,hf2⟩;have ha2:=Bx.keepTo w2 ha1 (by exact frc);have hb2:=Bx.keepTo w2 hb1 (by exact frc);obtain⟨e2_0,e2_1⟩:=ha2.c2;obtain⟨f2_0,f2_1⟩:=hb2.c2;have hw2:Fr No w w2:=(by exact frc)))
 go_ret
 exact .mk rfl (by exact frc)
theorem zhu (X Y:Nat->Prop) (v v1:Value) (xs:List Kpr) (w:World) (h:Sl X w 2 (KprC X w) v xs) (g:Sl Y w 2 (KprC Y w) v1 xs):
  Calls Tryz.prog 26 #[v,v1] w (zgm true w):=by
 obtain⟨A,cap,rfl,_,hlen⟩:=h.form
 obtain⟨B,cap1,rfl,_,_⟩:=g.form
 unfold maxLen at hlen
 go_enter Tryz.func26,Tryz.ntmps26
 go_wp2
 go_loopw [5,4] (fun i r wr=>∃k:Nat,k≤xs.length∧i=.int .i64 k∧r=.bool false∧Fr No w wr) (fun i _ _=>xs.length-(intOf i).toNat)
 case atStart=>exact⟨0,Nat.zero_le _,rfl,rfl,Fr.refl _ _⟩
 case round=>
  obtain⟨k,hk,rfl,rfl,hf⟩:=hrel
  by_cases hlt:k<xs.length
  ·obtain⟨b,bf,A_owns,c_owns,A_asks,c_asks,rfl,_,c0,c1,hA_owns,hA_asks,_,_,_,_⟩:=(h.keep hf zN (fun _ _ _ h9=>h9.keep hf zN)).kpr hlt
   obtain⟨a,af,B_owns,d_owns,B_asks,d_asks,rfl,_,f0,f1,hB_owns,hB_asks,_,_,_,_⟩:=(g.keep hf zN (fun _ _ _ h9=>h9.keep hf zN)).kpr hlt
   clear h g
   have H:=fun W (h:Fr No wr W)=>zht X Y xs[k] _ _ W ((show KprC X wr [.slice A_owns xs[k].owns.length c_owns,.slice A_asks xs[k].asks.length c_asks] xs[k] from⟨_,_,rfl,hA_owns,hA_asks⟩).keep h zN) ((show KprC Y wr [.slice B_owns xs[k].owns.length d_owns,.slice B_asks xs[k].asks.length d_asks] xs[k] from⟨_,_,rfl,hB_owns,hB_asks⟩).keep h zN)
   generalize xs[k]=x at *
   have c0:=kp c0
   have f0:=kp f0
   have c1:=kp c1
   have f1:=kp f1
   go_wp2_with fail
   (refine zgc (X:=No) (by kernel_rfl) (by kernel_rfl) ?_);(repeat(first|(apply zgb;(focus (exact rfl));simp only[Act.put,lz0,lz1,lz2])|(apply zga;(focus (exact rfl));(focus (intro W hW;go_simp;first|done|exact rfl|(go_at_call 52;exact(H W hW).mono (fun _ _ h=>⟨h.1,hW.trans0 h.2⟩))));simp only[Act.put,lz0,lz1,lz2])));refine wpQuiet_nil ?_
   intro w1 hf1
   clear c0 c1 f0 f1 H
   go_wp2
   go_roundw
   case rel=>exact⟨k+1,by omega,by go_num,rfl,by exact frc⟩
   case measure=>simp[intOf];omega
  ·clear h g
   go_wp2
   go_ret
   exact .mk rfl (by exact frc)
theorem zhv (X Y:Nat->Prop) (x:Plan) (cs cs1:List Value) (w:World) (h:zf9 X w cs x) (h1:zf9 Y w cs1 x):
  Calls Tryz.prog 10 #[.agg cs.toArray,.agg cs1.toArray] w (zgm true w):=by
 obtain⟨v_keepers,rfl,h_keepers⟩:=h
 obtain⟨u_keepers,rfl,g_keepers⟩:=h1
 have H_keepers:=fun W (h:Fr No w W)=>zhu X Y _ _ x.keepers W (h_keepers.keep h zN (fun _ _ _ h9=>h9.keep h zN)) (g_keepers.keep h zN (fun _ _ _ h9=>h9.keep h zN))
 obtain⟨A_keepers,c_keepers,rfl,_,_⟩:=h_keepers.form
 obtain⟨B_keepers,d_keepers,rfl,_,_⟩:=g_keepers.form
 clear h_keepers g_keepers
 go_enter Tryz.func10,Tryz.ntmps10
 obtain⟨ha0,hb0, -⟩:=Bx.two w 35 #[.slice A_keepers x.keepers.length c_keepers] 35 #[.slice B_keepers x.keepers.length d_keepers]
 go_wp2_with (first
  | (go_at_call_of 26 (Value.slice A_keepers x.keepers.length c_keepers);refine(H_keepers _ ?_).mono ?_;(focus (exact frc));rintro e w1 ⟨rfl,hf1⟩;have ha1:=Bx.keepTo w1 ha0 (by exact frc);have hb1:=Bx.keepTo w1 hb0 (by exact frc);have e1_0:=ha1.c1;have f1_0:=hb1.c1;have hw1:Fr No w w1:=(by exact frc)))
 go_ret
 exact .mk rfl (by exact frc)
def zhw (p:Plan) (base:Nat):Value->World->Prop:=fun v W=>∃vk,v=.agg #[vk]∧Sl (fun b=>b<base) W 2 (KprC (fun b=>b<base) W) vk p.keepers
theorem zhx (p:Plan) (base:Nat):MonP (zhw p base):=fun _ _ _ ⟨vk,h1,h2⟩ hf=>⟨vk,h1,h2.keep hf zN (fun _ _ _ h=>h.keep hf zN)⟩
theorem zhy {p:Plan} {W w':World} {e:Ending} {base:Nat} (h:zgn zf9 p W e w') (hb:base≤W.heap.size):∃v,e=.returned v∧Fr No W w'∧zhw p base v w':=by
 obtain⟨cs,rfl,⟨vk,rfl,h⟩,hf⟩:=h
 exact⟨_,rfl,hf,vk,rfl,h.weaken (fun b (hb':b<base)=>Nat.lt_of_lt_of_le hb' hb) (fun _ _ _ h=>h.weaken (fun b (hb':b<base)=>Nat.lt_of_lt_of_le hb' hb))⟩
theorem Sl.sep {α:Type} {X:Nat->Prop} {w:World} {sz b0:Nat} {R R':List Value->α->Prop} {v:Value} {xs:List α} (h:Sl X w sz R v xs) (hsz:2≤sz) (h1:∀o,w.cell? ⟨b0,o+1,none⟩=none) (hR:∀cs x,x∈xs->R cs x->R' cs x):Sl (fun b=>X b∨b=b0) w sz R' v xs:=by
 obtain⟨A,cap,rfl,h4,h2,h3⟩:=h
 refine⟨A,cap,rfl,h4,h2,fun h0=>?_⟩
 obtain⟨b,off,rfl,hX,hc⟩:=h3 h0
 refine⟨b,off,rfl,fun hy=>?_,fun k hk=>?_⟩
 ·rcases hy with hy|rfl
  ·exact hX hy
  ·obtain⟨cs,_,hl,hcs⟩:=hc 0 h0
   have h9:=hcs 1 (by omega)
   rw[lz8 (by omega),h1] at h9
   cases h9
 ·obtain⟨cs,hRc,hl,hcs⟩:=hc k hk
  exact⟨cs,hR cs _ (List.getElem_mem hk) hRc,hl,hcs⟩
section
variable {X:Nat->Prop} {w:World} {cs:List Value} {b0:Nat}
theorem MapC.sep {m:Mp} (h:MapC X w cs m) (h1:∀o,w.cell? ⟨b0,o+1,none⟩=none):MapC (fun b=>X b∨b=b0) w cs m:=by
 obtain⟨vl,vs,rfl,k1,k2⟩:=h
 exact⟨vl,vs,rfl,k1.sep (by omega) h1 (fun _ _ _ h=>h),k2.sep (by omega) h1 (fun _ _ _ h=>h)⟩
theorem MthC.sep {m:Mth} (h:MthC X w cs m) (h1:∀o,w.cell? ⟨b0,o+1,none⟩=none):MthC (fun b=>X b∨b=b0) w cs m:=by
 obtain⟨va,vc,vm,rfl,z1,z2,h3,h4,h5⟩:=h
 exact⟨va,vc,vm,rfl,z1,z2,h3.sep (by omega) h1 (fun _ _ _ h=>h),h4.sep (by omega) h1 (fun _ _ _ h=>h),h5.sep (by omega) h1 (fun _ _ _ h=>h.sep h1)⟩
theorem ClsC.sep {c:Cls} (h:ClsC X w cs c) (h1:∀o,w.cell? ⟨b0,o+1,none⟩=none):ClsC (fun b=>X b∨b=b0) w cs c:=by
 obtain⟨vf,vm,rfl,z1,z2,h3,h4⟩:=h
 exact⟨vf,vm,rfl,z1,z2,h3.sep (by omega) h1 (fun _ _ _ h=>h),h4.sep (by omega) h1 (fun _ _ _ h=>h.sep h1)⟩
theorem KprC.sep {k:Kpr} (h:KprC X w cs k) (h1:∀o,w.cell? ⟨b0,o+1,none⟩=none):KprC (fun b=>X b∨b=b0) w cs k:=by
 obtain⟨vo,va,rfl,h3,h4⟩:=h
 exact⟨vo,va,rfl,h3.sep (by omega) h1 (fun _ _ _ h=>h.sep h1),h4.sep (by omega) h1 (fun _ _ _ h=>h)⟩
end
end Go.Proofs.YtpghfhjhjlmljaaGreat
