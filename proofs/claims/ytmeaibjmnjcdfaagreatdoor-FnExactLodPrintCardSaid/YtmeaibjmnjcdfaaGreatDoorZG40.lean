/- The sizes that the laws count. -/
import Derived.Test.YtmeaibjmnjcdfaaGreatDoorZG39
set_option maxHeartbeats 2000000
set_option maxRecDepth 100000
namespace Go.Proofs.YtmeaibjmnjcdfaaGreatDoor
open Go.RowKit
theorem zb4 (X:Nat->Prop) (v:Value) (xs:List Cls) (left:Int) (w:World) (h:Sl X w 4 (ClsC X w) v xs) (h0:0≤left) (h1:left≤1048576):
  Calls Tryz.prog 92 #[v,.int .i64 left] w (zhz (szL zhR xs) left w):=by
 obtain⟨A,cap,rfl,hcap,hlen⟩:=h.form
 unfold maxLen at hlen
 have hsl:=zgj zhR xs
 have hsum:szL zhR xs=xs.length+sumL zhR xs:=rfl
 have hsl:=Lib.hid hsl
 have hsum:=Lib.hid hsum
 go_enter Tryz.func92,Tryz.ntmps92
 by_cases hl0:(xs.length:Int)≤left
 ·go_wp2
  go_loopw [5,1,4] (fun i l r wr=>∃(k:Nat) (n:Int),k≤xs.length∧i=.int .i64 k∧l=.int .i64 n∧r=.int .i64 0∧0≤n∧n≤1048576∧Hid (n=left-xs.length-sumL zhR (xs.take k))∧Fr No w wr) (fun i _ _ _=>xs.length-(intOf i).toNat)
  case atStart=>exact⟨0,left-xs.length,Nat.zero_le _,rfl,rfl,rfl,by omega,by omega,by simp[Hid,sumL],Fr.refl _ _⟩
  case round=>
   obtain⟨k,n,hk,rfl,rfl,rfl,hn0,hn1,hn,hf⟩:=hrel
   by_cases hlt:k<xs.length
   ·obtain⟨b,off,A_fields,c_fields,A_methods,c_methods,rfl,hX,c0,c1,c2,c3,z0,z1,h_fields,h_methods,_,_,_,_⟩:=(h.keep hf zN (fun _ _ _ h9=>h9.keep hf zN)).cls hlt
    have hR:ClsC X wr [.string xs[k].name,.string xs[k].super,.slice A_fields xs[k].fields.length c_fields,.slice A_methods xs[k].methods.length c_methods] xs[k]:=⟨_,_,rfl,z0,z1,h_fields,h_methods⟩
    clear h
    have H:=fun W l (h:Fr No wr W)=>zhS X xs[k] _ l W (hR.keep h zN)
    clear hR
    clear h_fields
    clear h_methods
    have hst:=Lib.hid (zgg zhR xs k hlt)
    have hle:=Lib.hid (zgh zhR xs (k+1))
    generalize xs[k]=x at *
    go_wp2_with (go_at_call 134;refine(H _ _ ?_ ?_ ?_).mono ?_;(focus (exact frc));omega;omega;rintro e w1 ⟨n1,rfl,hn1',hf1⟩)
    ·go_ret
     refine zhz.mk _ ?_ (by exact frc)
     ((try unfold Hid at *);(try unfold Hid at *);omega)
    ·go_roundw
     case rel=>exact⟨k+1,n1,by omega,by go_num,rfl,rfl,by omega,by(simp only[Hid] at *;omega),by(simp only[Hid] at *;omega),by exact frc⟩
     case measure=>simp[intOf];omega
   ·clear h
    have hst:Hid (sumL zhR (xs.take k)=sumL zhR xs):=by rw[List.take_of_length_le (by omega)];exact rfl
    go_wp2
    go_ret
    refine zhz.mk _ ?_ (by exact frc)
    ((try unfold Hid at *);(try unfold Hid at *);omega)
 ·go_wp2
  go_ret
  refine zhz.mk _ ?_ (by exact frc)
  ((try unfold Hid at *);(try unfold Hid at *);omega)
def zb5 (x:Ask):Nat:=x.name.size
theorem zb6 (x:Ask) (cs:List Value) (left:Int) (w:World) (h:AskC cs x) (h0:0≤left) (h1:left≤1048576):
  Calls Tryz.prog 135 #[.agg cs.toArray,.int .i64 left] w (zhz (zb5 x) left w):=by
 obtain⟨rfl,hz0⟩:=h
 unfold maxLen at hz0
 go_enter Tryz.func135,Tryz.ntmps135
 go_wp2
 all_goals go_ret
 all_goals refine zhz.mk _ ?_ (by exact frc)
 all_goals ((try unfold zb5 at *);(try unfold Hid at *);omega)
theorem zb7 (X:Nat->Prop) (v:Value) (xs:List Ask) (left:Int) (w:World) (h:Sl X w 2 AskC v xs) (h0:0≤left) (h1:left≤1048576):
  Calls Tryz.prog 93 #[v,.int .i64 left] w (zhz (szL zb5 xs) left w):=by
 obtain⟨A,cap,rfl,hcap,hlen⟩:=h.form
 unfold maxLen at hlen
 have hsl:=zgj zb5 xs
 have hsum:szL zb5 xs=xs.length+sumL zb5 xs:=rfl
 have hsl:=Lib.hid hsl
 have hsum:=Lib.hid hsum
 go_enter Tryz.func93,Tryz.ntmps93
 by_cases hl0:(xs.length:Int)≤left
 ·go_wp2
  go_loopw [5,1,4] (fun i l r wr=>∃(k:Nat) (n:Int),k≤xs.length∧i=.int .i64 k∧l=.int .i64 n∧r=.int .i64 0∧0≤n∧n≤1048576∧Hid (n=left-xs.length-sumL zb5 (xs.take k))∧Fr No w wr) (fun i _ _ _=>xs.length-(intOf i).toNat)
  case atStart=>exact⟨0,left-xs.length,Nat.zero_le _,rfl,rfl,rfl,by omega,by omega,by simp[Hid,sumL],Fr.refl _ _⟩
  case round=>
   obtain⟨k,n,hk,rfl,rfl,rfl,hn0,hn1,hn,hf⟩:=hrel
   by_cases hlt:k<xs.length
   ·obtain⟨b,off,rfl,hX,c0,c1,z0⟩:=(h.k0 hf).ask hlt
    clear h
    have H:=fun W l (h:Fr No wr W)=>zb6 xs[k] _ l W ⟨rfl,z0⟩
    have hst:=Lib.hid (zgg zb5 xs k hlt)
    have hle:=Lib.hid (zgh zb5 xs (k+1))
    generalize xs[k]=x at *
    go_wp2_with (go_at_call 135;refine(H _ _ ?_ ?_ ?_).mono ?_;(focus (exact frc));omega;omega;rintro e w1 ⟨n1,rfl,hn1',hf1⟩)
    ·go_ret
     refine zhz.mk _ ?_ (by exact frc)
     ((try unfold Hid at *);(try unfold Hid at *);omega)
    ·go_roundw
     case rel=>exact⟨k+1,n1,by omega,by go_num,rfl,rfl,by omega,by(simp only[Hid] at *;omega),by(simp only[Hid] at *;omega),by exact frc⟩
     case measure=>simp[intOf];omega
   ·clear h
    have hst:Hid (sumL zb5 (xs.take k)=sumL zb5 xs):=by rw[List.take_of_length_le (by omega)];exact rfl
    go_wp2
    go_ret
    refine zhz.mk _ ?_ (by exact frc)
    ((try unfold Hid at *);(try unfold Hid at *);omega)
 ·go_wp2
  go_ret
  refine zhz.mk _ ?_ (by exact frc)
  ((try unfold Hid at *);(try unfold Hid at *);omega)
def zb8 (x:Kpr):Nat:=szL zhR x.owns+szL zb5 x.asks
theorem zb9 (X:Nat->Prop) (x:Kpr) (cs:List Value) (left:Int) (w:World) (h:KprC X w cs x) (h0:0≤left) (h1:left≤1048576):
  Calls Tryz.prog 51 #[.agg cs.toArray,.int .i64 left] w (zhz (zb8 x) left w):=by
 obtain⟨v_owns,v_asks,rfl,h_owns,h_asks⟩:=h
 have H_owns:=fun W l (h:Fr No w W)=>zb4 X _ x.owns l W (h_owns.keep h zN (fun _ _ _ h9=>h9.keep h zN))
 have H_asks:=fun W l (h:Fr No w W)=>zb7 X _ x.asks l W (h_asks.k0 h)
 obtain⟨A_owns,c_owns,rfl,p_owns,q_owns⟩:=h_owns.form
 obtain⟨A_asks,c_asks,rfl,zq6,q_asks⟩:=h_asks.form
 clear h_owns
 clear h_asks
 go_enter Tryz.func51,Tryz.ntmps51
 have hB:=Bx.new w 88 #[.slice A_owns x.owns.length c_owns,.slice A_asks x.asks.length c_asks]
 go_wp2_with (first
  | (go_at_call_of 92 (Value.slice A_owns x.owns.length c_owns);refine(H_owns _ _ ?_ ?_ ?_).mono ?_;(focus (exact frc));omega;omega;rintro e w0 ⟨n0,rfl,hn0,hf0⟩;have hnb0:n0≤1048576:=(by have:=hn0.out;omega);have hb0:=Bx.keepTo w0 hB (by exact frc);obtain⟨e0_0,e0_1⟩:=hb0.c2;have hl0:=hb0.lt;have hw0:Fr No w w0:=(by exact frc))
  | (go_at_call_of 93 (Value.slice A_asks x.asks.length c_asks);refine(H_asks _ _ ?_ ?_ ?_).mono ?_;(focus (exact frc));omega;omega;rintro e w1 ⟨n1,rfl,hn1,hf1⟩;have hnb1:n1≤1048576:=(by have:=hn1.out;omega);have hb1:=Bx.keepTo w1 hb0 (by exact frc);obtain⟨e1_0,e1_1⟩:=hb1.c2;have hl1:=hb1.lt;have hw1:Fr No w w1:=(by exact frc)))
 all_goals go_ret
 all_goals refine zhz.mk _ ?_ (by exact frc)
 all_goals ((try unfold zb8 at *);(try unfold Hid at *);omega)
theorem zca (X:Nat->Prop) (v:Value) (xs:List Kpr) (left:Int) (w:World) (h:Sl X w 2 (KprC X w) v xs) (h0:0≤left) (h1:left≤1048576):
  Calls Tryz.prog 28 #[v,.int .i64 left] w (zhz (szL zb8 xs) left w):=by
 obtain⟨A,cap,rfl,hcap,hlen⟩:=h.form
 unfold maxLen at hlen
 have hsl:=zgj zb8 xs
 have hsum:szL zb8 xs=xs.length+sumL zb8 xs:=rfl
 have hsl:=Lib.hid hsl
 have hsum:=Lib.hid hsum
 go_enter Tryz.func28,Tryz.ntmps28
 by_cases hl0:(xs.length:Int)≤left
 ·go_wp2
  go_loopw [5,1,4] (fun i l r wr=>∃(k:Nat) (n:Int),k≤xs.length∧i=.int .i64 k∧l=.int .i64 n∧r=.int .i64 0∧0≤n∧n≤1048576∧Hid (n=left-xs.length-sumL zb8 (xs.take k))∧Fr No w wr) (fun i _ _ _=>xs.length-(intOf i).toNat)
  case atStart=>exact⟨0,left-xs.length,Nat.zero_le _,rfl,rfl,rfl,by omega,by omega,by simp[Hid,sumL],Fr.refl _ _⟩
  case round=>
   obtain⟨k,n,hk,rfl,rfl,rfl,hn0,hn1,hn,hf⟩:=hrel
   by_cases hlt:k<xs.length
   ·obtain⟨b,off,A_owns,c_owns,A_asks,c_asks,rfl,hX,c0,c1,h_owns,h_asks,_,_,_,_⟩:=(h.keep hf zN (fun _ _ _ h9=>h9.keep hf zN)).kpr hlt
    have hR:KprC X wr [.slice A_owns xs[k].owns.length c_owns,.slice A_asks xs[k].asks.length c_asks] xs[k]:=⟨_,_,rfl,h_owns,h_asks⟩
    clear h
    have H:=fun W l (h:Fr No wr W)=>zb9 X xs[k] _ l W (hR.keep h zN)
    clear hR
    clear h_owns
    clear h_asks
    have hst:=Lib.hid (zgg zb8 xs k hlt)
    have hle:=Lib.hid (zgh zb8 xs (k+1))
    generalize xs[k]=x at *
    go_wp2_with (go_at_call 51;refine(H _ _ ?_ ?_ ?_).mono ?_;(focus (exact frc));omega;omega;rintro e w1 ⟨n1,rfl,hn1',hf1⟩)
    ·go_ret
     refine zhz.mk _ ?_ (by exact frc)
     ((try unfold Hid at *);(try unfold Hid at *);omega)
    ·go_roundw
     case rel=>exact⟨k+1,n1,by omega,by go_num,rfl,rfl,by omega,by(simp only[Hid] at *;omega),by(simp only[Hid] at *;omega),by exact frc⟩
     case measure=>simp[intOf];omega
   ·clear h
    have hst:Hid (sumL zb8 (xs.take k)=sumL zb8 xs):=by rw[List.take_of_length_le (by omega)];exact rfl
    go_wp2
    go_ret
    refine zhz.mk _ ?_ (by exact frc)
    ((try unfold Hid at *);(try unfold Hid at *);omega)
 ·go_wp2
  go_ret
  refine zhz.mk _ ?_ (by exact frc)
  ((try unfold Hid at *);(try unfold Hid at *);omega)
def zcb (x:Plan):Nat:=szL zb8 x.keepers
theorem zcc (X:Nat->Prop) (x:Plan) (cs:List Value) (left:Int) (w:World) (h:zf9 X w cs x) (h0:0≤left) (h1:left≤1048576):
  Calls Tryz.prog 7 #[.agg cs.toArray,.int .i64 left] w (zhz (zcb x) left w):=by
 obtain⟨v_keepers,rfl,h_keepers⟩:=h
 have H_keepers:=fun W l (h:Fr No w W)=>zca X _ x.keepers l W (h_keepers.keep h zN (fun _ _ _ h9=>h9.keep h zN))
 obtain⟨A_keepers,c_keepers,rfl,p_keepers,q_keepers⟩:=h_keepers.form
 clear h_keepers
 go_enter Tryz.func7,Tryz.ntmps7
 have hB:=Bx.new w 24 #[.slice A_keepers x.keepers.length c_keepers]
 go_wp2_with (first
  | (go_at_call_of 28 (Value.slice A_keepers x.keepers.length c_keepers);refine(H_keepers _ _ ?_ ?_ ?_).mono ?_;(focus (exact frc));omega;omega;rintro e w0 ⟨n0,rfl,hn0,hf0⟩;have hnb0:n0≤1048576:=(by have:=hn0.out;omega);have hb0:=Bx.keepTo w0 hB (by exact frc);have e0_0:=hb0.c1;have hl0:=hb0.lt;have hw0:Fr No w w0:=(by exact frc)))
 all_goals go_ret
 all_goals refine zhz.mk _ ?_ (by exact frc)
 all_goals ((try unfold zcb at *);(try unfold Hid at *);omega)
theorem zpw (x:Kpr):zoE x≤8 * (1+zb8 x):=by
 have h1:=zgj zb5 x.asks
 have h2:=zox zoI x.owns
 unfold zoE zb8
 omega
theorem zpx (lo hi:Nat) (p:Plan) (v:Value) (w:World) (h:Sl (fun b=>b<lo∨hi≤b) w 2 (KprC (fun b=>b<lo∨hi≤b) w) v p.keepers) (hun:Unf lo hi w) (hs:zcb p≤1048576):
  ∃n:Nat,n≤1000000000∧Calls Tryz.prog 13 #[.agg #[v],.int .i64 1] w (zot lo hi n w):=by
 obtain⟨ms,g,e⟩:=h.wtd (Q:=KprW (fun b=>b<lo∨hi≤b) w) zoE (fun _ _ h=>h.wt)
 have hle:=zox zpw p.keepers
 unfold zcb at hs
 have hb:sumN ms≤8388608:=by omega
 clear h hle e
 refine⟨1+sumN ms,by omega,?_⟩
 obtain⟨A,cap,rfl,_,_⟩:=g.form
 obtain⟨wA,hwA⟩:∃wA,wA=w.alloc (.cells #[.slice A ms.length cap] 30):=⟨_,rfl⟩
 have hfA:Fr No w wA:=hwA▸frc
 have hT:Tw (fun b=>lo≤b∧b<hi) w wA:=.of0 hfA
 have HM:=zpv lo hi _ ms 1 wA (g.tw (R':=KprW (fun b=>b<lo∨hi≤b) wA) hT (fun _ _ _ _ h a b=>h.lk hT a b)) (hun.tw hT) (by omega) (by omega)
 go_enter Tryz.func13,Tryz.ntmps13
 go_wp2_with fail
 rw[<-hwA]
 refine HM.mono ?_
 rintro e w2 ⟨rfl,hT2⟩
 go_wp2
 go_ret
 exact⟨by simp,hT.trans hT2⟩
end Go.Proofs.YtmeaibjmnjcdfaaGreatDoor
