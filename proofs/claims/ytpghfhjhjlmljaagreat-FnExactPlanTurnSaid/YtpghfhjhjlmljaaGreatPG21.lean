/- What is new is not frozen: it may be written. -/
import Derived.Test.YtpghfhjhjlmljaaGreatPG20
set_option maxHeartbeats 2000000
set_option maxRecDepth 100000
namespace Go.Proofs.YtpghfhjhjlmljaaGreat
open Go.RowKit
structure NF (w w':World):Prop where
 size:w.heap.size≤w'.heap.size
 free:∀b o,w.heap.size≤b->w'.frozen? ⟨b,o,none⟩=false
section
variable {a w w':World}
theorem zcg {w:World} {b o:Nat} (h:w.heap.size≤b):w.frozen? ⟨b,o,none⟩=false:=by
 simp[World.frozen?,Array.getElem?_eq_none h]
theorem NF.refl (w:World):NF w w:=⟨Nat.le_refl _,fun _ _ h=>zcg h⟩
theorem NF.alloc (h:NF a w) (cs:Array Value) (t:TypeId):NF a (w.alloc (.cells cs t)):=by
 refine⟨Nat.le_trans h.size (by simp),fun b o hb=>?_⟩
 by_cases hn:b=w.heap.size
 ·subst hn
  exact(Bx.new w t cs).frozen o
 ·have e:(w.alloc (.cells cs t)).frozen? ⟨b,o,none⟩=w.frozen? ⟨b,o,none⟩:=by
   simp only[World.alloc,World.frozen?,Array.getElem?_push]
   simp[hn]
  rw[e]
  exact h.free b o hb
theorem NF.setCell (h:NF a w) (p:Addr) (u:Value):NF a (w.setCell p u):=
 ⟨by simpa[World.setCell] using h.size,fun b o hb=>by rw[World.frozen?_setCell];exact h.free b o hb⟩
theorem NF.drew (h:NF a w):NF a w.drew:=⟨h.size,h.free⟩
theorem NF.transO (h2:NF w w') (hf:Fr No w w') (h:NF a w):NF a w':=by
 refine⟨Nat.le_trans h.size h2.size,fun b o hb=>?_⟩
 by_cases hn:b<w.heap.size
 ·rw[hf.frozen o hn];exact h.free b o hb
 ·exact h2.free b o (by omega)
end
def zch (v:Value) (w:World) (e:Ending) (w':World):Prop:=e=.returned v∧Fr No w w'∧NF w w'
theorem zch.mk {v u:Value} {w w':World} (h:v=u) (hf:Fr No w w') (hn:NF w w'):zch u w (.returned v) w':=⟨by rw[h],hf,hn⟩
def zci {α:Type} (R:(Nat->Prop)->World->List Value->α->Prop) (x:α) (w:World) (e:Ending) (w':World):Prop:=
 ∃cs,e=.returned (.agg cs.toArray)∧R (fun b=>b<w.heap.size) w' cs x∧Fr No w w'∧NF w w'
def zcj {α:Type} (sz:Nat) (R:(Nat->Prop)->World->List Value->α->Prop) (xs:List α) (w:World) (e:Ending) (w':World):Prop:=
 ∃v,e=.returned v∧Sl (fun b=>b<w.heap.size) w' sz (R (fun b=>b<w.heap.size) w') v xs∧Fr No w w'∧NF w w'
theorem nfc {a w:World} (h:NF a w:=by(repeat(first|(with_reducible assumption)|(with_reducible exact NF.refl _)|(with_reducible refine NF.alloc ?_ _ _)|(with_reducible refine NF.drew ?_)|(with_reducible refine NF.setCell ?_ _ _)|(with_reducible refine NF.transO (by assumption) (by assumption) ?_)))):NF a w:=h
theorem zb4 (X:Nat->Prop) (v:Value) (xs:List Cls) (left:Int) (w:World) (h:Sl X w 4 (ClsC X w) v xs) (h0:0≤left) (h1:left≤1048576):
  Calls Tryz.prog 61 #[v,.int .i64 left] w (zhz (szL zhR xs) left w):=by
 obtain⟨A,cap,rfl,hcap,hlen⟩:=h.form
 unfold maxLen at hlen
 have hsl:=zgj zhR xs
 have hsum:szL zhR xs=xs.length+sumL zhR xs:=rfl
 have hsl:=Lib.hid hsl
 have hsum:=Lib.hid hsum
 go_enter Tryz.func61,Tryz.ntmps61
 by_cases hl0:(xs.length:Int)≤left
 ·go_wp2
  go_loopw [5,1,4] (fun i l r wr=>∃(k:Nat) (n:Int),k≤xs.length∧i=.int .i64 k∧l=.int .i64 n∧r=.int .i64 0∧0≤n∧n≤1048576∧Hid (n=left-xs.length-sumL zhR (xs.take k))∧Fr No w wr) (fun i _ _ _=>xs.length-(intOf i).toNat)
  case atStart=>exact⟨0,left-xs.length,Nat.zero_le _,rfl,rfl,rfl,by omega,by omega,by simp[Hid,sumL],Fr.refl _ _⟩
  case round=>
   obtain⟨k,n,hk,rfl,rfl,rfl,hn0,hn1,hn,hf⟩:=hrel
   by_cases hlt:k<xs.length
   ·obtain⟨b,off,A_fields,c_fields,A_methods,c_methods,rfl,hX,c0,c1,c2,c3,z0,z1,h_fields,h_methods,_,_,_,_⟩:=(h.keep hf zN (fun _ _ _ h9=>h9.keep hf zN)).cls hlt
    have hR:ClsC X wr [.string xs[k].name,.string xs[k].super,.slice A_fields xs[k].fields.length c_fields,.slice A_methods xs[k].methods.length c_methods] xs[k]:=⟨_,_,rfl,z0,z1,h_fields,h_methods⟩
    clear h
    have H:=fun W l (h:Fr No wr W)=>zhS X xs[k] _ l W (hR.keep h zN)
    clear hR
    clear h_fields
    clear h_methods
    have hst:=Lib.hid (zgg zhR xs k hlt)
    have hle:=Lib.hid (zgh zhR xs (k+1))
    generalize xs[k]=x at *
    go_wp2_with (go_at_call 16;refine(H _ _ ?_ ?_ ?_).mono ?_;(focus (exact frc));omega;omega;rintro e w1 ⟨n1,rfl,hn1',hf1⟩)
    ·go_ret
     refine zhz.mk _ ?_ (by exact frc)
     ((try unfold Hid at *);(try unfold Hid at *);omega)
    ·go_roundw
     case rel=>exact⟨k+1,n1,by omega,by go_num,rfl,rfl,by omega,by(simp only[Hid] at *;omega),by(simp only[Hid] at *;omega),by exact frc⟩
     case measure=>simp[intOf];omega
   ·clear h
    have hst:Hid (sumL zhR (xs.take k)=sumL zhR xs):=by rw[List.take_of_length_le (by omega)];exact rfl
    go_wp2
    go_ret
    refine zhz.mk _ ?_ (by exact frc)
    ((try unfold Hid at *);(try unfold Hid at *);omega)
 ·go_wp2
  go_ret
  refine zhz.mk _ ?_ (by exact frc)
  ((try unfold Hid at *);(try unfold Hid at *);omega)
def zb5 (x:Ask):Nat:=x.name.size
theorem zb6 (x:Ask) (cs:List Value) (left:Int) (w:World) (h:AskC cs x) (h0:0≤left) (h1:left≤1048576):
  Calls Tryz.prog 96 #[.agg cs.toArray,.int .i64 left] w (zhz (zb5 x) left w):=by
 obtain⟨rfl,hz0⟩:=h
 unfold maxLen at hz0
 go_enter Tryz.func96,Tryz.ntmps96
 go_wp2
 all_goals go_ret
 all_goals refine zhz.mk _ ?_ (by exact frc)
 all_goals ((try unfold zb5 at *);(try unfold Hid at *);omega)
theorem zb7 (X:Nat->Prop) (v:Value) (xs:List Ask) (left:Int) (w:World) (h:Sl X w 2 AskC v xs) (h0:0≤left) (h1:left≤1048576):
  Calls Tryz.prog 62 #[v,.int .i64 left] w (zhz (szL zb5 xs) left w):=by
 obtain⟨A,cap,rfl,hcap,hlen⟩:=h.form
 unfold maxLen at hlen
 have hsl:=zgj zb5 xs
 have hsum:szL zb5 xs=xs.length+sumL zb5 xs:=rfl
 have hsl:=Lib.hid hsl
 have hsum:=Lib.hid hsum
 go_enter Tryz.func62,Tryz.ntmps62
 by_cases hl0:(xs.length:Int)≤left
 ·go_wp2
  go_loopw [5,1,4] (fun i l r wr=>∃(k:Nat) (n:Int),k≤xs.length∧i=.int .i64 k∧l=.int .i64 n∧r=.int .i64 0∧0≤n∧n≤1048576∧Hid (n=left-xs.length-sumL zb5 (xs.take k))∧Fr No w wr) (fun i _ _ _=>xs.length-(intOf i).toNat)
  case atStart=>exact⟨0,left-xs.length,Nat.zero_le _,rfl,rfl,rfl,by omega,by omega,by simp[Hid,sumL],Fr.refl _ _⟩
  case round=>
   obtain⟨k,n,hk,rfl,rfl,rfl,hn0,hn1,hn,hf⟩:=hrel
   by_cases hlt:k<xs.length
   ·obtain⟨b,off,rfl,hX,c0,c1,z0⟩:=(h.k0 hf).ask hlt
    clear h
    have H:=fun W l (h:Fr No wr W)=>zb6 xs[k] _ l W ⟨rfl,z0⟩
    have hst:=Lib.hid (zgg zb5 xs k hlt)
    have hle:=Lib.hid (zgh zb5 xs (k+1))
    generalize xs[k]=x at *
    go_wp2_with (go_at_call 96;refine(H _ _ ?_ ?_ ?_).mono ?_;(focus (exact frc));omega;omega;rintro e w1 ⟨n1,rfl,hn1',hf1⟩)
    ·go_ret
     refine zhz.mk _ ?_ (by exact frc)
     ((try unfold Hid at *);(try unfold Hid at *);omega)
    ·go_roundw
     case rel=>exact⟨k+1,n1,by omega,by go_num,rfl,rfl,by omega,by(simp only[Hid] at *;omega),by(simp only[Hid] at *;omega),by exact frc⟩
     case measure=>simp[intOf];omega
   ·clear h
    have hst:Hid (sumL zb5 (xs.take k)=sumL zb5 xs):=by rw[List.take_of_length_le (by omega)];exact rfl
    go_wp2
    go_ret
    refine zhz.mk _ ?_ (by exact frc)
    ((try unfold Hid at *);(try unfold Hid at *);omega)
 ·go_wp2
  go_ret
  refine zhz.mk _ ?_ (by exact frc)
  ((try unfold Hid at *);(try unfold Hid at *);omega)
def zb8 (x:Kpr):Nat:=szL zhR x.owns+szL zb5 x.asks
theorem zb9 (X:Nat->Prop) (x:Kpr) (cs:List Value) (left:Int) (w:World) (h:KprC X w cs x) (h0:0≤left) (h1:left≤1048576):
  Calls Tryz.prog 31 #[.agg cs.toArray,.int .i64 left] w (zhz (zb8 x) left w):=by
 obtain⟨v_owns,v_asks,rfl,h_owns,h_asks⟩:=h
 have H_owns:=fun W l (h:Fr No w W)=>zb4 X _ x.owns l W (h_owns.keep h zN (fun _ _ _ h9=>h9.keep h zN))
 have H_asks:=fun W l (h:Fr No w W)=>zb7 X _ x.asks l W (h_asks.k0 h)
 obtain⟨A_owns,c_owns,rfl,p_owns,q_owns⟩:=h_owns.form
 obtain⟨A_asks,c_asks,rfl,zq6,q_asks⟩:=h_asks.form
 clear h_owns
 clear h_asks
 go_enter Tryz.func31,Tryz.ntmps31
 have hB:=Bx.new w 76 #[.slice A_owns x.owns.length c_owns,.slice A_asks x.asks.length c_asks]
 go_wp2_with (first
  | (go_at_call_of 61 (Value.slice A_owns x.owns.length c_owns);refine(H_owns _ _ ?_ ?_ ?_).mono ?_;(focus (exact frc));omega;omega;rintro e w0 ⟨n0,rfl,hn0,hf0⟩;have hnb0:n0≤1048576:=(by have:=hn0.out;omega);have hb0:=Bx.keepTo w0 hB (by exact frc);obtain⟨e0_0,e0_1⟩:=hb0.c2;have hl0:=hb0.lt;have hw0:Fr No w w0:=(by exact frc))
  | (go_at_call_of 62 (Value.slice A_asks x.asks.length c_asks);refine(H_asks _ _ ?_ ?_ ?_).mono ?_;(focus (exact frc));omega;omega;rintro e w1 ⟨n1,rfl,hn1,hf1⟩;have hnb1:n1≤1048576:=(by have:=hn1.out;omega);have hb1:=Bx.keepTo w1 hb0 (by exact frc);obtain⟨e1_0,e1_1⟩:=hb1.c2;have hl1:=hb1.lt;have hw1:Fr No w w1:=(by exact frc)))
 all_goals go_ret
 all_goals refine zhz.mk _ ?_ (by exact frc)
 all_goals ((try unfold zb8 at *);(try unfold Hid at *);omega)
theorem zca (X:Nat->Prop) (v:Value) (xs:List Kpr) (left:Int) (w:World) (h:Sl X w 2 (KprC X w) v xs) (h0:0≤left) (h1:left≤1048576):
  Calls Tryz.prog 15 #[v,.int .i64 left] w (zhz (szL zb8 xs) left w):=by
 obtain⟨A,cap,rfl,hcap,hlen⟩:=h.form
 unfold maxLen at hlen
 have hsl:=zgj zb8 xs
 have hsum:szL zb8 xs=xs.length+sumL zb8 xs:=rfl
 have hsl:=Lib.hid hsl
 have hsum:=Lib.hid hsum
 go_enter Tryz.func15,Tryz.ntmps15
 by_cases hl0:(xs.length:Int)≤left
 ·go_wp2
  go_loopw [5,1,4] (fun i l r wr=>∃(k:Nat) (n:Int),k≤xs.length∧i=.int .i64 k∧l=.int .i64 n∧r=.int .i64 0∧0≤n∧n≤1048576∧Hid (n=left-xs.length-sumL zb8 (xs.take k))∧Fr No w wr) (fun i _ _ _=>xs.length-(intOf i).toNat)
  case atStart=>exact⟨0,left-xs.length,Nat.zero_le _,rfl,rfl,rfl,by omega,by omega,by simp[Hid,sumL],Fr.refl _ _⟩
  case round=>
   obtain⟨k,n,hk,rfl,rfl,rfl,hn0,hn1,hn,hf⟩:=hrel
   by_cases hlt:k<xs.length
   ·obtain⟨b,off,A_owns,c_owns,A_asks,c_asks,rfl,hX,c0,c1,h_owns,h_asks,_,_,_,_⟩:=(h.keep hf zN (fun _ _ _ h9=>h9.keep hf zN)).kpr hlt
    have hR:KprC X wr [.slice A_owns xs[k].owns.length c_owns,.slice A_asks xs[k].asks.length c_asks] xs[k]:=⟨_,_,rfl,h_owns,h_asks⟩
    clear h
    have H:=fun W l (h:Fr No wr W)=>zb9 X xs[k] _ l W (hR.keep h zN)
    clear hR
    clear h_owns
    clear h_asks
    have hst:=Lib.hid (zgg zb8 xs k hlt)
    have hle:=Lib.hid (zgh zb8 xs (k+1))
    generalize xs[k]=x at *
    go_wp2_with (go_at_call 31;refine(H _ _ ?_ ?_ ?_).mono ?_;(focus (exact frc));omega;omega;rintro e w1 ⟨n1,rfl,hn1',hf1⟩)
    ·go_ret
     refine zhz.mk _ ?_ (by exact frc)
     ((try unfold Hid at *);(try unfold Hid at *);omega)
    ·go_roundw
     case rel=>exact⟨k+1,n1,by omega,by go_num,rfl,rfl,by omega,by(simp only[Hid] at *;omega),by(simp only[Hid] at *;omega),by exact frc⟩
     case measure=>simp[intOf];omega
   ·clear h
    have hst:Hid (sumL zb8 (xs.take k)=sumL zb8 xs):=by rw[List.take_of_length_le (by omega)];exact rfl
    go_wp2
    go_ret
    refine zhz.mk _ ?_ (by exact frc)
    ((try unfold Hid at *);(try unfold Hid at *);omega)
 ·go_wp2
  go_ret
  refine zhz.mk _ ?_ (by exact frc)
  ((try unfold Hid at *);(try unfold Hid at *);omega)
def zcb (x:Plan):Nat:=szL zb8 x.keepers
theorem zcc (X:Nat->Prop) (x:Plan) (cs:List Value) (left:Int) (w:World) (h:zf9 X w cs x) (h0:0≤left) (h1:left≤1048576):
  Calls Tryz.prog 4 #[.agg cs.toArray,.int .i64 left] w (zhz (zcb x) left w):=by
 obtain⟨v_keepers,rfl,h_keepers⟩:=h
 have H_keepers:=fun W l (h:Fr No w W)=>zca X _ x.keepers l W (h_keepers.keep h zN (fun _ _ _ h9=>h9.keep h zN))
 obtain⟨A_keepers,c_keepers,rfl,p_keepers,q_keepers⟩:=h_keepers.form
 clear h_keepers
 go_enter Tryz.func4,Tryz.ntmps4
 have hB:=Bx.new w 24 #[.slice A_keepers x.keepers.length c_keepers]
 go_wp2_with (first
  | (go_at_call_of 15 (Value.slice A_keepers x.keepers.length c_keepers);refine(H_keepers _ _ ?_ ?_ ?_).mono ?_;(focus (exact frc));omega;omega;rintro e w0 ⟨n0,rfl,hn0,hf0⟩;have hnb0:n0≤1048576:=(by have:=hn0.out;omega);have hb0:=Bx.keepTo w0 hB (by exact frc);have e0_0:=hb0.c1;have hl0:=hb0.lt;have hw0:Fr No w w0:=(by exact frc)))
 all_goals go_ret
 all_goals refine zhz.mk _ ?_ (by exact frc)
 all_goals ((try unfold zcb at *);(try unfold Hid at *);omega)
end Go.Proofs.YtpghfhjhjlmljaaGreat
