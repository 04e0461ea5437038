/- The sizes that the laws count. -/
import Derived.Test.YtpghfhjhjlmljaaGreatPG1
import Derived.Test.YtpghfhjhjlmljaaGreatRows
import Derived.WalkSpells
import Derived.WalkLawsBesides
import Derived.Deep.RegionWith
set_option maxHeartbeats 2000000
set_option maxRecDepth 100000
namespace Go.Proofs.YtpghfhjhjlmljaaGreat
open Go.RowKit
def zhz (b:Nat) (left:Int) (w:World) (e:Ending) (w':World):Prop:=∃n:Int,e=.returned (.int .i64 n)∧Hid ((0≤n∧n=left-b)∨(n=-1∧left<b))∧Fr No w w'
theorem zhz.mk {b:Nat} {left:Int} {w w':World} (n:Int) (h:(0≤n∧n=left-b)∨(n=-1∧left<b)) (hf:Fr No w w'):zhz b left w (.returned (.int .i64 n)) w':=⟨n,rfl,h,hf⟩
def zhA (x:Knd):Nat:=x.name.size
theorem zhB (x:Knd) (cs:List Value) (left:Int) (w:World) (h:KndC cs x) (h0:0≤left) (h1:left≤1048576):
  Calls Tryz.prog 97 #[.agg cs.toArray,.int .i64 left] w (zhz (zhA x) left w):=by
 obtain⟨rfl,hz0⟩:=h
 unfold maxLen at hz0
 go_enter Tryz.func97,Tryz.ntmps97
 go_wp2
 all_goals go_ret
 all_goals refine zhz.mk _ ?_ (by exact frc)
 all_goals ((try unfold zhA at *);(try unfold Hid at *);omega)
theorem zhC (X:Nat->Prop) (v:Value) (xs:List Knd) (left:Int) (w:World) (h:Sl X w 2 KndC v xs) (h0:0≤left) (h1:left≤1048576):
  Calls Tryz.prog 98 #[v,.int .i64 left] w (zhz (szL zhA xs) left w):=by
 obtain⟨A,cap,rfl,hcap,hlen⟩:=h.form
 unfold maxLen at hlen
 have hsl:=zgj zhA xs
 have hsum:szL zhA xs=xs.length+sumL zhA xs:=rfl
 have hsl:=Lib.hid hsl
 have hsum:=Lib.hid hsum
 go_enter Tryz.func98,Tryz.ntmps98
 by_cases hl0:(xs.length:Int)≤left
 ·go_wp2
  go_loopw [5,1,4] (fun i l r wr=>∃(k:Nat) (n:Int),k≤xs.length∧i=.int .i64 k∧l=.int .i64 n∧r=.int .i64 0∧0≤n∧n≤1048576∧Hid (n=left-xs.length-sumL zhA (xs.take k))∧Fr No w wr) (fun i _ _ _=>xs.length-(intOf i).toNat)
  case atStart=>exact⟨0,left-xs.length,Nat.zero_le _,rfl,rfl,rfl,by omega,by omega,by simp[Hid,sumL],Fr.refl _ _⟩
  case round=>
   obtain⟨k,n,hk,rfl,rfl,rfl,hn0,hn1,hn,hf⟩:=hrel
   by_cases hlt:k<xs.length
   ·obtain⟨b,off,rfl,hX,c0,c1,z0⟩:=(h.k0 hf).knd hlt
    clear h
    have H:=fun W l (h:Fr No wr W)=>zhB xs[k] _ l W ⟨rfl,z0⟩
    have hst:=Lib.hid (zgg zhA xs k hlt)
    have hle:=Lib.hid (zgh zhA xs (k+1))
    generalize xs[k]=x at *
    go_wp2_with (go_at_call 97;refine(H _ _ ?_ ?_ ?_).mono ?_;(focus (exact frc));omega;omega;rintro e w1 ⟨n1,rfl,hn1',hf1⟩)
    ·go_ret
     refine zhz.mk _ ?_ (by exact frc)
     ((try unfold Hid at *);(try unfold Hid at *);omega)
    ·go_roundw
     case rel=>exact⟨k+1,n1,by omega,by go_num,rfl,rfl,by omega,by(simp only[Hid] at *;omega),by(simp only[Hid] at *;omega),by exact frc⟩
     case measure=>simp[intOf];omega
   ·clear h
    have hst:Hid (sumL zhA (xs.take k)=sumL zhA xs):=by rw[List.take_of_length_le (by omega)];exact rfl
    go_wp2
    go_ret
    refine zhz.mk _ ?_ (by exact frc)
    ((try unfold Hid at *);(try unfold Hid at *);omega)
 ·go_wp2
  go_ret
  refine zhz.mk _ ?_ (by exact frc)
  ((try unfold Hid at *);(try unfold Hid at *);omega)
def zhD (x:Tag):Nat:=x.name.size
theorem zhE (x:Tag) (cs:List Value) (left:Int) (w:World) (h:TagC cs x) (h0:0≤left) (h1:left≤1048576):
  Calls Tryz.prog 150 #[.agg cs.toArray,.int .i64 left] w (zhz (zhD x) left w):=by
 obtain⟨rfl,hz0⟩:=h
 unfold maxLen at hz0
 go_enter Tryz.func150,Tryz.ntmps150
 go_wp2
 all_goals go_ret
 all_goals refine zhz.mk _ ?_ (by exact frc)
 all_goals ((try unfold zhD at *);(try unfold Hid at *);omega)
theorem zhF (X:Nat->Prop) (v:Value) (xs:List Tag) (left:Int) (w:World) (h:Sl X w 2 TagC v xs) (h0:0≤left) (h1:left≤1048576):
  Calls Tryz.prog 142 #[v,.int .i64 left] w (zhz (szL zhD xs) left w):=by
 obtain⟨A,cap,rfl,hcap,hlen⟩:=h.form
 unfold maxLen at hlen
 have hsl:=zgj zhD xs
 have hsum:szL zhD xs=xs.length+sumL zhD xs:=rfl
 have hsl:=Lib.hid hsl
 have hsum:=Lib.hid hsum
 go_enter Tryz.func142,Tryz.ntmps142
 by_cases hl0:(xs.length:Int)≤left
 ·go_wp2
  go_loopw [5,1,4] (fun i l r wr=>∃(k:Nat) (n:Int),k≤xs.length∧i=.int .i64 k∧l=.int .i64 n∧r=.int .i64 0∧0≤n∧n≤1048576∧Hid (n=left-xs.length-sumL zhD (xs.take k))∧Fr No w wr) (fun i _ _ _=>xs.length-(intOf i).toNat)
  case atStart=>exact⟨0,left-xs.length,Nat.zero_le _,rfl,rfl,rfl,by omega,by omega,by simp[Hid,sumL],Fr.refl _ _⟩
  case round=>
   obtain⟨k,n,hk,rfl,rfl,rfl,hn0,hn1,hn,hf⟩:=hrel
   by_cases hlt:k<xs.length
   ·obtain⟨b,off,rfl,hX,c0,c1,z0⟩:=(h.k0 hf).tag hlt
    clear h
    have H:=fun W l (h:Fr No wr W)=>zhE xs[k] _ l W ⟨rfl,z0⟩
    have hst:=Lib.hid (zgg zhD xs k hlt)
    have hle:=Lib.hid (zgh zhD xs (k+1))
    generalize xs[k]=x at *
    go_wp2_with (go_at_call 150;refine(H _ _ ?_ ?_ ?_).mono ?_;(focus (exact frc));omega;omega;rintro e w1 ⟨n1,rfl,hn1',hf1⟩)
    ·go_ret
     refine zhz.mk _ ?_ (by exact frc)
     ((try unfold Hid at *);(try unfold Hid at *);omega)
    ·go_roundw
     case rel=>exact⟨k+1,n1,by omega,by go_num,rfl,rfl,by omega,by(simp only[Hid] at *;omega),by(simp only[Hid] at *;omega),by exact frc⟩
     case measure=>simp[intOf];omega
   ·clear h
    have hst:Hid (sumL zhD (xs.take k)=sumL zhD xs):=by rw[List.take_of_length_le (by omega)];exact rfl
    go_wp2
    go_ret
    refine zhz.mk _ ?_ (by exact frc)
    ((try unfold Hid at *);(try unfold Hid at *);omega)
 ·go_wp2
  go_ret
  refine zhz.mk _ ?_ (by exact frc)
  ((try unfold Hid at *);(try unfold Hid at *);omega)
def zhG (x:Ins):Nat:=x.name.size+x.member.size
theorem zhH (x:Ins) (cs:List Value) (left:Int) (w:World) (h:InsC cs x) (h0:0≤left) (h1:left≤1048576):
  Calls Tryz.prog 130 #[.agg cs.toArray,.int .i64 left] w (zhz (zhG x) left w):=by
 obtain⟨rfl,hz0,hz1⟩:=h
 unfold maxLen at hz0
 unfold maxLen at hz1
 go_enter Tryz.func130,Tryz.ntmps130
 go_wp2
 all_goals go_ret
 all_goals refine zhz.mk _ ?_ (by exact frc)
 all_goals ((try unfold zhG at *);(try unfold Hid at *);omega)
theorem zhI (X:Nat->Prop) (v:Value) (xs:List Ins) (left:Int) (w:World) (h:Sl X w 4 InsC v xs) (h0:0≤left) (h1:left≤1048576):
  Calls Tryz.prog 99 #[v,.int .i64 left] w (zhz (szL zhG xs) left w):=by
 obtain⟨A,cap,rfl,hcap,hlen⟩:=h.form
 unfold maxLen at hlen
 have hsl:=zgj zhG xs
 have hsum:szL zhG xs=xs.length+sumL zhG xs:=rfl
 have hsl:=Lib.hid hsl
 have hsum:=Lib.hid hsum
 go_enter Tryz.func99,Tryz.ntmps99
 by_cases hl0:(xs.length:Int)≤left
 ·go_wp2
  go_loopw [5,1,4] (fun i l r wr=>∃(k:Nat) (n:Int),k≤xs.length∧i=.int .i64 k∧l=.int .i64 n∧r=.int .i64 0∧0≤n∧n≤1048576∧Hid (n=left-xs.length-sumL zhG (xs.take k))∧Fr No w wr) (fun i _ _ _=>xs.length-(intOf i).toNat)
  case atStart=>exact⟨0,left-xs.length,Nat.zero_le _,rfl,rfl,rfl,by omega,by omega,by simp[Hid,sumL],Fr.refl _ _⟩
  case round=>
   obtain⟨k,n,hk,rfl,rfl,rfl,hn0,hn1,hn,hf⟩:=hrel
   by_cases hlt:k<xs.length
   ·obtain⟨b,off,rfl,hX,c0,c1,c2,c3,z0,z1⟩:=(h.k0 hf).ins hlt
    clear h
    have H:=fun W l (h:Fr No wr W)=>zhH xs[k] _ l W ⟨rfl,z0,z1⟩
    have hst:=Lib.hid (zgg zhG xs k hlt)
    have hle:=Lib.hid (zgh zhG xs (k+1))
    generalize xs[k]=x at *
    go_wp2_with (go_at_call 130;refine(H _ _ ?_ ?_ ?_).mono ?_;(focus (exact frc));omega;omega;rintro e w1 ⟨n1,rfl,hn1',hf1⟩)
    ·go_ret
     refine zhz.mk _ ?_ (by exact frc)
     ((try unfold Hid at *);(try unfold Hid at *);omega)
    ·go_roundw
     case rel=>exact⟨k+1,n1,by omega,by go_num,rfl,rfl,by omega,by(simp only[Hid] at *;omega),by(simp only[Hid] at *;omega),by exact frc⟩
     case measure=>simp[intOf];omega
   ·clear h
    have hst:Hid (sumL zhG (xs.take k)=sumL zhG xs):=by rw[List.take_of_length_le (by omega)];exact rfl
    go_wp2
    go_ret
    refine zhz.mk _ ?_ (by exact frc)
    ((try unfold Hid at *);(try unfold Hid at *);omega)
 ·go_wp2
  go_ret
  refine zhz.mk _ ?_ (by exact frc)
  ((try unfold Hid at *);(try unfold Hid at *);omega)
def zhJ (x:Fld):Nat:=x.name.size+zhA x.kind
theorem zhK (x:Fld) (cs:List Value) (left:Int) (w:World) (h:FldC cs x) (h0:0≤left) (h1:left≤1048576):
  Calls Tryz.prog 63 #[.agg cs.toArray,.int .i64 left] w (zhz (zhJ x) left w):=by
 obtain⟨rfl,hz0,hz1⟩:=h
 unfold maxLen at hz0
 unfold maxLen at hz1
 have H_kind:=fun W l (_:Fr No w W)=>zhB x.kind _ l W ⟨rfl,(by unfold maxLen;exact hz1)⟩
 go_enter Tryz.func63,Tryz.ntmps63
 have hB:=Bx.new w 115 #[.string x.name,.int .i64 x.kind.kind,.string x.kind.name]
 go_wp2_with (first
  | (go_at_call 97;refine(H_kind _ _ ?_ ?_ ?_).mono ?_;(focus (exact frc));omega;omega;rintro e w0 ⟨n0,rfl,hn0,hf0⟩;have hnb0:n0≤1048576:=(by have:=hn0.out;omega);have hb0:=Bx.keepTo w0 hB (by exact frc);obtain⟨e0_0,e0_1,e0_2⟩:=hb0.c3;have hl0:=hb0.lt;have hw0:Fr No w w0:=(by exact frc)))
 all_goals go_ret
 all_goals refine zhz.mk _ ?_ (by exact frc)
 all_goals ((try unfold zhJ at *);(try unfold Hid at *);omega)
theorem zhL (X:Nat->Prop) (v:Value) (xs:List Fld) (left:Int) (w:World) (h:Sl X w 3 FldC v xs) (h0:0≤left) (h1:left≤1048576):
  Calls Tryz.prog 32 #[v,.int .i64 left] w (zhz (szL zhJ xs) left w):=by
 obtain⟨A,cap,rfl,hcap,hlen⟩:=h.form
 unfold maxLen at hlen
 have hsl:=zgj zhJ xs
 have hsum:szL zhJ xs=xs.length+sumL zhJ xs:=rfl
 have hsl:=Lib.hid hsl
 have hsum:=Lib.hid hsum
 go_enter Tryz.func32,Tryz.ntmps32
 by_cases hl0:(xs.length:Int)≤left
 ·go_wp2
  go_loopw [5,1,4] (fun i l r wr=>∃(k:Nat) (n:Int),k≤xs.length∧i=.int .i64 k∧l=.int .i64 n∧r=.int .i64 0∧0≤n∧n≤1048576∧Hid (n=left-xs.length-sumL zhJ (xs.take k))∧Fr No w wr) (fun i _ _ _=>xs.length-(intOf i).toNat)
  case atStart=>exact⟨0,left-xs.length,Nat.zero_le _,rfl,rfl,rfl,by omega,by omega,by simp[Hid,sumL],Fr.refl _ _⟩
  case round=>
   obtain⟨k,n,hk,rfl,rfl,rfl,hn0,hn1,hn,hf⟩:=hrel
   by_cases hlt:k<xs.length
   ·obtain⟨b,off,rfl,hX,c0,c1,c2,z0,z1⟩:=(h.k0 hf).fld hlt
    clear h
    have H:=fun W l (h:Fr No wr W)=>zhK xs[k] _ l W ⟨rfl,z0,z1⟩
    have hst:=Lib.hid (zgg zhJ xs k hlt)
    have hle:=Lib.hid (zgh zhJ xs (k+1))
    generalize xs[k]=x at *
    go_wp2_with (go_at_call 63;refine(H _ _ ?_ ?_ ?_).mono ?_;(focus (exact frc));omega;omega;rintro e w1 ⟨n1,rfl,hn1',hf1⟩)
    ·go_ret
     refine zhz.mk _ ?_ (by exact frc)
     ((try unfold Hid at *);(try unfold Hid at *);omega)
    ·go_roundw
     case rel=>exact⟨k+1,n1,by omega,by go_num,rfl,rfl,by omega,by(simp only[Hid] at *;omega),by(simp only[Hid] at *;omega),by exact frc⟩
     case measure=>simp[intOf];omega
   ·clear h
    have hst:Hid (sumL zhJ (xs.take k)=sumL zhJ xs):=by rw[List.take_of_length_le (by omega)];exact rfl
    go_wp2
    go_ret
    refine zhz.mk _ ?_ (by exact frc)
    ((try unfold Hid at *);(try unfold Hid at *);omega)
 ·go_wp2
  go_ret
  refine zhz.mk _ ?_ (by exact frc)
  ((try unfold Hid at *);(try unfold Hid at *);omega)
def szMp (x:Mp):Nat:=szL zhD x.locals+szL zhD x.stack
theorem zhM (X:Nat->Prop) (x:Mp) (cs:List Value) (left:Int) (w:World) (h:MapC X w cs x) (h0:0≤left) (h1:left≤1048576):
  Calls Tryz.prog 131 #[.agg cs.toArray,.int .i64 left] w (zhz (szMp x) left w):=by
 obtain⟨v_locals,v_stack,rfl,h_locals,h_stack⟩:=h
 have H_locals:=fun W l (h:Fr No w W)=>zhF X _ x.locals l W (h_locals.k0 h)
 have H_stack:=fun W l (h:Fr No w W)=>zhF X _ x.stack l W (h_stack.k0 h)
 obtain⟨A_locals,c_locals,rfl,p_locals,q_locals⟩:=h_locals.form
 obtain⟨A_stack,c_stack,rfl,p_stack,q_stack⟩:=h_stack.form
 clear h_locals
 clear h_stack
 go_enter Tryz.func131,Tryz.ntmps131
 have hB:=Bx.new w 198 #[.int .i64 x.at_,.slice A_locals x.locals.length c_locals,.slice A_stack x.stack.length c_stack]
 go_wp2_with (first
  | (go_at_call_of 142 (Value.slice A_locals x.locals.length c_locals);refine(H_locals _ _ ?_ ?_ ?_).mono ?_;(focus (exact frc));omega;omega;rintro e w0 ⟨n0,rfl,hn0,hf0⟩;have hnb0:n0≤1048576:=(by have:=hn0.out;omega);have hb0:=Bx.keepTo w0 hB (by exact frc);obtain⟨e0_0,e0_1,e0_2⟩:=hb0.c3;have hl0:=hb0.lt;have hw0:Fr No w w0:=(by exact frc))
  | (go_at_call_of 142 (Value.slice A_stack x.stack.length c_stack);refine(H_stack _ _ ?_ ?_ ?_).mono ?_;(focus (exact frc));omega;omega;rintro e w1 ⟨n1,rfl,hn1,hf1⟩;have hnb1:n1≤1048576:=(by have:=hn1.out;omega);have hb1:=Bx.keepTo w1 hb0 (by exact frc);obtain⟨e1_0,e1_1,e1_2⟩:=hb1.c3;have hl1:=hb1.lt;have hw1:Fr No w w1:=(by exact frc)))
 all_goals go_ret
 all_goals refine zhz.mk _ ?_ (by exact frc)
 all_goals ((try unfold szMp at *);(try unfold Hid at *);omega)
theorem zhN (X:Nat->Prop) (v:Value) (xs:List Mp) (left:Int) (w:World) (h:Sl X w 3 (MapC X w) v xs) (h0:0≤left) (h1:left≤1048576):
  Calls Tryz.prog 100 #[v,.int .i64 left] w (zhz (szL szMp xs) left w):=by
 obtain⟨A,cap,rfl,hcap,hlen⟩:=h.form
 unfold maxLen at hlen
 have hsl:=zgj szMp xs
 have hsum:szL szMp xs=xs.length+sumL szMp xs:=rfl
 have hsl:=Lib.hid hsl
 have hsum:=Lib.hid hsum
 go_enter Tryz.func100,Tryz.ntmps100
 by_cases hl0:(xs.length:Int)≤left
 ·go_wp2
  go_loopw [5,1,4] (fun i l r wr=>∃(k:Nat) (n:Int),k≤xs.length∧i=.int .i64 k∧l=.int .i64 n∧r=.int .i64 0∧0≤n∧n≤1048576∧Hid (n=left-xs.length-sumL szMp (xs.take k))∧Fr No w wr) (fun i _ _ _=>xs.length-(intOf i).toNat)
  case atStart=>exact⟨0,left-xs.length,Nat.zero_le _,rfl,rfl,rfl,by omega,by omega,by simp[Hid,sumL],Fr.refl _ _⟩
  case round=>
   obtain⟨k,n,hk,rfl,rfl,rfl,hn0,hn1,hn,hf⟩:=hrel
   by_cases hlt:k<xs.length
   ·obtain⟨b,off,A_locals,c_locals,A_stack,c_stack,rfl,hX,c0,c1,c2,h_locals,h_stack,_,_,_,_⟩:=(h.keep hf zN (fun _ _ _ h9=>h9.keep hf zN)).map hlt
    have hR:MapC X wr [.int .i64 xs[k].at_,.slice A_locals xs[k].locals.length c_locals,.slice A_stack xs[k].stack.length c_stack] xs[k]:=⟨_,_,rfl,h_locals,h_stack⟩
    clear h
    have H:=fun W l (h:Fr No wr W)=>zhM X xs[k] _ l W (hR.keep h zN)
    clear hR
    clear h_locals
    clear h_stack
    have hst:=Lib.hid (zgg szMp xs k hlt)
    have hle:=Lib.hid (zgh szMp xs (k+1))
    generalize xs[k]=x at *
    go_wp2_with (go_at_call 131;refine(H _ _ ?_ ?_ ?_).mono ?_;(focus (exact frc));omega;omega;rintro e w1 ⟨n1,rfl,hn1',hf1⟩)
    ·go_ret
     refine zhz.mk _ ?_ (by exact frc)
     ((try unfold Hid at *);(try unfold Hid at *);omega)
    ·go_roundw
     case rel=>exact⟨k+1,n1,by omega,by go_num,rfl,rfl,by omega,by(simp only[Hid] at *;omega),by(simp only[Hid] at *;omega),by exact frc⟩
     case measure=>simp[intOf];omega
   ·clear h
    have hst:Hid (sumL szMp (xs.take k)=sumL szMp xs):=by rw[List.take_of_length_le (by omega)];exact rfl
    go_wp2
    go_ret
    refine zhz.mk _ ?_ (by exact frc)
    ((try unfold Hid at *);(try unfold Hid at *);omega)
 ·go_wp2
  go_ret
  refine zhz.mk _ ?_ (by exact frc)
  ((try unfold Hid at *);(try unfold Hid at *);omega)
def zhO (x:Mth):Nat:=x.name.size+szL zhA x.args+zhA x.ret+szL zhG x.code+szL szMp x.maps
theorem zhP (X:Nat->Prop) (x:Mth) (cs:List Value) (left:Int) (w:World) (h:MthC X w cs x) (h0:0≤left) (h1:left≤1048576):
  Calls Tryz.prog 64 #[.agg cs.toArray,.int .i64 left] w (zhz (zhO x) left w):=by
 obtain⟨v_args,v_code,v_maps,rfl,hz0,hz1,h_args,h_code,h_maps⟩:=h
 unfold maxLen at hz0
 unfold maxLen at hz1
 have H_args:=fun W l (h:Fr No w W)=>zhC X _ x.args l W (h_args.k0 h)
 have H_ret:=fun W l (_:Fr No w W)=>zhB x.ret _ l W ⟨rfl,(by unfold maxLen;exact hz1)⟩
 have H_code:=fun W l (h:Fr No w W)=>zhI X _ x.code l W (h_code.k0 h)
 have H_maps:=fun W l (h:Fr No w W)=>zhN X _ x.maps l W (h_maps.keep h zN (fun _ _ _ h9=>h9.keep h zN))
 obtain⟨A_args,c_args,rfl,p_args,q_args⟩:=h_args.form
 obtain⟨A_code,c_code,rfl,p_code,q_code⟩:=h_code.form
 obtain⟨A_maps,c_maps,rfl,p_maps,q_maps⟩:=h_maps.form
 clear h_args
 clear h_code
 clear h_maps
 go_enter Tryz.func64,Tryz.ntmps64
 have hB:=Bx.new w 121 #[.string x.name,.slice A_args x.args.length c_args,.int .i64 x.ret.kind,.string x.ret.name,.int .i64 x.locals,.int .i64 x.stack,.slice A_code x.code.length c_code,.slice A_maps x.maps.length c_maps]
 go_wp2_with (first
  | (go_at_call_of 98 (Value.slice A_args x.args.length c_args);refine(H_args _ _ ?_ ?_ ?_).mono ?_;(focus (exact frc));omega;omega;rintro e w0 ⟨n0,rfl,hn0,hf0⟩;have hnb0:n0≤1048576:=(by have:=hn0.out;omega);have hb0:=Bx.keepTo w0 hB (by exact frc);obtain⟨e0_0,e0_1,e0_2,e0_3,e0_4,e0_5,e0_6,e0_7⟩:=hb0.c8;have hl0:=hb0.lt;have hw0:Fr No w w0:=(by exact frc))
  | (go_at_call 97;refine(H_ret _ _ ?_ ?_ ?_).mono ?_;(focus (exact frc));omega;omega;rintro e w1 ⟨n1,rfl,hn1,hf1⟩;have hnb1:n1≤1048576:=(by have:=hn1.out;omega);have hb1:=Bx.keepTo w1 hb0 (by exact frc);obtain⟨e1_0,e1_1,e1_2,e1_3,e1_4,e1_5,e1_6,e1_7⟩:=hb1.c8;have hl1:=hb1.lt;have hw1:Fr No w w1:=(by exact frc))
  | (go_at_call_of 99 (Value.slice A_code x.code.length c_code);refine(H_code _ _ ?_ ?_ ?_).mono ?_;(focus (exact frc));omega;omega;rintro e w2 ⟨n2,rfl,hn2,hf2⟩;have hnb2:n2≤1048576:=(by have:=hn2.out;omega);have hb2:=Bx.keepTo w2 hb1 (by exact frc);obtain⟨e2_0,e2_1,e2_2,e2_3,e2_4,e2_5,e2_6,e2_7⟩:=hb2.c8;have hl2:=hb2.lt;have hw2:Fr No w w2:=(by exact frc))
  | (go_at_call_of 100 (Value.slice A_maps x.maps.length c_maps);refine(H_maps _ _ ?_ ?_ ?_).mono ?_;(focus (exact frc));omega;omega;rintro e w3 ⟨n3,rfl,hn3,hf3⟩;have hnb3:n3≤1048576:=(by have:=hn3.out;omega);have hb3:=Bx.keepTo w3 hb2 (by exact frc);obtain⟨e3_0,e3_1,e3_2,e3_3,e3_4,e3_5,e3_6,e3_7⟩:=hb3.c8;have hl3:=hb3.lt;have hw3:Fr No w w3:=(by exact frc)))
 all_goals go_ret
 all_goals refine zhz.mk _ ?_ (by exact frc)
 all_goals ((try unfold zhO at *);(try unfold Hid at *);omega)
theorem zhQ (X:Nat->Prop) (v:Value) (xs:List Mth) (left:Int) (w:World) (h:Sl X w 8 (MthC X w) v xs) (h0:0≤left) (h1:left≤1048576):
  Calls Tryz.prog 33 #[v,.int .i64 left] w (zhz (szL zhO xs) left w):=by
 obtain⟨A,cap,rfl,hcap,hlen⟩:=h.form
 unfold maxLen at hlen
 have hsl:=zgj zhO xs
 have hsum:szL zhO xs=xs.length+sumL zhO xs:=rfl
 have hsl:=Lib.hid hsl
 have hsum:=Lib.hid hsum
 go_enter Tryz.func33,Tryz.ntmps33
 by_cases hl0:(xs.length:Int)≤left
 ·go_wp2
  go_loopw [5,1,4] (fun i l r wr=>∃(k:Nat) (n:Int),k≤xs.length∧i=.int .i64 k∧l=.int .i64 n∧r=.int .i64 0∧0≤n∧n≤1048576∧Hid (n=left-xs.length-sumL zhO (xs.take k))∧Fr No w wr) (fun i _ _ _=>xs.length-(intOf i).toNat)
  case atStart=>exact⟨0,left-xs.length,Nat.zero_le _,rfl,rfl,rfl,by omega,by omega,by simp[Hid,sumL],Fr.refl _ _⟩
  case round=>
   obtain⟨k,n,hk,rfl,rfl,rfl,hn0,hn1,hn,hf⟩:=hrel
   by_cases hlt:k<xs.length
   ·obtain⟨b,off,A_args,c_args,A_code,c_code,A_maps,c_maps,rfl,hX,c0,c1,c2,c3,c4,c5,c6,c7,z0,z1,h_args,h_code,h_maps,_,_,_,_,_,_⟩:=(h.keep hf zN (fun _ _ _ h9=>h9.keep hf zN)).mth hlt
    have hR:MthC X wr [.string xs[k].name,.slice A_args xs[k].args.length c_args,.int .i64 xs[k].ret.kind,.string xs[k].ret.name,.int .i64 xs[k].locals,.int .i64 xs[k].stack,.slice A_code xs[k].code.length c_code,.slice A_maps xs[k].maps.length c_maps] xs[k]:=⟨_,_,_,rfl,z0,z1,h_args,h_code,h_maps⟩
    clear h
    have H:=fun W l (h:Fr No wr W)=>zhP X xs[k] _ l W (hR.keep h zN)
    clear hR
    clear h_args
    clear h_code
    clear h_maps
    have hst:=Lib.hid (zgg zhO xs k hlt)
    have hle:=Lib.hid (zgh zhO xs (k+1))
    generalize xs[k]=x at *
    go_wp2_with (go_at_call 64;refine(H _ _ ?_ ?_ ?_).mono ?_;(focus (exact frc));omega;omega;rintro e w1 ⟨n1,rfl,hn1',hf1⟩)
    ·go_ret
     refine zhz.mk _ ?_ (by exact frc)
     ((try unfold Hid at *);(try unfold Hid at *);omega)
    ·go_roundw
     case rel=>exact⟨k+1,n1,by omega,by go_num,rfl,rfl,by omega,by(simp only[Hid] at *;omega),by(simp only[Hid] at *;omega),by exact frc⟩
     case measure=>simp[intOf];omega
   ·clear h
    have hst:Hid (sumL zhO (xs.take k)=sumL zhO xs):=by rw[List.take_of_length_le (by omega)];exact rfl
    go_wp2
    go_ret
    refine zhz.mk _ ?_ (by exact frc)
    ((try unfold Hid at *);(try unfold Hid at *);omega)
 ·go_wp2
  go_ret
  refine zhz.mk _ ?_ (by exact frc)
  ((try unfold Hid at *);(try unfold Hid at *);omega)
def zhR (x:Cls):Nat:=x.name.size+x.super.size+szL zhJ x.fields+szL zhO x.methods
theorem zhS (X:Nat->Prop) (x:Cls) (cs:List Value) (left:Int) (w:World) (h:ClsC X w cs x) (h0:0≤left) (h1:left≤1048576):
  Calls Tryz.prog 16 #[.agg cs.toArray,.int .i64 left] w (zhz (zhR x) left w):=by
 obtain⟨v_fields,v_methods,rfl,hz0,hz1,h_fields,h_methods⟩:=h
 unfold maxLen at hz0
 unfold maxLen at hz1
 have H_fields:=fun W l (h:Fr No w W)=>zhL X _ x.fields l W (h_fields.k0 h)
 have H_methods:=fun W l (h:Fr No w W)=>zhQ X _ x.methods l W (h_methods.keep h zN (fun _ _ _ h9=>h9.keep h zN))
 obtain⟨A_fields,c_fields,rfl,p_fields,q_fields⟩:=h_fields.form
 obtain⟨A_methods,c_methods,rfl,p_methods,q_methods⟩:=h_methods.form
 clear h_fields
 clear h_methods
 go_enter Tryz.func16,Tryz.ntmps16
 have hB:=Bx.new w 28 #[.string x.name,.string x.super,.slice A_fields x.fields.length c_fields,.slice A_methods x.methods.length c_methods]
 go_wp2_with (first
  | (go_at_call_of 32 (Value.slice A_fields x.fields.length c_fields);refine(H_fields _ _ ?_ ?_ ?_).mono ?_;(focus (exact frc));omega;omega;rintro e w0 ⟨n0,rfl,hn0,hf0⟩;have hnb0:n0≤1048576:=(by have:=hn0.out;omega);have hb0:=Bx.keepTo w0 hB (by exact frc);obtain⟨e0_0,e0_1,e0_2,e0_3⟩:=hb0.c4;have hl0:=hb0.lt;have hw0:Fr No w w0:=(by exact frc))
  | (go_at_call_of 33 (Value.slice A_methods x.methods.length c_methods);refine(H_methods _ _ ?_ ?_ ?_).mono ?_;(focus (exact frc));omega;omega;rintro e w1 ⟨n1,rfl,hn1,hf1⟩;have hnb1:n1≤1048576:=(by have:=hn1.out;omega);have hb1:=Bx.keepTo w1 hb0 (by exact frc);obtain⟨e1_0,e1_1,e1_2,e1_3⟩:=hb1.c4;have hl1:=hb1.lt;have hw1:Fr No w w1:=(by exact frc)))
 all_goals go_ret
 all_goals refine zhz.mk _ ?_ (by exact frc)
 all_goals ((try unfold zhR at *);(try unfold Hid at *);omega)
end Go.Proofs.YtpghfhjhjlmljaaGreat
