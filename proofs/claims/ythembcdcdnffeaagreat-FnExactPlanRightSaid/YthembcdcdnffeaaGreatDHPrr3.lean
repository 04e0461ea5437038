/- The laws' own comparisons of keepers: what reads as the same data is equal. -/
import Derived.Test.YthembcdcdnffeaaGreatDHPrr2
import Derived.Test.YthembcdcdnffeaaGreatDG2
import Derived.WalkSpells
import Derived.WalkLawsBesides
import Derived.Deep.RegionWith
set_option maxHeartbeats 2000000
set_option maxRecDepth 100000
namespace Go.Proofs.YthembcdcdnffeaaGreat
open Go.RowKit
theorem zhq (X Y:Nat->Prop) (v v1:Value) (xs:List Cls) (w:World) (h:Sl X w 4 (ClsC X w) v xs) (g:Sl Y w 4 (ClsC Y w) v1 xs):
  Calls Tryz.prog 83 #[v,v1] w (zgm true w):=by
 obtain⟨A,cap,rfl,_,hlen⟩:=h.form
 obtain⟨B,cap1,rfl,_,_⟩:=g.form
 unfold maxLen at hlen
 go_enter Tryz.func83,Tryz.ntmps83
 go_wp2
 go_loopw [5,4] (fun i r wr=>∃k:Nat,k≤xs.length∧i=.int .i64 k∧r=.bool false∧Fr No w wr) (fun i _ _=>xs.length-(intOf i).toNat)
 case atStart=>exact⟨0,Nat.zero_le _,rfl,rfl,Fr.refl _ _⟩
 case round=>
  obtain⟨k,hk,rfl,rfl,hf⟩:=hrel
  by_cases hlt:k<xs.length
  ·obtain⟨b,bf,A_fields,c_fields,A_methods,c_methods,rfl,_,c0,c1,c2,c3,z0,z1,hA_fields,hA_methods,_,_,_,_⟩:=(h.keep hf (fun _ h=>h.elim) (fun _ _ _ h9=>h9.keep hf (fun _ h=>h.elim))).cls hlt
   obtain⟨a,af,B_fields,d_fields,B_methods,d_methods,rfl,_,f0,f1,f2,f3,y0,y1,hB_fields,hB_methods,_,_,_,_⟩:=(g.keep hf (fun _ h=>h.elim) (fun _ _ _ h9=>h9.keep hf (fun _ h=>h.elim))).cls hlt
   clear h g
   have H:=fun W (h:Fr No wr W)=>zj0 X Y xs[k] _ _ W ((show ClsC X wr [.string xs[k].name,.string xs[k].super,.slice A_fields xs[k].fields.length c_fields,.slice A_methods xs[k].methods.length c_methods] xs[k] from⟨_,_,rfl,z0,z1,hA_fields,hA_methods⟩).keep h (fun _ h=>h.elim)) ((show ClsC Y wr [.string xs[k].name,.string xs[k].super,.slice B_fields xs[k].fields.length d_fields,.slice B_methods xs[k].methods.length d_methods] xs[k] from⟨_,_,rfl,y0,y1,hB_fields,hB_methods⟩).keep h (fun _ h=>h.elim))
   generalize xs[k]=x at *
   have c0:=fun W (h:Fr No wr W)=>h.keep0 c0
   have f0:=fun W (h:Fr No wr W)=>h.keep0 f0
   have c1:=fun W (h:Fr No wr W)=>h.keep0 c1
   have f1:=fun W (h:Fr No wr W)=>h.keep0 f1
   have c2:=fun W (h:Fr No wr W)=>h.keep0 c2
   have f2:=fun W (h:Fr No wr W)=>h.keep0 f2
   have c3:=fun W (h:Fr No wr W)=>h.keep0 c3
   have f3:=fun W (h:Fr No wr W)=>h.keep0 f3
   go_wp2_with fail
   first
    | ((refine zgc (X:=No) (by kernel_rfl) (by kernel_rfl) ?_);(repeat(first|(apply zgb;(focus (exact rfl));simp only[Act.put,lz0,lz1,lz2])|(apply zga;(focus (exact rfl));(focus (intro W hW;go_simp;first|done|exact rfl|(go_at_call 134;exact(H W hW).mono (fun _ _ h=>⟨h.1,hW.trans0 h.2⟩))));simp only[Act.put,lz0,lz1,lz2])));refine wpQuiet_nil ?_)
    | ((refine zge (X:=No) ?_);(repeat(first|(apply zgb;(focus (exact rfl));simp only[Act.put,lz0,lz1,lz2])|(apply zga;(focus (exact rfl));(focus (intro W hW;go_simp;first|done|exact rfl|(go_at_call 134;exact(H W hW).mono (fun _ _ h=>⟨h.1,hW.trans0 h.2⟩))));simp only[Act.put,lz0,lz1,lz2])));refine wpQuiet_nil ?_)
   intro w1 hf1
   clear c0 c1 c2 c3 f0 f1 f2 f3 H
   go_wp2
   go_roundw
   case rel=>exact⟨k+1,by omega,by go_num,rfl,by exact frc⟩
   case measure=>simp[intOf];omega
  ·clear h g
   go_wp2
   go_ret
   exact .mk rfl (by exact frc)
theorem zhr (x:Ask) (cs cs1:List Value) (w:World) (h:AskC cs x) (h1:AskC cs1 x):
  Calls Tryz.prog 135 #[.agg cs.toArray,.agg cs1.toArray] w (zgm true w):=by
 obtain⟨rfl,_⟩:=h
 obtain⟨rfl,_⟩:=h1
 go_enter Tryz.func135,Tryz.ntmps135
 go_wp2
 go_ret
 exact .mk rfl (by exact frc)
theorem zhs (X Y:Nat->Prop) (v v1:Value) (xs:List Ask) (w:World) (h:Sl X w 2 AskC v xs) (g:Sl Y w 2 AskC v1 xs):
  Calls Tryz.prog 84 #[v,v1] w (zgm true w):=by
 obtain⟨A,cap,rfl,_,hlen⟩:=h.form
 obtain⟨B,cap1,rfl,_,_⟩:=g.form
 unfold maxLen at hlen
 go_enter Tryz.func84,Tryz.ntmps84
 go_wp2
 go_loopw [5,4] (fun i r wr=>∃k:Nat,k≤xs.length∧i=.int .i64 k∧r=.bool false∧Fr No w wr) (fun i _ _=>xs.length-(intOf i).toNat)
 case atStart=>exact⟨0,Nat.zero_le _,rfl,rfl,Fr.refl _ _⟩
 case round=>
  obtain⟨k,hk,rfl,rfl,hf⟩:=hrel
  by_cases hlt:k<xs.length
  ·obtain⟨b,bf,rfl,_,c0,c1,z0⟩:=(h.keep hf (fun _ h=>h.elim) (fun _ _ _ h=>h)).ask hlt
   obtain⟨a,af,rfl,_,f0,f1,y0⟩:=(g.keep hf (fun _ h=>h.elim) (fun _ _ _ h=>h)).ask hlt
   clear h g
   have H:=fun W (_:Fr No wr W)=>zhr xs[k] _ _ W ⟨rfl,z0⟩ ⟨rfl,z0⟩
   generalize xs[k]=x at *
   have c0:=fun W (h:Fr No wr W)=>h.keep0 c0
   have f0:=fun W (h:Fr No wr W)=>h.keep0 f0
   have c1:=fun W (h:Fr No wr W)=>h.keep0 c1
   have f1:=fun W (h:Fr No wr W)=>h.keep0 f1
   go_wp2_with fail
   first
    | ((refine zgc (X:=No) (by kernel_rfl) (by kernel_rfl) ?_);(repeat(first|(apply zgb;(focus (exact rfl));simp only[Act.put,lz0,lz1,lz2])|(apply zga;(focus (exact rfl));(focus (intro W hW;go_simp;first|done|exact rfl|(go_at_call 135;exact(H W hW).mono (fun _ _ h=>⟨h.1,hW.trans0 h.2⟩))));simp only[Act.put,lz0,lz1,lz2])));refine wpQuiet_nil ?_)
    | ((refine zge (X:=No) ?_);(repeat(first|(apply zgb;(focus (exact rfl));simp only[Act.put,lz0,lz1,lz2])|(apply zga;(focus (exact rfl));(focus (intro W hW;go_simp;first|done|exact rfl|(go_at_call 135;exact(H W hW).mono (fun _ _ h=>⟨h.1,hW.trans0 h.2⟩))));simp only[Act.put,lz0,lz1,lz2])));refine wpQuiet_nil ?_)
   intro w1 hf1
   clear c0 c1 f0 f1 H
   go_wp2
   go_roundw
   case rel=>exact⟨k+1,by omega,by go_num,rfl,by exact frc⟩
   case measure=>simp[intOf];omega
  ·clear h g
   go_wp2
   go_ret
   exact .mk rfl (by exact frc)
theorem zht (X Y:Nat->Prop) (x:Kpr) (cs cs1:List Value) (w:World) (h:KprC X w cs x) (h1:KprC Y w cs1 x):
  Calls Tryz.prog 54 #[.agg cs.toArray,.agg cs1.toArray] w (zgm true w):=by
 obtain⟨v_owns,v_asks,rfl,h_owns,h_asks⟩:=h
 obtain⟨u_owns,u_asks,rfl,g_owns,g_asks⟩:=h1
 have H_owns:=fun W (h:Fr No w W)=>zhq X Y _ _ x.owns W (h_owns.keep h (fun _ h=>h.elim) (fun _ _ _ h9=>h9.keep h (fun _ h=>h.elim))) (g_owns.keep h (fun _ h=>h.elim) (fun _ _ _ h9=>h9.keep h (fun _ h=>h.elim)))
 have H_asks:=fun W (h:Fr No w W)=>zhs X Y _ _ x.asks W (h_asks.keep h (fun _ h=>h.elim) (fun _ _ _ h=>h)) (g_asks.keep h (fun _ h=>h.elim) (fun _ _ _ h=>h))
 obtain⟨A_owns,c_owns,rfl,_,_⟩:=h_owns.form
 obtain⟨B_owns,d_owns,rfl,_,_⟩:=g_owns.form
 clear h_owns g_owns
 obtain⟨A_asks,c_asks,rfl,_,_⟩:=h_asks.form
 obtain⟨B_asks,d_asks,rfl,_,_⟩:=g_asks.form
 clear h_asks g_asks
 go_enter Tryz.func54,Tryz.ntmps54
 have ha0:Bx ((w.alloc (.cells #[.slice A_owns x.owns.length c_owns,.slice A_asks x.asks.length c_asks] 89)).alloc (.cells #[.slice B_owns x.owns.length d_owns,.slice B_asks x.asks.length d_asks] 89)) w.heap.size 89 #[.slice A_owns x.owns.length c_owns,.slice A_asks x.asks.length c_asks]:=(Bx.new_ rfl).alloc _
 have hb0:Bx ((w.alloc (.cells #[.slice A_owns x.owns.length c_owns,.slice A_asks x.asks.length c_asks] 89)).alloc (.cells #[.slice B_owns x.owns.length d_owns,.slice B_asks x.asks.length d_asks] 89)) (w.heap.size+1) 89 #[.slice B_owns x.owns.length d_owns,.slice B_asks x.asks.length d_asks]:=Bx.new_ (by simp)
 go_wp2_with (first
  | (go_at_call_of 83 (Value.slice A_owns x.owns.length c_owns);refine(H_owns _ ?_).mono ?_;(focus (exact frc));rintro e w1 ⟨rfl,hf1⟩;have ha1:=Bx.keepTo w1 ha0 (by exact frc);have hb1:=Bx.keepTo w1 hb0 (by exact frc);obtain⟨e1_0,e1_1⟩:=ha1.c2;obtain⟨f1_0,f1_1⟩:=hb1.c2;have hw1:Fr No w w1:=(by exact frc))
  | (go_at_call_of 84 (Value.slice A_asks x.asks.length c_asks);refine(H_asks _ ?_).mono ?_;(focus (exact frc));rintro e w2 ⟨rfl,hf2⟩;have ha2:=Bx.keepTo w2 ha1 (by exact frc);have hb2:=Bx.keepTo w2 hb1 (by exact frc);obtain⟨e2_0,e2_1⟩:=ha2.c2;obtain⟨f2_0,f2_1⟩:=hb2.c2;have hw2:Fr No w w2:=(by exact frc)))
 go_ret
 exact .mk rfl (by exact frc)
theorem zhu (X Y:Nat->Prop) (v v1:Value) (xs:List Kpr) (w:World) (h:Sl X w 2 (KprC X w) v xs) (g:Sl Y w 2 (KprC Y w) v1 xs):
  Calls Tryz.prog 28 #[v,v1] w (zgm true w):=by
 obtain⟨A,cap,rfl,_,hlen⟩:=h.form
 obtain⟨B,cap1,rfl,_,_⟩:=g.form
 unfold maxLen at hlen
 go_enter Tryz.func28,Tryz.ntmps28
 go_wp2
 go_loopw [5,4] (fun i r wr=>∃k:Nat,k≤xs.length∧i=.int .i64 k∧r=.bool false∧Fr No w wr) (fun i _ _=>xs.length-(intOf i).toNat)
 case atStart=>exact⟨0,Nat.zero_le _,rfl,rfl,Fr.refl _ _⟩
 case round=>
  obtain⟨k,hk,rfl,rfl,hf⟩:=hrel
  by_cases hlt:k<xs.length
  ·obtain⟨b,bf,A_owns,c_owns,A_asks,c_asks,rfl,_,c0,c1,hA_owns,hA_asks,_,_,_,_⟩:=(h.keep hf (fun _ h=>h.elim) (fun _ _ _ h9=>h9.keep hf (fun _ h=>h.elim))).kpr hlt
   obtain⟨a,af,B_owns,d_owns,B_asks,d_asks,rfl,_,f0,f1,hB_owns,hB_asks,_,_,_,_⟩:=(g.keep hf (fun _ h=>h.elim) (fun _ _ _ h9=>h9.keep hf (fun _ h=>h.elim))).kpr hlt
   clear h g
   have H:=fun W (h:Fr No wr W)=>zht X Y xs[k] _ _ W ((show KprC X wr [.slice A_owns xs[k].owns.length c_owns,.slice A_asks xs[k].asks.length c_asks] xs[k] from⟨_,_,rfl,hA_owns,hA_asks⟩).keep h (fun _ h=>h.elim)) ((show KprC Y wr [.slice B_owns xs[k].owns.length d_owns,.slice B_asks xs[k].asks.length d_asks] xs[k] from⟨_,_,rfl,hB_owns,hB_asks⟩).keep h (fun _ h=>h.elim))
   generalize xs[k]=x at *
   have c0:=fun W (h:Fr No wr W)=>h.keep0 c0
   have f0:=fun W (h:Fr No wr W)=>h.keep0 f0
   have c1:=fun W (h:Fr No wr W)=>h.keep0 c1
   have f1:=fun W (h:Fr No wr W)=>h.keep0 f1
   go_wp2_with fail
   first
    | ((refine zgc (X:=No) (by kernel_rfl) (by kernel_rfl) ?_);(repeat(first|(apply zgb;(focus (exact rfl));simp only[Act.put,lz0,lz1,lz2])|(apply zga;(focus (exact rfl));(focus (intro W hW;go_simp;first|done|exact rfl|(go_at_call 54;exact(H W hW).mono (fun _ _ h=>⟨h.1,hW.trans0 h.2⟩))));simp only[Act.put,lz0,lz1,lz2])));refine wpQuiet_nil ?_)
    | ((refine zge (X:=No) ?_);(repeat(first|(apply zgb;(focus (exact rfl));simp only[Act.put,lz0,lz1,lz2])|(apply zga;(focus (exact rfl));(focus (intro W hW;go_simp;first|done|exact rfl|(go_at_call 54;exact(H W hW).mono (fun _ _ h=>⟨h.1,hW.trans0 h.2⟩))));simp only[Act.put,lz0,lz1,lz2])));refine wpQuiet_nil ?_)
   intro w1 hf1
   clear c0 c1 f0 f1 H
   go_wp2
   go_roundw
   case rel=>exact⟨k+1,by omega,by go_num,rfl,by exact frc⟩
   case measure=>simp[intOf];omega
  ·clear h g
   go_wp2
   go_ret
   exact .mk rfl (by exact frc)
theorem zhv (X Y:Nat->Prop) (x:Plan) (cs cs1:List Value) (w:World) (h:zf9 X w cs x) (h1:zf9 Y w cs1 x):
  Calls Tryz.prog 12 #[.agg cs.toArray,.agg cs1.toArray] w (zgm true w):=by
 obtain⟨v_keepers,rfl,h_keepers⟩:=h
 obtain⟨u_keepers,rfl,g_keepers⟩:=h1
 have H_keepers:=fun W (h:Fr No w W)=>zhu X Y _ _ x.keepers W (h_keepers.keep h (fun _ h=>h.elim) (fun _ _ _ h9=>h9.keep h (fun _ h=>h.elim))) (g_keepers.keep h (fun _ h=>h.elim) (fun _ _ _ h9=>h9.keep h (fun _ h=>h.elim)))
 obtain⟨A_keepers,c_keepers,rfl,_,_⟩:=h_keepers.form
 obtain⟨B_keepers,d_keepers,rfl,_,_⟩:=g_keepers.form
 clear h_keepers g_keepers
 go_enter Tryz.func12,Tryz.ntmps12
 have ha0:Bx ((w.alloc (.cells #[.slice A_keepers x.keepers.length c_keepers] 32)).alloc (.cells #[.slice B_keepers x.keepers.length d_keepers] 32)) w.heap.size 32 #[.slice A_keepers x.keepers.length c_keepers]:=(Bx.new_ rfl).alloc _
 have hb0:Bx ((w.alloc (.cells #[.slice A_keepers x.keepers.length c_keepers] 32)).alloc (.cells #[.slice B_keepers x.keepers.length d_keepers] 32)) (w.heap.size+1) 32 #[.slice B_keepers x.keepers.length d_keepers]:=Bx.new_ (by simp)
 go_wp2_with (first
  | (go_at_call_of 28 (Value.slice A_keepers x.keepers.length c_keepers);refine(H_keepers _ ?_).mono ?_;(focus (exact frc));rintro e w1 ⟨rfl,hf1⟩;have ha1:=Bx.keepTo w1 ha0 (by exact frc);have hb1:=Bx.keepTo w1 hb0 (by exact frc);have e1_0:=ha1.c1;have f1_0:=hb1.c1;have hw1:Fr No w w1:=(by exact frc)))
 go_ret
 exact .mk rfl (by exact frc)
def zhw (p:Plan) (base:Nat):Value->World->Prop:=fun v W=>∃vk,v=.agg #[vk]∧Sl (fun b=>b<base) W 2 (KprC (fun b=>b<base) W) vk p.keepers
theorem zhx (p:Plan) (base:Nat):MonP (zhw p base):=fun _ _ _ ⟨vk,h1,h2⟩ hf=>⟨vk,h1,h2.keep hf (fun _ h=>h.elim) (fun _ _ _ h=>h.keep hf (fun _ h=>h.elim))⟩
theorem zhy {p:Plan} {W w':World} {e:Ending} {base:Nat} (h:zgn zf9 p W e w') (hb:base≤W.heap.size):∃v,e=.returned v∧Fr No W w'∧zhw p base v w':=by
 obtain⟨cs,rfl,⟨vk,rfl,h⟩,hf⟩:=h
 exact⟨_,rfl,hf,vk,rfl,h.weaken (fun b (hb':b<base)=>Nat.lt_of_lt_of_le hb' hb) (fun _ _ _ h=>h.weaken (fun b (hb':b<base)=>Nat.lt_of_lt_of_le hb' hb))⟩
def zhz (b:Nat) (left:Int) (w:World) (e:Ending) (w':World):Prop:=∃n:Int,e=.returned (.int .i64 n)∧Hid ((0≤n∧n=left-b)∨(n=-1∧left<b))∧Fr No w w'
theorem zhz.mk {b:Nat} {left:Int} {w w':World} (n:Int) (h:(0≤n∧n=left-b)∨(n=-1∧left<b)) (hf:Fr No w w'):zhz b left w (.returned (.int .i64 n)) w':=⟨n,rfl,h,hf⟩
def zhA (x:Knd):Nat:=x.name.size
theorem zhB (x:Knd) (cs:List Value) (left:Int) (w:World) (h:KndC cs x) (h0:0≤left) (h1:left≤1048576):
  Calls Tryz.prog 200 #[.agg cs.toArray,.int .i64 left] w (zhz (zhA x) left w):=by
 obtain⟨rfl,hz0⟩:=h
 unfold maxLen at hz0
 go_enter Tryz.func200,Tryz.ntmps200
 go_wp2
 all_goals go_ret
 all_goals refine zhz.mk _ ?_ (by exact frc)
 all_goals (first|(left;refine⟨?_,?_⟩<;>((try unfold zhA at *);(try unfold Hid at *);omega))|(right;refine⟨rfl,?_⟩;((try unfold zhA at *);(try unfold Hid at *);omega)))
theorem zhC (X:Nat->Prop) (v:Value) (xs:List Knd) (left:Int) (w:World) (h:Sl X w 2 KndC v xs) (h0:0≤left) (h1:left≤1048576):
  Calls Tryz.prog 201 #[v,.int .i64 left] w (zhz (szL zhA xs) left w):=by
 obtain⟨A,cap,rfl,hcap,hlen⟩:=h.form
 unfold maxLen at hlen
 have hsl:=zgj zhA xs
 have hsum:szL zhA xs=xs.length+sumL zhA xs:=rfl
 have hsl:=Lib.hid hsl
 have hsum:=Lib.hid hsum
 go_enter Tryz.func201,Tryz.ntmps201
 by_cases hl0:(xs.length:Int)≤left
 ·go_wp2
  go_loopw [5,1,4] (fun i l r wr=>∃(k:Nat) (n:Int),k≤xs.length∧i=.int .i64 k∧l=.int .i64 n∧r=.int .i64 0∧0≤n∧n≤1048576∧Hid (n=left-xs.length-sumL zhA (xs.take k))∧Fr No w wr) (fun i _ _ _=>xs.length-(intOf i).toNat)
  case atStart=>exact⟨0,left-xs.length,Nat.zero_le _,rfl,rfl,rfl,by omega,by omega,by simp[Hid,sumL],Fr.refl _ _⟩
  case round=>
   obtain⟨k,n,hk,rfl,rfl,rfl,hn0,hn1,hn,hf⟩:=hrel
   by_cases hlt:k<xs.length
   ·obtain⟨b,off,rfl,hX,c0,c1,z0⟩:=(h.keep hf (fun _ h=>h.elim) (fun _ _ _ h=>h)).knd hlt
    clear h
    have H:=fun W l (h:Fr No wr W)=>zhB xs[k] _ l W ⟨rfl,z0⟩
    have hst:=Lib.hid (zgg zhA xs k hlt)
    have hle:=Lib.hid (zgh zhA xs (k+1))
    generalize xs[k]=x at *
    go_wp2_with (go_at_call 200;refine(H _ _ ?_ ?_ ?_).mono ?_;(focus (exact frc));omega;omega;rintro e w1 ⟨n1,rfl,hn1',hf1⟩)
    ·go_ret
     refine zhz.mk _ ?_ (by exact frc)
     (first|(left;refine⟨?_,?_⟩<;>((try unfold Hid at *);(try unfold Hid at *);omega))|(right;refine⟨rfl,?_⟩;((try unfold Hid at *);(try unfold Hid at *);omega)))
    ·go_roundw
     case rel=>exact⟨k+1,n1,by omega,by go_num,rfl,rfl,by omega,by(simp only[Hid] at *;omega),by(simp only[Hid] at *;omega),by exact frc⟩
     case measure=>simp[intOf];omega
   ·clear h
    have hst:Hid (sumL zhA (xs.take k)=sumL zhA xs):=by rw[List.take_of_length_le (by omega)];exact rfl
    go_wp2
    go_ret
    refine zhz.mk _ ?_ (by exact frc)
    (first|(left;refine⟨?_,?_⟩<;>((try unfold Hid at *);(try unfold Hid at *);omega))|(right;refine⟨rfl,?_⟩;((try unfold Hid at *);(try unfold Hid at *);omega)))
 ·go_wp2
  go_ret
  refine zhz.mk _ ?_ (by exact frc)
  (first|(left;refine⟨?_,?_⟩<;>((try unfold Hid at *);(try unfold Hid at *);omega))|(right;refine⟨rfl,?_⟩;((try unfold Hid at *);(try unfold Hid at *);omega)))
def zhD (x:Tag):Nat:=x.name.size
theorem zhE (x:Tag) (cs:List Value) (left:Int) (w:World) (h:TagC cs x) (h0:0≤left) (h1:left≤1048576):
  Calls Tryz.prog 229 #[.agg cs.toArray,.int .i64 left] w (zhz (zhD x) left w):=by
 obtain⟨rfl,hz0⟩:=h
 unfold maxLen at hz0
 go_enter Tryz.func229,Tryz.ntmps229
 go_wp2
 all_goals go_ret
 all_goals refine zhz.mk _ ?_ (by exact frc)
 all_goals (first|(left;refine⟨?_,?_⟩<;>((try unfold zhD at *);(try unfold Hid at *);omega))|(right;refine⟨rfl,?_⟩;((try unfold zhD at *);(try unfold Hid at *);omega)))
theorem zhF (X:Nat->Prop) (v:Value) (xs:List Tag) (left:Int) (w:World) (h:Sl X w 2 TagC v xs) (h0:0≤left) (h1:left≤1048576):
  Calls Tryz.prog 227 #[v,.int .i64 left] w (zhz (szL zhD xs) left w):=by
 obtain⟨A,cap,rfl,hcap,hlen⟩:=h.form
 unfold maxLen at hlen
 have hsl:=zgj zhD xs
 have hsum:szL zhD xs=xs.length+sumL zhD xs:=rfl
 have hsl:=Lib.hid hsl
 have hsum:=Lib.hid hsum
 go_enter Tryz.func227,Tryz.ntmps227
 by_cases hl0:(xs.length:Int)≤left
 ·go_wp2
  go_loopw [5,1,4] (fun i l r wr=>∃(k:Nat) (n:Int),k≤xs.length∧i=.int .i64 k∧l=.int .i64 n∧r=.int .i64 0∧0≤n∧n≤1048576∧Hid (n=left-xs.length-sumL zhD (xs.take k))∧Fr No w wr) (fun i _ _ _=>xs.length-(intOf i).toNat)
  case atStart=>exact⟨0,left-xs.length,Nat.zero_le _,rfl,rfl,rfl,by omega,by omega,by simp[Hid,sumL],Fr.refl _ _⟩
  case round=>
   obtain⟨k,n,hk,rfl,rfl,rfl,hn0,hn1,hn,hf⟩:=hrel
   by_cases hlt:k<xs.length
   ·obtain⟨b,off,rfl,hX,c0,c1,z0⟩:=(h.keep hf (fun _ h=>h.elim) (fun _ _ _ h=>h)).tag hlt
    clear h
    have H:=fun W l (h:Fr No wr W)=>zhE xs[k] _ l W ⟨rfl,z0⟩
    have hst:=Lib.hid (zgg zhD xs k hlt)
    have hle:=Lib.hid (zgh zhD xs (k+1))
    generalize xs[k]=x at *
    go_wp2_with (go_at_call 229;refine(H _ _ ?_ ?_ ?_).mono ?_;(focus (exact frc));omega;omega;rintro e w1 ⟨n1,rfl,hn1',hf1⟩)
    ·go_ret
     refine zhz.mk _ ?_ (by exact frc)
     (first|(left;refine⟨?_,?_⟩<;>((try unfold Hid at *);(try unfold Hid at *);omega))|(right;refine⟨rfl,?_⟩;((try unfold Hid at *);(try unfold Hid at *);omega)))
    ·go_roundw
     case rel=>exact⟨k+1,n1,by omega,by go_num,rfl,rfl,by omega,by(simp only[Hid] at *;omega),by(simp only[Hid] at *;omega),by exact frc⟩
     case measure=>simp[intOf];omega
   ·clear h
    have hst:Hid (sumL zhD (xs.take k)=sumL zhD xs):=by rw[List.take_of_length_le (by omega)];exact rfl
    go_wp2
    go_ret
    refine zhz.mk _ ?_ (by exact frc)
    (first|(left;refine⟨?_,?_⟩<;>((try unfold Hid at *);(try unfold Hid at *);omega))|(right;refine⟨rfl,?_⟩;((try unfold Hid at *);(try unfold Hid at *);omega)))
 ·go_wp2
  go_ret
  refine zhz.mk _ ?_ (by exact frc)
  (first|(left;refine⟨?_,?_⟩<;>((try unfold Hid at *);(try unfold Hid at *);omega))|(right;refine⟨rfl,?_⟩;((try unfold Hid at *);(try unfold Hid at *);omega)))
def zhG (x:Ins):Nat:=x.name.size+x.member.size
theorem zhH (x:Ins) (cs:List Value) (left:Int) (w:World) (h:InsC cs x) (h0:0≤left) (h1:left≤1048576):
  Calls Tryz.prog 219 #[.agg cs.toArray,.int .i64 left] w (zhz (zhG x) left w):=by
 obtain⟨rfl,hz0,hz1⟩:=h
 unfold maxLen at hz0
 unfold maxLen at hz1
 go_enter Tryz.func219,Tryz.ntmps219
 go_wp2
 all_goals go_ret
 all_goals refine zhz.mk _ ?_ (by exact frc)
 all_goals (first|(left;refine⟨?_,?_⟩<;>((try unfold zhG at *);(try unfold Hid at *);omega))|(right;refine⟨rfl,?_⟩;((try unfold zhG at *);(try unfold Hid at *);omega)))
theorem zhI (X:Nat->Prop) (v:Value) (xs:List Ins) (left:Int) (w:World) (h:Sl X w 4 InsC v xs) (h0:0≤left) (h1:left≤1048576):
  Calls Tryz.prog 202 #[v,.int .i64 left] w (zhz (szL zhG xs) left w):=by
 obtain⟨A,cap,rfl,hcap,hlen⟩:=h.form
 unfold maxLen at hlen
 have hsl:=zgj zhG xs
 have hsum:szL zhG xs=xs.length+sumL zhG xs:=rfl
 have hsl:=Lib.hid hsl
 have hsum:=Lib.hid hsum
 go_enter Tryz.func202,Tryz.ntmps202
 by_cases hl0:(xs.length:Int)≤left
 ·go_wp2
  go_loopw [5,1,4] (fun i l r wr=>∃(k:Nat) (n:Int),k≤xs.length∧i=.int .i64 k∧l=.int .i64 n∧r=.int .i64 0∧0≤n∧n≤1048576∧Hid (n=left-xs.length-sumL zhG (xs.take k))∧Fr No w wr) (fun i _ _ _=>xs.length-(intOf i).toNat)
  case atStart=>exact⟨0,left-xs.length,Nat.zero_le _,rfl,rfl,rfl,by omega,by omega,by simp[Hid,sumL],Fr.refl _ _⟩
  case round=>
   obtain⟨k,n,hk,rfl,rfl,rfl,hn0,hn1,hn,hf⟩:=hrel
   by_cases hlt:k<xs.length
   ·obtain⟨b,off,rfl,hX,c0,c1,c2,c3,z0,z1⟩:=(h.keep hf (fun _ h=>h.elim) (fun _ _ _ h=>h)).ins hlt
    clear h
    have H:=fun W l (h:Fr No wr W)=>zhH xs[k] _ l W ⟨rfl,z0,z1⟩
    have hst:=Lib.hid (zgg zhG xs k hlt)
    have hle:=Lib.hid (zgh zhG xs (k+1))
    generalize xs[k]=x at *
    go_wp2_with (go_at_call 219;refine(H _ _ ?_ ?_ ?_).mono ?_;(focus (exact frc));omega;omega;rintro e w1 ⟨n1,rfl,hn1',hf1⟩)
    ·go_ret
     refine zhz.mk _ ?_ (by exact frc)
     (first|(left;refine⟨?_,?_⟩<;>((try unfold Hid at *);(try unfold Hid at *);omega))|(right;refine⟨rfl,?_⟩;((try unfold Hid at *);(try unfold Hid at *);omega)))
    ·go_roundw
     case rel=>exact⟨k+1,n1,by omega,by go_num,rfl,rfl,by omega,by(simp only[Hid] at *;omega),by(simp only[Hid] at *;omega),by exact frc⟩
     case measure=>simp[intOf];omega
   ·clear h
    have hst:Hid (sumL zhG (xs.take k)=sumL zhG xs):=by rw[List.take_of_length_le (by omega)];exact rfl
    go_wp2
    go_ret
    refine zhz.mk _ ?_ (by exact frc)
    (first|(left;refine⟨?_,?_⟩<;>((try unfold Hid at *);(try unfold Hid at *);omega))|(right;refine⟨rfl,?_⟩;((try unfold Hid at *);(try unfold Hid at *);omega)))
 ·go_wp2
  go_ret
  refine zhz.mk _ ?_ (by exact frc)
  (first|(left;refine⟨?_,?_⟩<;>((try unfold Hid at *);(try unfold Hid at *);omega))|(right;refine⟨rfl,?_⟩;((try unfold Hid at *);(try unfold Hid at *);omega)))
def zhJ (x:Fld):Nat:=x.name.size+zhA x.kind
theorem zhK (x:Fld) (cs:List Value) (left:Int) (w:World) (h:FldC cs x) (h0:0≤left) (h1:left≤1048576):
  Calls Tryz.prog 181 #[.agg cs.toArray,.int .i64 left] w (zhz (zhJ x) left w):=by
 obtain⟨rfl,hz0,hz1⟩:=h
 unfold maxLen at hz0
 unfold maxLen at hz1
 have H_kind:=fun W l (_:Fr No w W)=>zhB x.kind _ l W ⟨rfl,(by unfold maxLen;exact hz1)⟩
 go_enter Tryz.func181,Tryz.ntmps181
 have hB:=Bx.new w 250 #[.string x.name,.int .i64 x.kind.kind,.string x.kind.name]
 go_wp2_with (first
  | (go_at_call 200;refine(H_kind _ _ ?_ ?_ ?_).mono ?_;(focus (exact frc));omega;omega;rintro e w0 ⟨n0,rfl,hn0,hf0⟩;have hnb0:n0≤1048576:=(by have:=hn0.out;omega);have hb0:=Bx.keepTo w0 hB (by exact frc);obtain⟨e0_0,e0_1,e0_2⟩:=hb0.c3;have hl0:=hb0.lt;have hw0:Fr No w w0:=(by exact frc)))
 all_goals go_ret
 all_goals refine zhz.mk _ ?_ (by exact frc)
 all_goals (first|(left;refine⟨?_,?_⟩<;>((try unfold zhJ at *);(try unfold Hid at *);omega))|(right;refine⟨rfl,?_⟩;((try unfold zhJ at *);(try unfold Hid at *);omega)))
theorem zhL (X:Nat->Prop) (v:Value) (xs:List Fld) (left:Int) (w:World) (h:Sl X w 3 FldC v xs) (h0:0≤left) (h1:left≤1048576):
  Calls Tryz.prog 154 #[v,.int .i64 left] w (zhz (szL zhJ xs) left w):=by
 obtain⟨A,cap,rfl,hcap,hlen⟩:=h.form
 unfold maxLen at hlen
 have hsl:=zgj zhJ xs
 have hsum:szL zhJ xs=xs.length+sumL zhJ xs:=rfl
 have hsl:=Lib.hid hsl
 have hsum:=Lib.hid hsum
 go_enter Tryz.func154,Tryz.ntmps154
 by_cases hl0:(xs.length:Int)≤left
 ·go_wp2
  go_loopw [5,1,4] (fun i l r wr=>∃(k:Nat) (n:Int),k≤xs.length∧i=.int .i64 k∧l=.int .i64 n∧r=.int .i64 0∧0≤n∧n≤1048576∧Hid (n=left-xs.length-sumL zhJ (xs.take k))∧Fr No w wr) (fun i _ _ _=>xs.length-(intOf i).toNat)
  case atStart=>exact⟨0,left-xs.length,Nat.zero_le _,rfl,rfl,rfl,by omega,by omega,by simp[Hid,sumL],Fr.refl _ _⟩
  case round=>
   obtain⟨k,n,hk,rfl,rfl,rfl,hn0,hn1,hn,hf⟩:=hrel
   by_cases hlt:k<xs.length
   ·obtain⟨b,off,rfl,hX,c0,c1,c2,z0,z1⟩:=(h.keep hf (fun _ h=>h.elim) (fun _ _ _ h=>h)).fld hlt
    clear h
    have H:=fun W l (h:Fr No wr W)=>zhK xs[k] _ l W ⟨rfl,z0,z1⟩
    have hst:=Lib.hid (zgg zhJ xs k hlt)
    have hle:=Lib.hid (zgh zhJ xs (k+1))
    generalize xs[k]=x at *
    go_wp2_with (go_at_call 181;refine(H _ _ ?_ ?_ ?_).mono ?_;(focus (exact frc));omega;omega;rintro e w1 ⟨n1,rfl,hn1',hf1⟩)
    ·go_ret
     refine zhz.mk _ ?_ (by exact frc)
     (first|(left;refine⟨?_,?_⟩<;>((try unfold Hid at *);(try unfold Hid at *);omega))|(right;refine⟨rfl,?_⟩;((try unfold Hid at *);(try unfold Hid at *);omega)))
    ·go_roundw
     case rel=>exact⟨k+1,n1,by omega,by go_num,rfl,rfl,by omega,by(simp only[Hid] at *;omega),by(simp only[Hid] at *;omega),by exact frc⟩
     case measure=>simp[intOf];omega
   ·clear h
    have hst:Hid (sumL zhJ (xs.take k)=sumL zhJ xs):=by rw[List.take_of_length_le (by omega)];exact rfl
    go_wp2
    go_ret
    refine zhz.mk _ ?_ (by exact frc)
    (first|(left;refine⟨?_,?_⟩<;>((try unfold Hid at *);(try unfold Hid at *);omega))|(right;refine⟨rfl,?_⟩;((try unfold Hid at *);(try unfold Hid at *);omega)))
 ·go_wp2
  go_ret
  refine zhz.mk _ ?_ (by exact frc)
  (first|(left;refine⟨?_,?_⟩<;>((try unfold Hid at *);(try unfold Hid at *);omega))|(right;refine⟨rfl,?_⟩;((try unfold Hid at *);(try unfold Hid at *);omega)))
def szMp (x:Mp):Nat:=szL zhD x.locals+szL zhD x.stack
theorem zhM (X:Nat->Prop) (x:Mp) (cs:List Value) (left:Int) (w:World) (h:MapC X w cs x) (h0:0≤left) (h1:left≤1048576):
  Calls Tryz.prog 220 #[.agg cs.toArray,.int .i64 left] w (zhz (szMp x) left w):=by
 obtain⟨v_locals,v_stack,rfl,h_locals,h_stack⟩:=h
 have H_locals:=fun W l (h:Fr No w W)=>zhF X _ x.locals l W (h_locals.keep h (fun _ h=>h.elim) (fun _ _ _ h=>h))
 have H_stack:=fun W l (h:Fr No w W)=>zhF X _ x.stack l W (h_stack.keep h (fun _ h=>h.elim) (fun _ _ _ h=>h))
 obtain⟨A_locals,c_locals,rfl,p_locals,q_locals⟩:=h_locals.form
 obtain⟨A_stack,c_stack,rfl,p_stack,q_stack⟩:=h_stack.form
 clear h_locals
 clear h_stack
 go_enter Tryz.func220,Tryz.ntmps220
 have hB:=Bx.new w 295 #[.int .i64 x.at_,.slice A_locals x.locals.length c_locals,.slice A_stack x.stack.length c_stack]
 go_wp2_with (first
  | (go_at_call_of 227 (Value.slice A_locals x.locals.length c_locals);refine(H_locals _ _ ?_ ?_ ?_).mono ?_;(focus (exact frc));omega;omega;rintro e w0 ⟨n0,rfl,hn0,hf0⟩;have hnb0:n0≤1048576:=(by have:=hn0.out;omega);have hb0:=Bx.keepTo w0 hB (by exact frc);obtain⟨e0_0,e0_1,e0_2⟩:=hb0.c3;have hl0:=hb0.lt;have hw0:Fr No w w0:=(by exact frc))
  | (go_at_call_of 227 (Value.slice A_stack x.stack.length c_stack);refine(H_stack _ _ ?_ ?_ ?_).mono ?_;(focus (exact frc));omega;omega;rintro e w1 ⟨n1,rfl,hn1,hf1⟩;have hnb1:n1≤1048576:=(by have:=hn1.out;omega);have hb1:=Bx.keepTo w1 hb0 (by exact frc);obtain⟨e1_0,e1_1,e1_2⟩:=hb1.c3;have hl1:=hb1.lt;have hw1:Fr No w w1:=(by exact frc)))
 all_goals go_ret
 all_goals refine zhz.mk _ ?_ (by exact frc)
 all_goals (first|(left;refine⟨?_,?_⟩<;>((try unfold szMp at *);(try unfold Hid at *);omega))|(right;refine⟨rfl,?_⟩;((try unfold szMp at *);(try unfold Hid at *);omega)))
theorem zhN (X:Nat->Prop) (v:Value) (xs:List Mp) (left:Int) (w:World) (h:Sl X w 3 (MapC X w) v xs) (h0:0≤left) (h1:left≤1048576):
  Calls Tryz.prog 203 #[v,.int .i64 left] w (zhz (szL szMp xs) left w):=by
 obtain⟨A,cap,rfl,hcap,hlen⟩:=h.form
 unfold maxLen at hlen
 have hsl:=zgj szMp xs
 have hsum:szL szMp xs=xs.length+sumL szMp xs:=rfl
 have hsl:=Lib.hid hsl
 have hsum:=Lib.hid hsum
 go_enter Tryz.func203,Tryz.ntmps203
 by_cases hl0:(xs.length:Int)≤left
 ·go_wp2
  go_loopw [5,1,4] (fun i l r wr=>∃(k:Nat) (n:Int),k≤xs.length∧i=.int .i64 k∧l=.int .i64 n∧r=.int .i64 0∧0≤n∧n≤1048576∧Hid (n=left-xs.length-sumL szMp (xs.take k))∧Fr No w wr) (fun i _ _ _=>xs.length-(intOf i).toNat)
  case atStart=>exact⟨0,left-xs.length,Nat.zero_le _,rfl,rfl,rfl,by omega,by omega,by simp[Hid,sumL],Fr.refl _ _⟩
  case round=>
   obtain⟨k,n,hk,rfl,rfl,rfl,hn0,hn1,hn,hf⟩:=hrel
   by_cases hlt:k<xs.length
   ·obtain⟨b,off,A_locals,c_locals,A_stack,c_stack,rfl,hX,c0,c1,c2,h_locals,h_stack,_,_,_,_⟩:=(h.keep hf (fun _ h=>h.elim) (fun _ _ _ h9=>h9.keep hf (fun _ h=>h.elim))).map hlt
    have hR:MapC X wr [.int .i64 xs[k].at_,.slice A_locals xs[k].locals.length c_locals,.slice A_stack xs[k].stack.length c_stack] xs[k]:=⟨_,_,rfl,h_locals,h_stack⟩
    clear h
    have H:=fun W l (h:Fr No wr W)=>zhM X xs[k] _ l W (hR.keep h (fun _ h=>h.elim))
    clear hR
    clear h_locals
    clear h_stack
    have hst:=Lib.hid (zgg szMp xs k hlt)
    have hle:=Lib.hid (zgh szMp xs (k+1))
    generalize xs[k]=x at *
    go_wp2_with (go_at_call 220;refine(H _ _ ?_ ?_ ?_).mono ?_;(focus (exact frc));omega;omega;rintro e w1 ⟨n1,rfl,hn1',hf1⟩)
    ·go_ret
     refine zhz.mk _ ?_ (by exact frc)
     (first|(left;refine⟨?_,?_⟩<;>((try unfold Hid at *);(try unfold Hid at *);omega))|(right;refine⟨rfl,?_⟩;((try unfold Hid at *);(try unfold Hid at *);omega)))
    ·go_roundw
     case rel=>exact⟨k+1,n1,by omega,by go_num,rfl,rfl,by omega,by(simp only[Hid] at *;omega),by(simp only[Hid] at *;omega),by exact frc⟩
     case measure=>simp[intOf];omega
   ·clear h
    have hst:Hid (sumL szMp (xs.take k)=sumL szMp xs):=by rw[List.take_of_length_le (by omega)];exact rfl
    go_wp2
    go_ret
    refine zhz.mk _ ?_ (by exact frc)
    (first|(left;refine⟨?_,?_⟩<;>((try unfold Hid at *);(try unfold Hid at *);omega))|(right;refine⟨rfl,?_⟩;((try unfold Hid at *);(try unfold Hid at *);omega)))
 ·go_wp2
  go_ret
  refine zhz.mk _ ?_ (by exact frc)
  (first|(left;refine⟨?_,?_⟩<;>((try unfold Hid at *);(try unfold Hid at *);omega))|(right;refine⟨rfl,?_⟩;((try unfold Hid at *);(try unfold Hid at *);omega)))
def zhO (x:Mth):Nat:=x.name.size+szL zhA x.args+zhA x.ret+szL zhG x.code+szL szMp x.maps
theorem zhP (X:Nat->Prop) (x:Mth) (cs:List Value) (left:Int) (w:World) (h:MthC X w cs x) (h0:0≤left) (h1:left≤1048576):
  Calls Tryz.prog 182 #[.agg cs.toArray,.int .i64 left] w (zhz (zhO x) left w):=by
 obtain⟨v_args,v_code,v_maps,rfl,hz0,hz1,h_args,h_code,h_maps⟩:=h
 unfold maxLen at hz0
 unfold maxLen at hz1
 have H_args:=fun W l (h:Fr No w W)=>zhC X _ x.args l W (h_args.keep h (fun _ h=>h.elim) (fun _ _ _ h=>h))
 have H_ret:=fun W l (_:Fr No w W)=>zhB x.ret _ l W ⟨rfl,(by unfold maxLen;exact hz1)⟩
 have H_code:=fun W l (h:Fr No w W)=>zhI X _ x.code l W (h_code.keep h (fun _ h=>h.elim) (fun _ _ _ h=>h))
 have H_maps:=fun W l (h:Fr No w W)=>zhN X _ x.maps l W (h_maps.keep h (fun _ h=>h.elim) (fun _ _ _ h9=>h9.keep h (fun _ h=>h.elim)))
 obtain⟨A_args,c_args,rfl,p_args,q_args⟩:=h_args.form
 obtain⟨A_code,c_code,rfl,p_code,q_code⟩:=h_code.form
 obtain⟨A_maps,c_maps,rfl,p_maps,q_maps⟩:=h_maps.form
 clear h_args
 clear h_code
 clear h_maps
 go_enter Tryz.func182,Tryz.ntmps182
 have hB:=Bx.new w 256 #[.string x.name,.slice A_args x.args.length c_args,.int .i64 x.ret.kind,.string x.ret.name,.int .i64 x.locals,.int .i64 x.stack,.slice A_code x.code.length c_code,.slice A_maps x.maps.length c_maps]
 go_wp2_with (first
  | (go_at_call_of 201 (Value.slice A_args x.args.length c_args);refine(H_args _ _ ?_ ?_ ?_).mono ?_;(focus (exact frc));omega;omega;rintro e w0 ⟨n0,rfl,hn0,hf0⟩;have hnb0:n0≤1048576:=(by have:=hn0.out;omega);have hb0:=Bx.keepTo w0 hB (by exact frc);obtain⟨e0_0,e0_1,e0_2,e0_3,e0_4,e0_5,e0_6,e0_7⟩:=hb0.c8;have hl0:=hb0.lt;have hw0:Fr No w w0:=(by exact frc))
  | (go_at_call 200;refine(H_ret _ _ ?_ ?_ ?_).mono ?_;(focus (exact frc));omega;omega;rintro e w1 ⟨n1,rfl,hn1,hf1⟩;have hnb1:n1≤1048576:=(by have:=hn1.out;omega);have hb1:=Bx.keepTo w1 hb0 (by exact frc);obtain⟨e1_0,e1_1,e1_2,e1_3,e1_4,e1_5,e1_6,e1_7⟩:=hb1.c8;have hl1:=hb1.lt;have hw1:Fr No w w1:=(by exact frc))
  | (go_at_call_of 202 (Value.slice A_code x.code.length c_code);refine(H_code _ _ ?_ ?_ ?_).mono ?_;(focus (exact frc));omega;omega;rintro e w2 ⟨n2,rfl,hn2,hf2⟩;have hnb2:n2≤1048576:=(by have:=hn2.out;omega);have hb2:=Bx.keepTo w2 hb1 (by exact frc);obtain⟨e2_0,e2_1,e2_2,e2_3,e2_4,e2_5,e2_6,e2_7⟩:=hb2.c8;have hl2:=hb2.lt;have hw2:Fr No w w2:=(by exact frc))
  | (go_at_call_of 203 (Value.slice A_maps x.maps.length c_maps);refine(H_maps _ _ ?_ ?_ ?_).mono ?_;(focus (exact frc));omega;omega;rintro e w3 ⟨n3,rfl,hn3,hf3⟩;have hnb3:n3≤1048576:=(by have:=hn3.out;omega);have hb3:=Bx.keepTo w3 hb2 (by exact frc);obtain⟨e3_0,e3_1,e3_2,e3_3,e3_4,e3_5,e3_6,e3_7⟩:=hb3.c8;have hl3:=hb3.lt;have hw3:Fr No w w3:=(by exact frc)))
 all_goals go_ret
 all_goals refine zhz.mk _ ?_ (by exact frc)
 all_goals (first|(left;refine⟨?_,?_⟩<;>((try unfold zhO at *);(try unfold Hid at *);omega))|(right;refine⟨rfl,?_⟩;((try unfold zhO at *);(try unfold Hid at *);omega)))
theorem zhQ (X:Nat->Prop) (v:Value) (xs:List Mth) (left:Int) (w:World) (h:Sl X w 8 (MthC X w) v xs) (h0:0≤left) (h1:left≤1048576):
  Calls Tryz.prog 155 #[v,.int .i64 left] w (zhz (szL zhO xs) left w):=by
 obtain⟨A,cap,rfl,hcap,hlen⟩:=h.form
 unfold maxLen at hlen
 have hsl:=zgj zhO xs
 have hsum:szL zhO xs=xs.length+sumL zhO xs:=rfl
 have hsl:=Lib.hid hsl
 have hsum:=Lib.hid hsum
 go_enter Tryz.func155,Tryz.ntmps155
 by_cases hl0:(xs.length:Int)≤left
 ·go_wp2
  go_loopw [5,1,4] (fun i l r wr=>∃(k:Nat) (n:Int),k≤xs.length∧i=.int .i64 k∧l=.int .i64 n∧r=.int .i64 0∧0≤n∧n≤1048576∧Hid (n=left-xs.length-sumL zhO (xs.take k))∧Fr No w wr) (fun i _ _ _=>xs.length-(intOf i).toNat)
  case atStart=>exact⟨0,left-xs.length,Nat.zero_le _,rfl,rfl,rfl,by omega,by omega,by simp[Hid,sumL],Fr.refl _ _⟩
  case round=>
   obtain⟨k,n,hk,rfl,rfl,rfl,hn0,hn1,hn,hf⟩:=hrel
   by_cases hlt:k<xs.length
   ·obtain⟨b,off,A_args,c_args,A_code,c_code,A_maps,c_maps,rfl,hX,c0,c1,c2,c3,c4,c5,c6,c7,z0,z1,h_args,h_code,h_maps,_,_,_,_,_,_⟩:=(h.keep hf (fun _ h=>h.elim) (fun _ _ _ h9=>h9.keep hf (fun _ h=>h.elim))).mth hlt
    have hR:MthC X wr [.string xs[k].name,.slice A_args xs[k].args.length c_args,.int .i64 xs[k].ret.kind,.string xs[k].ret.name,.int .i64 xs[k].locals,.int .i64 xs[k].stack,.slice A_code xs[k].code.length c_code,.slice A_maps xs[k].maps.length c_maps] xs[k]:=⟨_,_,_,rfl,z0,z1,h_args,h_code,h_maps⟩
    clear h
    have H:=fun W l (h:Fr No wr W)=>zhP X xs[k] _ l W (hR.keep h (fun _ h=>h.elim))
    clear hR
    clear h_args
    clear h_code
    clear h_maps
    have hst:=Lib.hid (zgg zhO xs k hlt)
    have hle:=Lib.hid (zgh zhO xs (k+1))
    generalize xs[k]=x at *
    go_wp2_with (go_at_call 182;refine(H _ _ ?_ ?_ ?_).mono ?_;(focus (exact frc));omega;omega;rintro e w1 ⟨n1,rfl,hn1',hf1⟩)
    ·go_ret
     refine zhz.mk _ ?_ (by exact frc)
     (first|(left;refine⟨?_,?_⟩<;>((try unfold Hid at *);(try unfold Hid at *);omega))|(right;refine⟨rfl,?_⟩;((try unfold Hid at *);(try unfold Hid at *);omega)))
    ·go_roundw
     case rel=>exact⟨k+1,n1,by omega,by go_num,rfl,rfl,by omega,by(simp only[Hid] at *;omega),by(simp only[Hid] at *;omega),by exact frc⟩
     case measure=>simp[intOf];omega
   ·clear h
    have hst:Hid (sumL zhO (xs.take k)=sumL zhO xs):=by rw[List.take_of_length_le (by omega)];exact rfl
    go_wp2
    go_ret
    refine zhz.mk _ ?_ (by exact frc)
    (first|(left;refine⟨?_,?_⟩<;>((try unfold Hid at *);(try unfold Hid at *);omega))|(right;refine⟨rfl,?_⟩;((try unfold Hid at *);(try unfold Hid at *);omega)))
 ·go_wp2
  go_ret
  refine zhz.mk _ ?_ (by exact frc)
  (first|(left;refine⟨?_,?_⟩<;>((try unfold Hid at *);(try unfold Hid at *);omega))|(right;refine⟨rfl,?_⟩;((try unfold Hid at *);(try unfold Hid at *);omega)))
def zhR (x:Cls):Nat:=x.name.size+x.super.size+szL zhJ x.fields+szL zhO x.methods
theorem zhS (X:Nat->Prop) (x:Cls) (cs:List Value) (left:Int) (w:World) (h:ClsC X w cs x) (h0:0≤left) (h1:left≤1048576):
  Calls Tryz.prog 112 #[.agg cs.toArray,.int .i64 left] w (zhz (zhR x) left w):=by
 obtain⟨v_fields,v_methods,rfl,hz0,hz1,h_fields,h_methods⟩:=h
 unfold maxLen at hz0
 unfold maxLen at hz1
 have H_fields:=fun W l (h:Fr No w W)=>zhL X _ x.fields l W (h_fields.keep h (fun _ h=>h.elim) (fun _ _ _ h=>h))
 have H_methods:=fun W l (h:Fr No w W)=>zhQ X _ x.methods l W (h_methods.keep h (fun _ h=>h.elim) (fun _ _ _ h9=>h9.keep h (fun _ h=>h.elim)))
 obtain⟨A_fields,c_fields,rfl,p_fields,q_fields⟩:=h_fields.form
 obtain⟨A_methods,c_methods,rfl,p_methods,q_methods⟩:=h_methods.form
 clear h_fields
 clear h_methods
 go_enter Tryz.func112,Tryz.ntmps112
 have hB:=Bx.new w 162 #[.string x.name,.string x.super,.slice A_fields x.fields.length c_fields,.slice A_methods x.methods.length c_methods]
 go_wp2_with (first
  | (go_at_call_of 154 (Value.slice A_fields x.fields.length c_fields);refine(H_fields _ _ ?_ ?_ ?_).mono ?_;(focus (exact frc));omega;omega;rintro e w0 ⟨n0,rfl,hn0,hf0⟩;have hnb0:n0≤1048576:=(by have:=hn0.out;omega);have hb0:=Bx.keepTo w0 hB (by exact frc);obtain⟨e0_0,e0_1,e0_2,e0_3⟩:=hb0.c4;have hl0:=hb0.lt;have hw0:Fr No w w0:=(by exact frc))
  | (go_at_call_of 155 (Value.slice A_methods x.methods.length c_methods);refine(H_methods _ _ ?_ ?_ ?_).mono ?_;(focus (exact frc));omega;omega;rintro e w1 ⟨n1,rfl,hn1,hf1⟩;have hnb1:n1≤1048576:=(by have:=hn1.out;omega);have hb1:=Bx.keepTo w1 hb0 (by exact frc);obtain⟨e1_0,e1_1,e1_2,e1_3⟩:=hb1.c4;have hl1:=hb1.lt;have hw1:Fr No w w1:=(by exact frc)))
 all_goals go_ret
 all_goals refine zhz.mk _ ?_ (by exact frc)
 all_goals (first|(left;refine⟨?_,?_⟩<;>((try unfold zhR at *);(try unfold Hid at *);omega))|(right;refine⟨rfl,?_⟩;((try unfold zhR at *);(try unfold Hid at *);omega)))
end Go.Proofs.YthembcdcdnffeaaGreat
