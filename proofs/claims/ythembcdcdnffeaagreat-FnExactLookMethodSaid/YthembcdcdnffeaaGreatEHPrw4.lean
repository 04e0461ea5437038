/- The laws' marks: all cells of keepers are written over, and nothing else. -/
import Derived.Test.YthembcdcdnffeaaGreatEHPrw3
import Derived.WalkSpells
import Derived.WalkLawsBesides
set_option maxHeartbeats 2000000
set_option maxRecDepth 100000
namespace Go.Proofs.YthembcdcdnffeaaGreat
open Go.RowKit
section
variable {a w:World} {b o:Nat} (lo hi:Nat)
theorem Tw.cI {x:Int} (h:w.cell? ⟨b,o,none⟩=some (.int .i64 x)):Hid (∀W,Tw (fun b=>lo≤b∧b<hi) w W->∃x,W.cell? ⟨b,o,none⟩=some (.int .i64 x)):=fun W hT=>by
 obtain⟨v,h8,h9⟩:=hT.like _ _ _ h
 obtain⟨x,rfl⟩:=h9.int
 exact⟨x,h8⟩
theorem Tw.cS {x:Str} (h:w.cell? ⟨b,o,none⟩=some (.string x)):Hid (∀W,Tw (fun b=>lo≤b∧b<hi) w W->∃x,W.cell? ⟨b,o,none⟩=some (.string x)):=fun W hT=>by
 obtain⟨v,h8,h9⟩:=hT.like _ _ _ h
 obtain⟨x,rfl⟩:=h9.str
 exact⟨x,h8⟩
theorem Tw.cL {A:Option Addr} {n c:Nat} (h:w.cell? ⟨b,o,none⟩=some (.slice A n c)):Hid (∀W,Tw (fun b=>lo≤b∧b<hi) w W->W.cell? ⟨b,o,none⟩=some (.slice A n c)):=fun W hT=>by
 obtain⟨v,h8,h9⟩:=hT.like _ _ _ h
 rwa [h9.sl] at h8
theorem Tw.cI0 {x:Int} (h:w.cell? ⟨b,o+0,none⟩=some (.int .i64 x)):Hid (∀W,Tw (fun b=>lo≤b∧b<hi) w W->∃x,W.cell? ⟨b,o,none⟩=some (.int .i64 x)):=Tw.cI lo hi h
theorem Tw.cS0 {x:Str} (h:w.cell? ⟨b,o+0,none⟩=some (.string x)):Hid (∀W,Tw (fun b=>lo≤b∧b<hi) w W->∃x,W.cell? ⟨b,o,none⟩=some (.string x)):=Tw.cS lo hi h
theorem Tw.cL0 {A:Option Addr} {n c:Nat} (h:w.cell? ⟨b,o+0,none⟩=some (.slice A n c)):Hid (∀W,Tw (fun b=>lo≤b∧b<hi) w W->W.cell? ⟨b,o,none⟩=some (.slice A n c)):=Tw.cL lo hi h
end
theorem Tw.hI {X:Nat->Prop} {a w:World} {b o:Nat} {k':Int} (h:Tw X a w) (hc:Hid (∀W,Tw X a W->∃x,W.cell? ⟨b,o,none⟩=some (.int .i64 x))) (hX:X b):Tw X a (w.setCell ⟨b,o,none⟩ (.int .i64 k')):=h.stepI hc.out hX
theorem Tw.hS {X:Nat->Prop} {a w:World} {b o:Nat} {s':Str} (h:Tw X a w) (hc:Hid (∀W,Tw X a W->∃x,W.cell? ⟨b,o,none⟩=some (.string x))) (hX:X b):Tw X a (w.setCell ⟨b,o,none⟩ (.string s')):=h.stepS hc.out hX
theorem twc {P:Prop} (h:P:=by(repeat(first|assumption|(refine Tw.hI ?_ (by assumption) (by assumption))|(refine Tw.hS ?_ (by assumption) (by assumption))))):P:=h
theorem zpn (lo hi:Nat) (v:Value) (ms:List Nat) (k:Int) (w:World) (h:Sl (fun b=>b<lo∨hi≤b) w 2 KndW v ms) (hun:Unf lo hi w) (h0:0≤k) (hk:k+sumN ms≤1000000000):
  Calls Tryz.prog 151 #[v,.int .i64 k] w (zot lo hi (k+sumN ms) w):=by
 obtain⟨A,cap,rfl,hcap,hlen⟩:=h.form
 unfold maxLen at hlen
 go_enter Tryz.func151,Tryz.ntmps151
 go_wp2
 go_loopw [5,1] (fun i l wr=>∃(j:Nat) (n:Int),j≤ms.length∧i=.int .i64 j∧l=.int .i64 n∧Hid (n=k+sumN (ms.take j))∧Tw (fun b=>lo≤b∧b<hi) w wr) (fun i _ _=>ms.length-(intOf i).toNat)
 case atStart=>exact⟨0,k,Nat.zero_le _,rfl,rfl,by simp[Hid,sumN],Tw.refl _ _⟩
 case round=>
  obtain⟨j,n,hj,rfl,rfl,hn,hT⟩:=hrel
  by_cases hlt:j<ms.length
  ·obtain⟨b,off,cs,rfl,hX,hQ,hc0⟩:=h.cells hlt
   have hst:=zov ms j hlt
   have hle:=zow ms (j+1)
   obtain⟨hm,_,_,rfl⟩:=hQ
   have hc_0:=Tw.cI0 lo hi (hc0 0 _ (by decide) rfl)
   have hc_1:=Tw.cS lo hi (hc0 1 _ (by decide) rfl)
   have hZ:lo≤b∧b<hi:=by omega
   have hfr:∀W,Tw (fun b=>lo≤b∧b<hi) w W->(∀o,W.frozen? ⟨b,o,none⟩=false)∧b<W.heap.size:=fun W hT9=>hun.at_ hT9 hZ
   clear h hc0
   have hn2:=hn.out
   have hb0:0≤n:=by omega
   have hb1:n+ms[j]≤1000000000:=by omega
   clear hn2
   replace hst:=Lib.hid hst
   replace hle:=Lib.hid hle
   replace hm:=Lib.hid hm
   replace hfr:=Lib.hid hfr
   have hb2:n+2≤1000000000:=by have:=hm.out;omega
   obtain⟨qx0,q0⟩:=hc_0.out wr hT
   obtain⟨qx1,q1⟩:=hc_1.out wr hT
   obtain⟨qf,ql⟩:=hfr.out wr hT
   go_wp2_with fail
   refine zdP (fun W=>Tw (fun b=>lo≤b∧b<hi) w W) (by exact twc) ?_
   intro W1 hT1
   clear q0 q1 qf ql
   refine(zoM _ _ (by omega)).mono ?_
   rintro e w1 ⟨rfl,hf1⟩
   have hT1':=hT1.trans (.of0 hf1)
   clear hT1 hf1
   obtain⟨r1_x0,r1_0⟩:=hc_0.out w1 hT1'
   obtain⟨r1_x1,r1_1⟩:=hc_1.out w1 hT1'
   obtain⟨r1_f,r1_l⟩:=hfr.out w1 hT1'
   go_wp2
   go_roundw
   case rel=>exact⟨j+1,_,by omega,by go_num,rfl,by(have h1:=hst.out;have h2:=hn.out;have h3:=hm.out;show _=_;omega),by exact twc⟩
   case measure=>simp[intOf];omega
  ·clear h
   have hs:Hid (n=k+sumN ms):=by have:=hn.out;rwa [List.take_of_length_le (by omega)] at this
   go_wp2
   go_ret
   exact⟨by rw[hs.out];rfl,hT⟩
theorem zpo (lo hi:Nat) (v:Value) (ms:List Nat) (k:Int) (w:World) (h:Sl (fun b=>b<lo∨hi≤b) w 2 TagW v ms) (hun:Unf lo hi w) (h0:0≤k) (hk:k+sumN ms≤1000000000):
  Calls Tryz.prog 37 #[v,.int .i64 k] w (zot lo hi (k+sumN ms) w):=by
 obtain⟨A,cap,rfl,hcap,hlen⟩:=h.form
 unfold maxLen at hlen
 go_enter Tryz.func37,Tryz.ntmps37
 go_wp2
 go_loopw [5,1] (fun i l wr=>∃(j:Nat) (n:Int),j≤ms.length∧i=.int .i64 j∧l=.int .i64 n∧Hid (n=k+sumN (ms.take j))∧Tw (fun b=>lo≤b∧b<hi) w wr) (fun i _ _=>ms.length-(intOf i).toNat)
 case atStart=>exact⟨0,k,Nat.zero_le _,rfl,rfl,by simp[Hid,sumN],Tw.refl _ _⟩
 case round=>
  obtain⟨j,n,hj,rfl,rfl,hn,hT⟩:=hrel
  by_cases hlt:j<ms.length
  ·obtain⟨b,off,cs,rfl,hX,hQ,hc0⟩:=h.cells hlt
   have hst:=zov ms j hlt
   have hle:=zow ms (j+1)
   obtain⟨hm,_,_,rfl⟩:=hQ
   have hc_0:=Tw.cI0 lo hi (hc0 0 _ (by decide) rfl)
   have hc_1:=Tw.cS lo hi (hc0 1 _ (by decide) rfl)
   have hZ:lo≤b∧b<hi:=by omega
   have hfr:∀W,Tw (fun b=>lo≤b∧b<hi) w W->(∀o,W.frozen? ⟨b,o,none⟩=false)∧b<W.heap.size:=fun W hT9=>hun.at_ hT9 hZ
   clear h hc0
   have hn2:=hn.out
   have hb0:0≤n:=by omega
   have hb1:n+ms[j]≤1000000000:=by omega
   clear hn2
   replace hst:=Lib.hid hst
   replace hle:=Lib.hid hle
   replace hm:=Lib.hid hm
   replace hfr:=Lib.hid hfr
   have hb2:n+2≤1000000000:=by have:=hm.out;omega
   obtain⟨qx0,q0⟩:=hc_0.out wr hT
   obtain⟨qx1,q1⟩:=hc_1.out wr hT
   obtain⟨qf,ql⟩:=hfr.out wr hT
   go_wp2_with fail
   refine zdP (fun W=>Tw (fun b=>lo≤b∧b<hi) w W) (by exact twc) ?_
   intro W1 hT1
   clear q0 q1 qf ql
   refine(zoM _ _ (by omega)).mono ?_
   rintro e w1 ⟨rfl,hf1⟩
   have hT1':=hT1.trans (.of0 hf1)
   clear hT1 hf1
   obtain⟨r1_x0,r1_0⟩:=hc_0.out w1 hT1'
   obtain⟨r1_x1,r1_1⟩:=hc_1.out w1 hT1'
   obtain⟨r1_f,r1_l⟩:=hfr.out w1 hT1'
   go_wp2
   go_roundw
   case rel=>exact⟨j+1,_,by omega,by go_num,rfl,by(have h1:=hst.out;have h2:=hn.out;have h3:=hm.out;show _=_;omega),by exact twc⟩
   case measure=>simp[intOf];omega
  ·clear h
   have hs:Hid (n=k+sumN ms):=by have:=hn.out;rwa [List.take_of_length_le (by omega)] at this
   go_wp2
   go_ret
   exact⟨by rw[hs.out];rfl,hT⟩
theorem zpp (lo hi:Nat) (v:Value) (ms:List Nat) (k:Int) (w:World) (h:Sl (fun b=>b<lo∨hi≤b) w 4 InsW v ms) (hun:Unf lo hi w) (h0:0≤k) (hk:k+sumN ms≤1000000000):
  Calls Tryz.prog 152 #[v,.int .i64 k] w (zot lo hi (k+sumN ms) w):=by
 obtain⟨A,cap,rfl,hcap,hlen⟩:=h.form
 unfold maxLen at hlen
 go_enter Tryz.func152,Tryz.ntmps152
 go_wp2
 go_loopw [5,1] (fun i l wr=>∃(j:Nat) (n:Int),j≤ms.length∧i=.int .i64 j∧l=.int .i64 n∧Hid (n=k+sumN (ms.take j))∧Tw (fun b=>lo≤b∧b<hi) w wr) (fun i _ _=>ms.length-(intOf i).toNat)
 case atStart=>exact⟨0,k,Nat.zero_le _,rfl,rfl,by simp[Hid,sumN],Tw.refl _ _⟩
 case round=>
  obtain⟨j,n,hj,rfl,rfl,hn,hT⟩:=hrel
  by_cases hlt:j<ms.length
  ·obtain⟨b,off,cs,rfl,hX,hQ,hc0⟩:=h.cells hlt
   have hst:=zov ms j hlt
   have hle:=zow ms (j+1)
   obtain⟨hm,_,_,_,_,rfl⟩:=hQ
   have hc_0:=Tw.cI0 lo hi (hc0 0 _ (by decide) rfl)
   have hc_1:=Tw.cI lo hi (hc0 1 _ (by decide) rfl)
   have hc_2:=Tw.cS lo hi (hc0 2 _ (by decide) rfl)
   have hc_3:=Tw.cS lo hi (hc0 3 _ (by decide) rfl)
   have hZ:lo≤b∧b<hi:=by omega
   have hfr:∀W,Tw (fun b=>lo≤b∧b<hi) w W->(∀o,W.frozen? ⟨b,o,none⟩=false)∧b<W.heap.size:=fun W hT9=>hun.at_ hT9 hZ
   clear h hc0
   have hn2:=hn.out
   have hb0:0≤n:=by omega
   have hb1:n+ms[j]≤1000000000:=by omega
   clear hn2
   replace hst:=Lib.hid hst
   replace hle:=Lib.hid hle
   replace hm:=Lib.hid hm
   replace hfr:=Lib.hid hfr
   have hb2:n+4≤1000000000:=by have:=hm.out;omega
   obtain⟨qx0,q0⟩:=hc_0.out wr hT
   obtain⟨qx1,q1⟩:=hc_1.out wr hT
   obtain⟨qx2,q2⟩:=hc_2.out wr hT
   obtain⟨qx3,q3⟩:=hc_3.out wr hT
   obtain⟨qf,ql⟩:=hfr.out wr hT
   go_wp2_with fail
   refine zdP (fun W=>Tw (fun b=>lo≤b∧b<hi) w W) (by exact twc) ?_
   intro W1 hT1
   clear q0 q1 q2 q3 qf ql
   refine(zoM _ _ (by omega)).mono ?_
   rintro e w1 ⟨rfl,hf1⟩
   have hT1':=hT1.trans (.of0 hf1)
   clear hT1 hf1
   obtain⟨r1_x0,r1_0⟩:=hc_0.out w1 hT1'
   obtain⟨r1_x1,r1_1⟩:=hc_1.out w1 hT1'
   obtain⟨r1_x2,r1_2⟩:=hc_2.out w1 hT1'
   obtain⟨r1_x3,r1_3⟩:=hc_3.out w1 hT1'
   obtain⟨r1_f,r1_l⟩:=hfr.out w1 hT1'
   go_wp2_with fail
   refine zdP (fun W=>Tw (fun b=>lo≤b∧b<hi) w W) (by exact twc) ?_
   intro W2 hT2
   clear r1_0 r1_1 r1_2 r1_3 r1_f r1_l
   refine(zoM _ _ (by omega)).mono ?_
   rintro e w2 ⟨rfl,hf2⟩
   have hT2':=hT2.trans (.of0 hf2)
   clear hT2 hf2
   obtain⟨r2_x0,r2_0⟩:=hc_0.out w2 hT2'
   obtain⟨r2_x1,r2_1⟩:=hc_1.out w2 hT2'
   obtain⟨r2_x2,r2_2⟩:=hc_2.out w2 hT2'
   obtain⟨r2_x3,r2_3⟩:=hc_3.out w2 hT2'
   obtain⟨r2_f,r2_l⟩:=hfr.out w2 hT2'
   go_wp2
   go_roundw
   case rel=>exact⟨j+1,_,by omega,by go_num,rfl,by(have h1:=hst.out;have h2:=hn.out;have h3:=hm.out;show _=_;omega),by exact twc⟩
   case measure=>simp[intOf];omega
  ·clear h
   have hs:Hid (n=k+sumN ms):=by have:=hn.out;rwa [List.take_of_length_le (by omega)] at this
   go_wp2
   go_ret
   exact⟨by rw[hs.out];rfl,hT⟩
theorem zpq (lo hi:Nat) (v:Value) (ms:List Nat) (k:Int) (w:World) (h:Sl (fun b=>b<lo∨hi≤b) w 3 FldW v ms) (hun:Unf lo hi w) (h0:0≤k) (hk:k+sumN ms≤1000000000):
  Calls Tryz.prog 110 #[v,.int .i64 k] w (zot lo hi (k+sumN ms) w):=by
 obtain⟨A,cap,rfl,hcap,hlen⟩:=h.form
 unfold maxLen at hlen
 go_enter Tryz.func110,Tryz.ntmps110
 go_wp2
 go_loopw [5,1] (fun i l wr=>∃(j:Nat) (n:Int),j≤ms.length∧i=.int .i64 j∧l=.int .i64 n∧Hid (n=k+sumN (ms.take j))∧Tw (fun b=>lo≤b∧b<hi) w wr) (fun i _ _=>ms.length-(intOf i).toNat)
 case atStart=>exact⟨0,k,Nat.zero_le _,rfl,rfl,by simp[Hid,sumN],Tw.refl _ _⟩
 case round=>
  obtain⟨j,n,hj,rfl,rfl,hn,hT⟩:=hrel
  by_cases hlt:j<ms.length
  ·obtain⟨b,off,cs,rfl,hX,hQ,hc0⟩:=h.cells hlt
   have hst:=zov ms j hlt
   have hle:=zow ms (j+1)
   obtain⟨hm,_,_,_,rfl⟩:=hQ
   have hc_0:=Tw.cS0 lo hi (hc0 0 _ (by decide) rfl)
   have hc_1:=Tw.cI lo hi (hc0 1 _ (by decide) rfl)
   have hc_2:=Tw.cS lo hi (hc0 2 _ (by decide) rfl)
   have hZ:lo≤b∧b<hi:=by omega
   have hfr:∀W,Tw (fun b=>lo≤b∧b<hi) w W->(∀o,W.frozen? ⟨b,o,none⟩=false)∧b<W.heap.size:=fun W hT9=>hun.at_ hT9 hZ
   clear h hc0
   have hn2:=hn.out
   have hb0:0≤n:=by omega
   have hb1:n+ms[j]≤1000000000:=by omega
   clear hn2
   replace hst:=Lib.hid hst
   replace hle:=Lib.hid hle
   replace hm:=Lib.hid hm
   replace hfr:=Lib.hid hfr
   have hb2:n+3≤1000000000:=by have:=hm.out;omega
   obtain⟨qx0,q0⟩:=hc_0.out wr hT
   obtain⟨qx1,q1⟩:=hc_1.out wr hT
   obtain⟨qx2,q2⟩:=hc_2.out wr hT
   obtain⟨qf,ql⟩:=hfr.out wr hT
   go_wp2_with fail
   refine zdP (fun W=>Tw (fun b=>lo≤b∧b<hi) w W) (by exact twc) ?_
   intro W1 hT1
   clear q0 q1 q2 qf ql
   refine(zoM _ _ (by omega)).mono ?_
   rintro e w1 ⟨rfl,hf1⟩
   have hT1':=hT1.trans (.of0 hf1)
   clear hT1 hf1
   obtain⟨r1_x0,r1_0⟩:=hc_0.out w1 hT1'
   obtain⟨r1_x1,r1_1⟩:=hc_1.out w1 hT1'
   obtain⟨r1_x2,r1_2⟩:=hc_2.out w1 hT1'
   obtain⟨r1_f,r1_l⟩:=hfr.out w1 hT1'
   go_wp2_with fail
   refine zdP (fun W=>Tw (fun b=>lo≤b∧b<hi) w W) (by exact twc) ?_
   intro W2 hT2
   clear r1_0 r1_1 r1_2 r1_f r1_l
   refine(zoM _ _ (by omega)).mono ?_
   rintro e w2 ⟨rfl,hf2⟩
   have hT2':=hT2.trans (.of0 hf2)
   clear hT2 hf2
   obtain⟨r2_x0,r2_0⟩:=hc_0.out w2 hT2'
   obtain⟨r2_x1,r2_1⟩:=hc_1.out w2 hT2'
   obtain⟨r2_x2,r2_2⟩:=hc_2.out w2 hT2'
   obtain⟨r2_f,r2_l⟩:=hfr.out w2 hT2'
   go_wp2
   go_roundw
   case rel=>exact⟨j+1,_,by omega,by go_num,rfl,by(have h1:=hst.out;have h2:=hn.out;have h3:=hm.out;show _=_;omega),by exact twc⟩
   case measure=>simp[intOf];omega
  ·clear h
   have hs:Hid (n=k+sumN ms):=by have:=hn.out;rwa [List.take_of_length_le (by omega)] at this
   go_wp2
   go_ret
   exact⟨by rw[hs.out];rfl,hT⟩
theorem zpr (lo hi:Nat) (v:Value) (ms:List Nat) (k:Int) (w:World) (h:Sl (fun b=>b<lo∨hi≤b) w 2 AskW v ms) (hun:Unf lo hi w) (h0:0≤k) (hk:k+sumN ms≤1000000000):
  Calls Tryz.prog 65 #[v,.int .i64 k] w (zot lo hi (k+sumN ms) w):=by
 obtain⟨A,cap,rfl,hcap,hlen⟩:=h.form
 unfold maxLen at hlen
 go_enter Tryz.func65,Tryz.ntmps65
 go_wp2
 go_loopw [5,1] (fun i l wr=>∃(j:Nat) (n:Int),j≤ms.length∧i=.int .i64 j∧l=.int .i64 n∧Hid (n=k+sumN (ms.take j))∧Tw (fun b=>lo≤b∧b<hi) w wr) (fun i _ _=>ms.length-(intOf i).toNat)
 case atStart=>exact⟨0,k,Nat.zero_le _,rfl,rfl,by simp[Hid,sumN],Tw.refl _ _⟩
 case round=>
  obtain⟨j,n,hj,rfl,rfl,hn,hT⟩:=hrel
  by_cases hlt:j<ms.length
  ·obtain⟨b,off,cs,rfl,hX,hQ,hc0⟩:=h.cells hlt
   have hst:=zov ms j hlt
   have hle:=zow ms (j+1)
   obtain⟨hm,_,_,rfl⟩:=hQ
   have hc_0:=Tw.cS0 lo hi (hc0 0 _ (by decide) rfl)
   have hc_1:=Tw.cI lo hi (hc0 1 _ (by decide) rfl)
   have hZ:lo≤b∧b<hi:=by omega
   have hfr:∀W,Tw (fun b=>lo≤b∧b<hi) w W->(∀o,W.frozen? ⟨b,o,none⟩=false)∧b<W.heap.size:=fun W hT9=>hun.at_ hT9 hZ
   clear h hc0
   have hn2:=hn.out
   have hb0:0≤n:=by omega
   have hb1:n+ms[j]≤1000000000:=by omega
   clear hn2
   replace hst:=Lib.hid hst
   replace hle:=Lib.hid hle
   replace hm:=Lib.hid hm
   replace hfr:=Lib.hid hfr
   have hb2:n+2≤1000000000:=by have:=hm.out;omega
   obtain⟨qx0,q0⟩:=hc_0.out wr hT
   obtain⟨qx1,q1⟩:=hc_1.out wr hT
   obtain⟨qf,ql⟩:=hfr.out wr hT
   go_wp2_with fail
   refine zdP (fun W=>Tw (fun b=>lo≤b∧b<hi) w W) (by exact twc) ?_
   intro W1 hT1
   clear q0 q1 qf ql
   refine(zoM _ _ (by omega)).mono ?_
   rintro e w1 ⟨rfl,hf1⟩
   have hT1':=hT1.trans (.of0 hf1)
   clear hT1 hf1
   obtain⟨r1_x0,r1_0⟩:=hc_0.out w1 hT1'
   obtain⟨r1_x1,r1_1⟩:=hc_1.out w1 hT1'
   obtain⟨r1_f,r1_l⟩:=hfr.out w1 hT1'
   go_wp2
   go_roundw
   case rel=>exact⟨j+1,_,by omega,by go_num,rfl,by(have h1:=hst.out;have h2:=hn.out;have h3:=hm.out;show _=_;omega),by exact twc⟩
   case measure=>simp[intOf];omega
  ·clear h
   have hs:Hid (n=k+sumN ms):=by have:=hn.out;rwa [List.take_of_length_le (by omega)] at this
   go_wp2
   go_ret
   exact⟨by rw[hs.out];rfl,hT⟩
theorem zps (lo hi:Nat) (v:Value) (ms:List Nat) (k:Int) (w:World) (h:Sl (fun b=>b<lo∨hi≤b) w 3 (MapW (fun b=>b<lo∨hi≤b) w) v ms) (hun:Unf lo hi w) (h0:0≤k) (hk:k+sumN ms≤1000000000):
  Calls Tryz.prog 153 #[v,.int .i64 k] w (zot lo hi (k+sumN ms) w):=by
 obtain⟨A,cap,rfl,hcap,hlen⟩:=h.form
 unfold maxLen at hlen
 go_enter Tryz.func153,Tryz.ntmps153
 go_wp2
 go_loopw [5,1] (fun i l wr=>∃(j:Nat) (n:Int),j≤ms.length∧i=.int .i64 j∧l=.int .i64 n∧Hid (n=k+sumN (ms.take j))∧Tw (fun b=>lo≤b∧b<hi) w wr) (fun i _ _=>ms.length-(intOf i).toNat)
 case atStart=>exact⟨0,k,Nat.zero_le _,rfl,rfl,by simp[Hid,sumN],Tw.refl _ _⟩
 case round=>
  obtain⟨j,n,hj,rfl,rfl,hn,hT⟩:=hrel
  by_cases hlt:j<ms.length
  ·obtain⟨b,off,cs,rfl,hX,hQ,hc0⟩:=h.cells hlt
   have hst:=zov ms j hlt
   have hle:=zow ms (j+1)
   obtain⟨_,_,_,m0,m1,rfl,s1,s2,hm⟩:=hQ
   obtain⟨A1,c1,rfl,_,_⟩:=s1.form
   obtain⟨A2,c2,rfl,_,_⟩:=s2.form
   have hS1:=Lib.hid fun W (hT9:Tw (fun b=>lo≤b∧b<hi) w W)=>s1.tw (R':=TagW) hT9 (fun _ _ _ _ h9 a9 b9=>h9.lk a9 b9)
   have hS2:=Lib.hid fun W (hT9:Tw (fun b=>lo≤b∧b<hi) w W)=>s2.tw (R':=TagW) hT9 (fun _ _ _ _ h9 a9 b9=>h9.lk a9 b9)
   have hc_0:=Tw.cI0 lo hi (hc0 0 _ (by decide) rfl)
   have hc_1:=Tw.cL lo hi (hc0 1 _ (by decide) rfl)
   have hc_2:=Tw.cL lo hi (hc0 2 _ (by decide) rfl)
   have hZ:lo≤b∧b<hi:=by omega
   have hfr:∀W,Tw (fun b=>lo≤b∧b<hi) w W->(∀o,W.frozen? ⟨b,o,none⟩=false)∧b<W.heap.size:=fun W hT9=>hun.at_ hT9 hZ
   clear h hc0 s1 s2
   have hn2:=hn.out
   have hb0:0≤n:=by omega
   have hb1:n+ms[j]≤1000000000:=by omega
   clear hn2
   replace hst:=Lib.hid hst
   replace hle:=Lib.hid hle
   replace hm:=Lib.hid hm
   replace hfr:=Lib.hid hfr
   have hb2:n+1+(sumN m0:Int)+(sumN m1:Int)≤1000000000:=by have:=hm.out;omega
   obtain⟨qx0,q0⟩:=hc_0.out wr hT
   have q1:=hc_1.out wr hT
   have q2:=hc_2.out wr hT
   obtain⟨qf,ql⟩:=hfr.out wr hT
   go_wp2_with fail
   refine zdP (fun W=>Tw (fun b=>lo≤b∧b<hi) w W) (by exact twc) ?_
   intro W1 hT1
   clear q0 q1 q2 qf ql
   refine(zpo lo hi _ m0 _ W1 (hS1.out W1 hT1) (hun.tw hT1) (by omega) (by have:=hm.out;omega)).mono ?_
   rintro e w1 ⟨rfl,hf1⟩
   have hT1':=hT1.trans hf1
   clear hT1 hf1
   obtain⟨r1_x0,r1_0⟩:=hc_0.out w1 hT1'
   have r1_1:=hc_1.out w1 hT1'
   have r1_2:=hc_2.out w1 hT1'
   obtain⟨r1_f,r1_l⟩:=hfr.out w1 hT1'
   go_wp2_with fail
   refine zdP (fun W=>Tw (fun b=>lo≤b∧b<hi) w W) (by exact twc) ?_
   intro W2 hT2
   clear r1_0 r1_1 r1_2 r1_f r1_l
   refine(zpo lo hi _ m1 _ W2 (hS2.out W2 hT2) (hun.tw hT2) (by omega) (by have:=hm.out;omega)).mono ?_
   rintro e w2 ⟨rfl,hf2⟩
   have hT2':=hT2.trans hf2
   clear hT2 hf2
   obtain⟨r2_x0,r2_0⟩:=hc_0.out w2 hT2'
   have r2_1:=hc_1.out w2 hT2'
   have r2_2:=hc_2.out w2 hT2'
   obtain⟨r2_f,r2_l⟩:=hfr.out w2 hT2'
   go_wp2
   go_roundw
   case rel=>exact⟨j+1,_,by omega,by go_num,rfl,by(have h1:=hst.out;have h2:=hn.out;have h3:=hm.out;show _=_;omega),by exact twc⟩
   case measure=>simp[intOf];omega
  ·clear h
   have hs:Hid (n=k+sumN ms):=by have:=hn.out;rwa [List.take_of_length_le (by omega)] at this
   go_wp2
   go_ret
   exact⟨by rw[hs.out];rfl,hT⟩
theorem zpt (lo hi:Nat) (v:Value) (ms:List Nat) (k:Int) (w:World) (h:Sl (fun b=>b<lo∨hi≤b) w 8 (MthW (fun b=>b<lo∨hi≤b) w) v ms) (hun:Unf lo hi w) (h0:0≤k) (hk:k+sumN ms≤1000000000):
  Calls Tryz.prog 111 #[v,.int .i64 k] w (zot lo hi (k+sumN ms) w):=by
 obtain⟨A,cap,rfl,hcap,hlen⟩:=h.form
 unfold maxLen at hlen
 go_enter Tryz.func111,Tryz.ntmps111
 go_wp2
 go_loopw [5,1] (fun i l wr=>∃(j:Nat) (n:Int),j≤ms.length∧i=.int .i64 j∧l=.int .i64 n∧Hid (n=k+sumN (ms.take j))∧Tw (fun b=>lo≤b∧b<hi) w wr) (fun i _ _=>ms.length-(intOf i).toNat)
 case atStart=>exact⟨0,k,Nat.zero_le _,rfl,rfl,by simp[Hid,sumN],Tw.refl _ _⟩
 case round=>
  obtain⟨j,n,hj,rfl,rfl,hn,hT⟩:=hrel
  by_cases hlt:j<ms.length
  ·obtain⟨b,off,cs,rfl,hX,hQ,hc0⟩:=h.cells hlt
   have hst:=zov ms j hlt
   have hle:=zow ms (j+1)
   obtain⟨_,_,_,_,_,_,_,_,m0,m1,m2,rfl,s1,s6,s7,hm⟩:=hQ
   obtain⟨A1,c1,rfl,_,_⟩:=s1.form
   obtain⟨A6,c6,rfl,_,_⟩:=s6.form
   obtain⟨A7,c7,rfl,_,_⟩:=s7.form
   have hS1:=Lib.hid fun W (hT9:Tw (fun b=>lo≤b∧b<hi) w W)=>s1.tw (R':=KndW) hT9 (fun _ _ _ _ h9 a9 b9=>h9.lk a9 b9)
   have hS6:=Lib.hid fun W (hT9:Tw (fun b=>lo≤b∧b<hi) w W)=>s6.tw (R':=InsW) hT9 (fun _ _ _ _ h9 a9 b9=>h9.lk a9 b9)
   have hS7:=Lib.hid fun W (hT9:Tw (fun b=>lo≤b∧b<hi) w W)=>s7.tw (R':=(MapW (fun b=>b<lo∨hi≤b) W)) hT9 (fun _ _ _ _ h9 a9 b9=>h9.lk hT9 a9 b9)
   have hc_0:=Tw.cS0 lo hi (hc0 0 _ (by decide) rfl)
   have hc_1:=Tw.cL lo hi (hc0 1 _ (by decide) rfl)
   have hc_2:=Tw.cI lo hi (hc0 2 _ (by decide) rfl)
   have hc_3:=Tw.cS lo hi (hc0 3 _ (by decide) rfl)
   have hc_4:=Tw.cI lo hi (hc0 4 _ (by decide) rfl)
   have hc_5:=Tw.cI lo hi (hc0 5 _ (by decide) rfl)
   have hc_6:=Tw.cL lo hi (hc0 6 _ (by decide) rfl)
   have hc_7:=Tw.cL lo hi (hc0 7 _ (by decide) rfl)
   have hZ:lo≤b∧b<hi:=by omega
   have hfr:∀W,Tw (fun b=>lo≤b∧b<hi) w W->(∀o,W.frozen? ⟨b,o,none⟩=false)∧b<W.heap.size:=fun W hT9=>hun.at_ hT9 hZ
   clear h hc0 s1 s6 s7
   have hn2:=hn.out
   have hb0:0≤n:=by omega
   have hb1:n+ms[j]≤1000000000:=by omega
   clear hn2
   replace hst:=Lib.hid hst
   replace hle:=Lib.hid hle
   replace hm:=Lib.hid hm
   replace hfr:=Lib.hid hfr
   have hb2:n+5+(sumN m0:Int)+(sumN m1:Int)+(sumN m2:Int)≤1000000000:=by have:=hm.out;omega
   obtain⟨qx0,q0⟩:=hc_0.out wr hT
   have q1:=hc_1.out wr hT
   obtain⟨qx2,q2⟩:=hc_2.out wr hT
   obtain⟨qx3,q3⟩:=hc_3.out wr hT
   obtain⟨qx4,q4⟩:=hc_4.out wr hT
   obtain⟨qx5,q5⟩:=hc_5.out wr hT
   have q6:=hc_6.out wr hT
   have q7:=hc_7.out wr hT
   obtain⟨qf,ql⟩:=hfr.out wr hT
   go_wp2_with fail
   refine zdP (fun W=>Tw (fun b=>lo≤b∧b<hi) w W) (by exact twc) ?_
   intro W1 hT1
   clear q0 q1 q2 q3 q4 q5 q6 q7 qf ql
   refine(zoM _ _ (by have:=hm.out;omega)).mono ?_
   rintro e w1 ⟨rfl,hf1⟩
   have hT1':=hT1.trans (.of0 hf1)
   clear hT1 hf1
   obtain⟨r1_x0,r1_0⟩:=hc_0.out w1 hT1'
   have r1_1:=hc_1.out w1 hT1'
   obtain⟨r1_x2,r1_2⟩:=hc_2.out w1 hT1'
   obtain⟨r1_x3,r1_3⟩:=hc_3.out w1 hT1'
   obtain⟨r1_x4,r1_4⟩:=hc_4.out w1 hT1'
   obtain⟨r1_x5,r1_5⟩:=hc_5.out w1 hT1'
   have r1_6:=hc_6.out w1 hT1'
   have r1_7:=hc_7.out w1 hT1'
   obtain⟨r1_f,r1_l⟩:=hfr.out w1 hT1'
   go_wp2_with fail
   refine zdP (fun W=>Tw (fun b=>lo≤b∧b<hi) w W) (by exact twc) ?_
   intro W2 hT2
   clear r1_0 r1_1 r1_2 r1_3 r1_4 r1_5 r1_6 r1_7 r1_f r1_l
   refine(zpn lo hi _ m0 _ W2 (hS1.out W2 hT2) (hun.tw hT2) (by omega) (by have:=hm.out;omega)).mono ?_
   rintro e w2 ⟨rfl,hf2⟩
   have hT2':=hT2.trans hf2
   clear hT2 hf2
   obtain⟨r2_x0,r2_0⟩:=hc_0.out w2 hT2'
   have r2_1:=hc_1.out w2 hT2'
   obtain⟨r2_x2,r2_2⟩:=hc_2.out w2 hT2'
   obtain⟨r2_x3,r2_3⟩:=hc_3.out w2 hT2'
   obtain⟨r2_x4,r2_4⟩:=hc_4.out w2 hT2'
   obtain⟨r2_x5,r2_5⟩:=hc_5.out w2 hT2'
   have r2_6:=hc_6.out w2 hT2'
   have r2_7:=hc_7.out w2 hT2'
   obtain⟨r2_f,r2_l⟩:=hfr.out w2 hT2'
   go_wp2_with fail
   refine zdP (fun W=>Tw (fun b=>lo≤b∧b<hi) w W) (by exact twc) ?_
   intro W3 hT3
   clear r2_0 r2_1 r2_2 r2_3 r2_4 r2_5 r2_6 r2_7 r2_f r2_l
   refine(zoM _ _ (by have:=hm.out;omega)).mono ?_
   rintro e w3 ⟨rfl,hf3⟩
   have hT3':=hT3.trans (.of0 hf3)
   clear hT3 hf3
   obtain⟨r3_x0,r3_0⟩:=hc_0.out w3 hT3'
   have r3_1:=hc_1.out w3 hT3'
   obtain⟨r3_x2,r3_2⟩:=hc_2.out w3 hT3'
   obtain⟨r3_x3,r3_3⟩:=hc_3.out w3 hT3'
   obtain⟨r3_x4,r3_4⟩:=hc_4.out w3 hT3'
   obtain⟨r3_x5,r3_5⟩:=hc_5.out w3 hT3'
   have r3_6:=hc_6.out w3 hT3'
   have r3_7:=hc_7.out w3 hT3'
   obtain⟨r3_f,r3_l⟩:=hfr.out w3 hT3'
   go_wp2_with fail
   refine zdP (fun W=>Tw (fun b=>lo≤b∧b<hi) w W) (by exact twc) ?_
   intro W4 hT4
   clear r3_0 r3_1 r3_2 r3_3 r3_4 r3_5 r3_6 r3_7 r3_f r3_l
   refine(zpp lo hi _ m1 _ W4 (hS6.out W4 hT4) (hun.tw hT4) (by omega) (by have:=hm.out;omega)).mono ?_
   rintro e w4 ⟨rfl,hf4⟩
   have hT4':=hT4.trans hf4
   clear hT4 hf4
   obtain⟨r4_x0,r4_0⟩:=hc_0.out w4 hT4'
   have r4_1:=hc_1.out w4 hT4'
   obtain⟨r4_x2,r4_2⟩:=hc_2.out w4 hT4'
   obtain⟨r4_x3,r4_3⟩:=hc_3.out w4 hT4'
   obtain⟨r4_x4,r4_4⟩:=hc_4.out w4 hT4'
   obtain⟨r4_x5,r4_5⟩:=hc_5.out w4 hT4'
   have r4_6:=hc_6.out w4 hT4'
   have r4_7:=hc_7.out w4 hT4'
   obtain⟨r4_f,r4_l⟩:=hfr.out w4 hT4'
   go_wp2_with fail
   refine zdP (fun W=>Tw (fun b=>lo≤b∧b<hi) w W) (by exact twc) ?_
   intro W5 hT5
   clear r4_0 r4_1 r4_2 r4_3 r4_4 r4_5 r4_6 r4_7 r4_f r4_l
   refine(zps lo hi _ m2 _ W5 (hS7.out W5 hT5) (hun.tw hT5) (by omega) (by have:=hm.out;omega)).mono ?_
   rintro e w5 ⟨rfl,hf5⟩
   have hT5':=hT5.trans hf5
   clear hT5 hf5
   obtain⟨r5_x0,r5_0⟩:=hc_0.out w5 hT5'
   have r5_1:=hc_1.out w5 hT5'
   obtain⟨r5_x2,r5_2⟩:=hc_2.out w5 hT5'
   obtain⟨r5_x3,r5_3⟩:=hc_3.out w5 hT5'
   obtain⟨r5_x4,r5_4⟩:=hc_4.out w5 hT5'
   obtain⟨r5_x5,r5_5⟩:=hc_5.out w5 hT5'
   have r5_6:=hc_6.out w5 hT5'
   have r5_7:=hc_7.out w5 hT5'
   obtain⟨r5_f,r5_l⟩:=hfr.out w5 hT5'
   go_wp2
   go_roundw
   case rel=>exact⟨j+1,_,by omega,by go_num,rfl,by(have h1:=hst.out;have h2:=hn.out;have h3:=hm.out;show _=_;omega),by exact twc⟩
   case measure=>simp[intOf];omega
  ·clear h
   have hs:Hid (n=k+sumN ms):=by have:=hn.out;rwa [List.take_of_length_le (by omega)] at this
   go_wp2
   go_ret
   exact⟨by rw[hs.out];rfl,hT⟩
theorem zpu (lo hi:Nat) (v:Value) (ms:List Nat) (k:Int) (w:World) (h:Sl (fun b=>b<lo∨hi≤b) w 4 (ClsW (fun b=>b<lo∨hi≤b) w) v ms) (hun:Unf lo hi w) (h0:0≤k) (hk:k+sumN ms≤1000000000):
  Calls Tryz.prog 64 #[v,.int .i64 k] w (zot lo hi (k+sumN ms) w):=by
 obtain⟨A,cap,rfl,hcap,hlen⟩:=h.form
 unfold maxLen at hlen
 go_enter Tryz.func64,Tryz.ntmps64
 go_wp2
 go_loopw [5,1] (fun i l wr=>∃(j:Nat) (n:Int),j≤ms.length∧i=.int .i64 j∧l=.int .i64 n∧Hid (n=k+sumN (ms.take j))∧Tw (fun b=>lo≤b∧b<hi) w wr) (fun i _ _=>ms.length-(intOf i).toNat)
 case atStart=>exact⟨0,k,Nat.zero_le _,rfl,rfl,by simp[Hid,sumN],Tw.refl _ _⟩
 case round=>
  obtain⟨j,n,hj,rfl,rfl,hn,hT⟩:=hrel
  by_cases hlt:j<ms.length
  ·obtain⟨b,off,cs,rfl,hX,hQ,hc0⟩:=h.cells hlt
   have hst:=zov ms j hlt
   have hle:=zow ms (j+1)
   obtain⟨_,_,_,_,m0,m1,rfl,s2,s3,hm⟩:=hQ
   obtain⟨A2,c2,rfl,_,_⟩:=s2.form
   obtain⟨A3,c3,rfl,_,_⟩:=s3.form
   have hS2:=Lib.hid fun W (hT9:Tw (fun b=>lo≤b∧b<hi) w W)=>s2.tw (R':=FldW) hT9 (fun _ _ _ _ h9 a9 b9=>h9.lk a9 b9)
   have hS3:=Lib.hid fun W (hT9:Tw (fun b=>lo≤b∧b<hi) w W)=>s3.tw (R':=(MthW (fun b=>b<lo∨hi≤b) W)) hT9 (fun _ _ _ _ h9 a9 b9=>h9.lk hT9 a9 b9)
   have hc_0:=Tw.cS0 lo hi (hc0 0 _ (by decide) rfl)
   have hc_1:=Tw.cS lo hi (hc0 1 _ (by decide) rfl)
   have hc_2:=Tw.cL lo hi (hc0 2 _ (by decide) rfl)
   have hc_3:=Tw.cL lo hi (hc0 3 _ (by decide) rfl)
   have hZ:lo≤b∧b<hi:=by omega
   have hfr:∀W,Tw (fun b=>lo≤b∧b<hi) w W->(∀o,W.frozen? ⟨b,o,none⟩=false)∧b<W.heap.size:=fun W hT9=>hun.at_ hT9 hZ
   clear h hc0 s2 s3
   have hn2:=hn.out
   have hb0:0≤n:=by omega
   have hb1:n+ms[j]≤1000000000:=by omega
   clear hn2
   replace hst:=Lib.hid hst
   replace hle:=Lib.hid hle
   replace hm:=Lib.hid hm
   replace hfr:=Lib.hid hfr
   have hb2:n+2+(sumN m0:Int)+(sumN m1:Int)≤1000000000:=by have:=hm.out;omega
   obtain⟨qx0,q0⟩:=hc_0.out wr hT
   obtain⟨qx1,q1⟩:=hc_1.out wr hT
   have q2:=hc_2.out wr hT
   have q3:=hc_3.out wr hT
   obtain⟨qf,ql⟩:=hfr.out wr hT
   go_wp2_with fail
   refine zdP (fun W=>Tw (fun b=>lo≤b∧b<hi) w W) (by exact twc) ?_
   intro W1 hT1
   clear q0 q1 q2 q3 qf ql
   refine(zoM _ _ (by have:=hm.out;omega)).mono ?_
   rintro e w1 ⟨rfl,hf1⟩
   have hT1':=hT1.trans (.of0 hf1)
   clear hT1 hf1
   obtain⟨r1_x0,r1_0⟩:=hc_0.out w1 hT1'
   obtain⟨r1_x1,r1_1⟩:=hc_1.out w1 hT1'
   have r1_2:=hc_2.out w1 hT1'
   have r1_3:=hc_3.out w1 hT1'
   obtain⟨r1_f,r1_l⟩:=hfr.out w1 hT1'
   go_wp2_with fail
   refine zdP (fun W=>Tw (fun b=>lo≤b∧b<hi) w W) (by exact twc) ?_
   intro W2 hT2
   clear r1_0 r1_1 r1_2 r1_3 r1_f r1_l
   refine(zoM _ _ (by have:=hm.out;omega)).mono ?_
   rintro e w2 ⟨rfl,hf2⟩
   have hT2':=hT2.trans (.of0 hf2)
   clear hT2 hf2
   obtain⟨r2_x0,r2_0⟩:=hc_0.out w2 hT2'
   obtain⟨r2_x1,r2_1⟩:=hc_1.out w2 hT2'
   have r2_2:=hc_2.out w2 hT2'
   have r2_3:=hc_3.out w2 hT2'
   obtain⟨r2_f,r2_l⟩:=hfr.out w2 hT2'
   go_wp2_with fail
   refine zdP (fun W=>Tw (fun b=>lo≤b∧b<hi) w W) (by exact twc) ?_
   intro W3 hT3
   clear r2_0 r2_1 r2_2 r2_3 r2_f r2_l
   refine(zpq lo hi _ m0 _ W3 (hS2.out W3 hT3) (hun.tw hT3) (by omega) (by have:=hm.out;omega)).mono ?_
   rintro e w3 ⟨rfl,hf3⟩
   have hT3':=hT3.trans hf3
   clear hT3 hf3
   obtain⟨r3_x0,r3_0⟩:=hc_0.out w3 hT3'
   obtain⟨r3_x1,r3_1⟩:=hc_1.out w3 hT3'
   have r3_2:=hc_2.out w3 hT3'
   have r3_3:=hc_3.out w3 hT3'
   obtain⟨r3_f,r3_l⟩:=hfr.out w3 hT3'
   go_wp2_with fail
   refine zdP (fun W=>Tw (fun b=>lo≤b∧b<hi) w W) (by exact twc) ?_
   intro W4 hT4
   clear r3_0 r3_1 r3_2 r3_3 r3_f r3_l
   refine(zpt lo hi _ m1 _ W4 (hS3.out W4 hT4) (hun.tw hT4) (by omega) (by have:=hm.out;omega)).mono ?_
   rintro e w4 ⟨rfl,hf4⟩
   have hT4':=hT4.trans hf4
   clear hT4 hf4
   obtain⟨r4_x0,r4_0⟩:=hc_0.out w4 hT4'
   obtain⟨r4_x1,r4_1⟩:=hc_1.out w4 hT4'
   have r4_2:=hc_2.out w4 hT4'
   have r4_3:=hc_3.out w4 hT4'
   obtain⟨r4_f,r4_l⟩:=hfr.out w4 hT4'
   go_wp2
   go_roundw
   case rel=>exact⟨j+1,_,by omega,by go_num,rfl,by(have h1:=hst.out;have h2:=hn.out;have h3:=hm.out;show _=_;omega),by exact twc⟩
   case measure=>simp[intOf];omega
  ·clear h
   have hs:Hid (n=k+sumN ms):=by have:=hn.out;rwa [List.take_of_length_le (by omega)] at this
   go_wp2
   go_ret
   exact⟨by rw[hs.out];rfl,hT⟩
theorem zpv (lo hi:Nat) (v:Value) (ms:List Nat) (k:Int) (w:World) (h:Sl (fun b=>b<lo∨hi≤b) w 2 (KprW (fun b=>b<lo∨hi≤b) w) v ms) (hun:Unf lo hi w) (h0:0≤k) (hk:k+sumN ms≤1000000000):
  Calls Tryz.prog 36 #[v,.int .i64 k] w (zot lo hi (k+sumN ms) w):=by
 obtain⟨A,cap,rfl,hcap,hlen⟩:=h.form
 unfold maxLen at hlen
 go_enter Tryz.func36,Tryz.ntmps36
 go_wp2
 go_loopw [5,1] (fun i l wr=>∃(j:Nat) (n:Int),j≤ms.length∧i=.int .i64 j∧l=.int .i64 n∧Hid (n=k+sumN (ms.take j))∧Tw (fun b=>lo≤b∧b<hi) w wr) (fun i _ _=>ms.length-(intOf i).toNat)
 case atStart=>exact⟨0,k,Nat.zero_le _,rfl,rfl,by simp[Hid,sumN],Tw.refl _ _⟩
 case round=>
  obtain⟨j,n,hj,rfl,rfl,hn,hT⟩:=hrel
  by_cases hlt:j<ms.length
  ·obtain⟨b,off,cs,rfl,hX,hQ,hc0⟩:=h.cells hlt
   have hst:=zov ms j hlt
   have hle:=zow ms (j+1)
   obtain⟨_,_,m0,m1,rfl,s0,s1,hm⟩:=hQ
   obtain⟨A0,c0,rfl,_,_⟩:=s0.form
   obtain⟨A1,c1,rfl,_,_⟩:=s1.form
   have hS0:=Lib.hid fun W (hT9:Tw (fun b=>lo≤b∧b<hi) w W)=>s0.tw (R':=(ClsW (fun b=>b<lo∨hi≤b) W)) hT9 (fun _ _ _ _ h9 a9 b9=>h9.lk hT9 a9 b9)
   have hS1:=Lib.hid fun W (hT9:Tw (fun b=>lo≤b∧b<hi) w W)=>s1.tw (R':=AskW) hT9 (fun _ _ _ _ h9 a9 b9=>h9.lk a9 b9)
   have hc_0:=Tw.cL0 lo hi (hc0 0 _ (by decide) rfl)
   have hc_1:=Tw.cL lo hi (hc0 1 _ (by decide) rfl)
   have hZ:lo≤b∧b<hi:=by omega
   have hfr:∀W,Tw (fun b=>lo≤b∧b<hi) w W->(∀o,W.frozen? ⟨b,o,none⟩=false)∧b<W.heap.size:=fun W hT9=>hun.at_ hT9 hZ
   clear h hc0 s0 s1
   have hn2:=hn.out
   have hb0:0≤n:=by omega
   have hb1:n+ms[j]≤1000000000:=by omega
   clear hn2
   replace hst:=Lib.hid hst
   replace hle:=Lib.hid hle
   replace hm:=Lib.hid hm
   replace hfr:=Lib.hid hfr
   have hb2:n+0+(sumN m0:Int)+(sumN m1:Int)≤1000000000:=by have:=hm.out;omega
   have q0:=hc_0.out wr hT
   have q1:=hc_1.out wr hT
   obtain⟨qf,ql⟩:=hfr.out wr hT
   go_wp2_with fail
   refine zdP (fun W=>Tw (fun b=>lo≤b∧b<hi) w W) (by exact twc) ?_
   intro W1 hT1
   clear q0 q1 qf ql
   refine(zpu lo hi _ m0 _ W1 (hS0.out W1 hT1) (hun.tw hT1) (by omega) (by have:=hm.out;omega)).mono ?_
   rintro e w1 ⟨rfl,hf1⟩
   have hT1':=hT1.trans hf1
   clear hT1 hf1
   have r1_0:=hc_0.out w1 hT1'
   have r1_1:=hc_1.out w1 hT1'
   obtain⟨r1_f,r1_l⟩:=hfr.out w1 hT1'
   go_wp2_with fail
   refine zdP (fun W=>Tw (fun b=>lo≤b∧b<hi) w W) (by exact twc) ?_
   intro W2 hT2
   clear r1_0 r1_1 r1_f r1_l
   refine(zpr lo hi _ m1 _ W2 (hS1.out W2 hT2) (hun.tw hT2) (by omega) (by have:=hm.out;omega)).mono ?_
   rintro e w2 ⟨rfl,hf2⟩
   have hT2':=hT2.trans hf2
   clear hT2 hf2
   have r2_0:=hc_0.out w2 hT2'
   have r2_1:=hc_1.out w2 hT2'
   obtain⟨r2_f,r2_l⟩:=hfr.out w2 hT2'
   go_wp2
   go_roundw
   case rel=>exact⟨j+1,_,by omega,by go_num,rfl,by(have h1:=hst.out;have h2:=hn.out;have h3:=hm.out;show _=_;omega),by exact twc⟩
   case measure=>simp[intOf];omega
  ·clear h
   have hs:Hid (n=k+sumN ms):=by have:=hn.out;rwa [List.take_of_length_le (by omega)] at this
   go_wp2
   go_ret
   exact⟨by rw[hs.out];rfl,hT⟩
theorem zb4 (X:Nat->Prop) (v:Value) (xs:List Cls) (left:Int) (w:World) (h:Sl X w 4 (ClsC X w) v xs) (h0:0≤left) (h1:left≤1048576):
  Calls Tryz.prog 67 #[v,.int .i64 left] w (zhz (szL zhR xs) left w):=by
 obtain⟨A,cap,rfl,hcap,hlen⟩:=h.form
 unfold maxLen at hlen
 have hsl:=zgj zhR xs
 have hsum:szL zhR xs=xs.length+sumL zhR xs:=rfl
 have hsl:=Lib.hid hsl
 have hsum:=Lib.hid hsum
 go_enter Tryz.func67,Tryz.ntmps67
 by_cases hl0:(xs.length:Int)≤left
 ·go_wp2
  go_loopw [5,1,4] (fun i l r wr=>∃(k:Nat) (n:Int),k≤xs.length∧i=.int .i64 k∧l=.int .i64 n∧r=.int .i64 0∧0≤n∧n≤1048576∧Hid (n=left-xs.length-sumL zhR (xs.take k))∧Fr No w wr) (fun i _ _ _=>xs.length-(intOf i).toNat)
  case atStart=>exact⟨0,left-xs.length,Nat.zero_le _,rfl,rfl,rfl,by omega,by omega,by simp[Hid,sumL],Fr.refl _ _⟩
  case round=>
   obtain⟨k,n,hk,rfl,rfl,rfl,hn0,hn1,hn,hf⟩:=hrel
   by_cases hlt:k<xs.length
   ·obtain⟨b,off,A_fields,c_fields,A_methods,c_methods,rfl,hX,c0,c1,c2,c3,z0,z1,h_fields,h_methods,_,_,_,_⟩:=(h.keep hf zN (fun _ _ _ h9=>h9.keep hf zN)).cls hlt
    have hR:ClsC X wr [.string xs[k].name,.string xs[k].super,.slice A_fields xs[k].fields.length c_fields,.slice A_methods xs[k].methods.length c_methods] xs[k]:=⟨_,_,rfl,z0,z1,h_fields,h_methods⟩
    clear h
    have H:=fun W l (h:Fr No wr W)=>zhS X xs[k] _ l W (hR.keep h zN)
    clear hR
    clear h_fields
    clear h_methods
    have hst:=Lib.hid (zgg zhR xs k hlt)
    have hle:=Lib.hid (zgh zhR xs (k+1))
    generalize xs[k]=x at *
    go_wp2_with (go_at_call 112;refine(H _ _ ?_ ?_ ?_).mono ?_;(focus (exact frc));omega;omega;rintro e w1 ⟨n1,rfl,hn1',hf1⟩)
    ·go_ret
     refine zhz.mk _ ?_ (by exact frc)
     ((try unfold Hid at *);(try unfold Hid at *);omega)
    ·go_roundw
     case rel=>exact⟨k+1,n1,by omega,by go_num,rfl,rfl,by omega,by(simp only[Hid] at *;omega),by(simp only[Hid] at *;omega),by exact frc⟩
     case measure=>simp[intOf];omega
   ·clear h
    have hst:Hid (sumL zhR (xs.take k)=sumL zhR xs):=by rw[List.take_of_length_le (by omega)];exact rfl
    go_wp2
    go_ret
    refine zhz.mk _ ?_ (by exact frc)
    ((try unfold Hid at *);(try unfold Hid at *);omega)
 ·go_wp2
  go_ret
  refine zhz.mk _ ?_ (by exact frc)
  ((try unfold Hid at *);(try unfold Hid at *);omega)
def zb5 (x:Ask):Nat:=x.name.size
theorem zb6 (x:Ask) (cs:List Value) (left:Int) (w:World) (h:AskC cs x) (h0:0≤left) (h1:left≤1048576):
  Calls Tryz.prog 113 #[.agg cs.toArray,.int .i64 left] w (zhz (zb5 x) left w):=by
 obtain⟨rfl,hz0⟩:=h
 unfold maxLen at hz0
 go_enter Tryz.func113,Tryz.ntmps113
 go_wp2
 all_goals go_ret
 all_goals refine zhz.mk _ ?_ (by exact frc)
 all_goals ((try unfold zb5 at *);(try unfold Hid at *);omega)
theorem zb7 (X:Nat->Prop) (v:Value) (xs:List Ask) (left:Int) (w:World) (h:Sl X w 2 AskC v xs) (h0:0≤left) (h1:left≤1048576):
  Calls Tryz.prog 68 #[v,.int .i64 left] w (zhz (szL zb5 xs) left w):=by
 obtain⟨A,cap,rfl,hcap,hlen⟩:=h.form
 unfold maxLen at hlen
 have hsl:=zgj zb5 xs
 have hsum:szL zb5 xs=xs.length+sumL zb5 xs:=rfl
 have hsl:=Lib.hid hsl
 have hsum:=Lib.hid hsum
 go_enter Tryz.func68,Tryz.ntmps68
 by_cases hl0:(xs.length:Int)≤left
 ·go_wp2
  go_loopw [5,1,4] (fun i l r wr=>∃(k:Nat) (n:Int),k≤xs.length∧i=.int .i64 k∧l=.int .i64 n∧r=.int .i64 0∧0≤n∧n≤1048576∧Hid (n=left-xs.length-sumL zb5 (xs.take k))∧Fr No w wr) (fun i _ _ _=>xs.length-(intOf i).toNat)
  case atStart=>exact⟨0,left-xs.length,Nat.zero_le _,rfl,rfl,rfl,by omega,by omega,by simp[Hid,sumL],Fr.refl _ _⟩
  case round=>
   obtain⟨k,n,hk,rfl,rfl,rfl,hn0,hn1,hn,hf⟩:=hrel
   by_cases hlt:k<xs.length
   ·obtain⟨b,off,rfl,hX,c0,c1,z0⟩:=(h.k0 hf).ask hlt
    clear h
    have H:=fun W l (h:Fr No wr W)=>zb6 xs[k] _ l W ⟨rfl,z0⟩
    have hst:=Lib.hid (zgg zb5 xs k hlt)
    have hle:=Lib.hid (zgh zb5 xs (k+1))
    generalize xs[k]=x at *
    go_wp2_with (go_at_call 113;refine(H _ _ ?_ ?_ ?_).mono ?_;(focus (exact frc));omega;omega;rintro e w1 ⟨n1,rfl,hn1',hf1⟩)
    ·go_ret
     refine zhz.mk _ ?_ (by exact frc)
     ((try unfold Hid at *);(try unfold Hid at *);omega)
    ·go_roundw
     case rel=>exact⟨k+1,n1,by omega,by go_num,rfl,rfl,by omega,by(simp only[Hid] at *;omega),by(simp only[Hid] at *;omega),by exact frc⟩
     case measure=>simp[intOf];omega
   ·clear h
    have hst:Hid (sumL zb5 (xs.take k)=sumL zb5 xs):=by rw[List.take_of_length_le (by omega)];exact rfl
    go_wp2
    go_ret
    refine zhz.mk _ ?_ (by exact frc)
    ((try unfold Hid at *);(try unfold Hid at *);omega)
 ·go_wp2
  go_ret
  refine zhz.mk _ ?_ (by exact frc)
  ((try unfold Hid at *);(try unfold Hid at *);omega)
def zb8 (x:Kpr):Nat:=szL zhR x.owns+szL zb5 x.asks
theorem zb9 (X:Nat->Prop) (x:Kpr) (cs:List Value) (left:Int) (w:World) (h:KprC X w cs x) (h0:0≤left) (h1:left≤1048576):
  Calls Tryz.prog 39 #[.agg cs.toArray,.int .i64 left] w (zhz (zb8 x) left w):=by
 obtain⟨v_owns,v_asks,rfl,h_owns,h_asks⟩:=h
 have H_owns:=fun W l (h:Fr No w W)=>zb4 X _ x.owns l W (h_owns.keep h zN (fun _ _ _ h9=>h9.keep h zN))
 have H_asks:=fun W l (h:Fr No w W)=>zb7 X _ x.asks l W (h_asks.k0 h)
 obtain⟨A_owns,c_owns,rfl,p_owns,q_owns⟩:=h_owns.form
 obtain⟨A_asks,c_asks,rfl,p_asks,q_asks⟩:=h_asks.form
 clear h_owns
 clear h_asks
 go_enter Tryz.func39,Tryz.ntmps39
 have hB:=Bx.new w 84 #[.slice A_owns x.owns.length c_owns,.slice A_asks x.asks.length c_asks]
 go_wp2_with (first
  | (go_at_call_of 67 (Value.slice A_owns x.owns.length c_owns);refine(H_owns _ _ ?_ ?_ ?_).mono ?_;(focus (exact frc));omega;omega;rintro e w0 ⟨n0,rfl,hn0,hf0⟩;have hnb0:n0≤1048576:=(by have:=hn0.out;omega);have hb0:=Bx.keepTo w0 hB (by exact frc);obtain⟨e0_0,e0_1⟩:=hb0.c2;have hl0:=hb0.lt;have hw0:Fr No w w0:=(by exact frc))
  | (go_at_call_of 68 (Value.slice A_asks x.asks.length c_asks);refine(H_asks _ _ ?_ ?_ ?_).mono ?_;(focus (exact frc));omega;omega;rintro e w1 ⟨n1,rfl,hn1,hf1⟩;have hnb1:n1≤1048576:=(by have:=hn1.out;omega);have hb1:=Bx.keepTo w1 hb0 (by exact frc);obtain⟨e1_0,e1_1⟩:=hb1.c2;have hl1:=hb1.lt;have hw1:Fr No w w1:=(by exact frc)))
 all_goals go_ret
 all_goals refine zhz.mk _ ?_ (by exact frc)
 all_goals ((try unfold zb8 at *);(try unfold Hid at *);omega)
theorem zca (X:Nat->Prop) (v:Value) (xs:List Kpr) (left:Int) (w:World) (h:Sl X w 2 (KprC X w) v xs) (h0:0≤left) (h1:left≤1048576):
  Calls Tryz.prog 21 #[v,.int .i64 left] w (zhz (szL zb8 xs) left w):=by
 obtain⟨A,cap,rfl,hcap,hlen⟩:=h.form
 unfold maxLen at hlen
 have hsl:=zgj zb8 xs
 have hsum:szL zb8 xs=xs.length+sumL zb8 xs:=rfl
 have hsl:=Lib.hid hsl
 have hsum:=Lib.hid hsum
 go_enter Tryz.func21,Tryz.ntmps21
 by_cases hl0:(xs.length:Int)≤left
 ·go_wp2
  go_loopw [5,1,4] (fun i l r wr=>∃(k:Nat) (n:Int),k≤xs.length∧i=.int .i64 k∧l=.int .i64 n∧r=.int .i64 0∧0≤n∧n≤1048576∧Hid (n=left-xs.length-sumL zb8 (xs.take k))∧Fr No w wr) (fun i _ _ _=>xs.length-(intOf i).toNat)
  case atStart=>exact⟨0,left-xs.length,Nat.zero_le _,rfl,rfl,rfl,by omega,by omega,by simp[Hid,sumL],Fr.refl _ _⟩
  case round=>
   obtain⟨k,n,hk,rfl,rfl,rfl,hn0,hn1,hn,hf⟩:=hrel
   by_cases hlt:k<xs.length
   ·obtain⟨b,off,A_owns,c_owns,A_asks,c_asks,rfl,hX,c0,c1,h_owns,h_asks,_,_,_,_⟩:=(h.keep hf zN (fun _ _ _ h9=>h9.keep hf zN)).kpr hlt
    have hR:KprC X wr [.slice A_owns xs[k].owns.length c_owns,.slice A_asks xs[k].asks.length c_asks] xs[k]:=⟨_,_,rfl,h_owns,h_asks⟩
    clear h
    have H:=fun W l (h:Fr No wr W)=>zb9 X xs[k] _ l W (hR.keep h zN)
    clear hR
    clear h_owns
    clear h_asks
    have hst:=Lib.hid (zgg zb8 xs k hlt)
    have hle:=Lib.hid (zgh zb8 xs (k+1))
    generalize xs[k]=x at *
    go_wp2_with (go_at_call 39;refine(H _ _ ?_ ?_ ?_).mono ?_;(focus (exact frc));omega;omega;rintro e w1 ⟨n1,rfl,hn1',hf1⟩)
    ·go_ret
     refine zhz.mk _ ?_ (by exact frc)
     ((try unfold Hid at *);(try unfold Hid at *);omega)
    ·go_roundw
     case rel=>exact⟨k+1,n1,by omega,by go_num,rfl,rfl,by omega,by(simp only[Hid] at *;omega),by(simp only[Hid] at *;omega),by exact frc⟩
     case measure=>simp[intOf];omega
   ·clear h
    have hst:Hid (sumL zb8 (xs.take k)=sumL zb8 xs):=by rw[List.take_of_length_le (by omega)];exact rfl
    go_wp2
    go_ret
    refine zhz.mk _ ?_ (by exact frc)
    ((try unfold Hid at *);(try unfold Hid at *);omega)
 ·go_wp2
  go_ret
  refine zhz.mk _ ?_ (by exact frc)
  ((try unfold Hid at *);(try unfold Hid at *);omega)
def zcb (x:Plan):Nat:=szL zb8 x.keepers
theorem zcc (X:Nat->Prop) (x:Plan) (cs:List Value) (left:Int) (w:World) (h:zf9 X w cs x) (h0:0≤left) (h1:left≤1048576):
  Calls Tryz.prog 6 #[.agg cs.toArray,.int .i64 left] w (zhz (zcb x) left w):=by
 obtain⟨v_keepers,rfl,h_keepers⟩:=h
 have H_keepers:=fun W l (h:Fr No w W)=>zca X _ x.keepers l W (h_keepers.keep h zN (fun _ _ _ h9=>h9.keep h zN))
 obtain⟨A_keepers,c_keepers,rfl,p_keepers,q_keepers⟩:=h_keepers.form
 clear h_keepers
 go_enter Tryz.func6,Tryz.ntmps6
 have hB:=Bx.new w 24 #[.slice A_keepers x.keepers.length c_keepers]
 go_wp2_with (first
  | (go_at_call_of 21 (Value.slice A_keepers x.keepers.length c_keepers);refine(H_keepers _ _ ?_ ?_ ?_).mono ?_;(focus (exact frc));omega;omega;rintro e w0 ⟨n0,rfl,hn0,hf0⟩;have hnb0:n0≤1048576:=(by have:=hn0.out;omega);have hb0:=Bx.keepTo w0 hB (by exact frc);have e0_0:=hb0.c1;have hl0:=hb0.lt;have hw0:Fr No w w0:=(by exact frc)))
 all_goals go_ret
 all_goals refine zhz.mk _ ?_ (by exact frc)
 all_goals ((try unfold zcb at *);(try unfold Hid at *);omega)
theorem zpw (x:Kpr):zoE x≤8 * (1+zb8 x):=by
 have h1:=zgj zb5 x.asks
 have h2:=zox zoI x.owns
 unfold zoE zb8
 omega
theorem zpx (lo hi:Nat) (p:Plan) (v:Value) (w:World) (h:Sl (fun b=>b<lo∨hi≤b) w 2 (KprC (fun b=>b<lo∨hi≤b) w) v p.keepers) (hun:Unf lo hi w) (hs:zcb p≤1048576):
  ∃n:Nat,n≤1000000000∧Calls Tryz.prog 18 #[.agg #[v],.int .i64 1] w (zot lo hi n w):=by
 obtain⟨ms,g,e⟩:=h.wtd (Q:=KprW (fun b=>b<lo∨hi≤b) w) zoE (fun _ _ h=>h.wt)
 have hle:=zox zpw p.keepers
 unfold zcb at hs
 have hb:sumN ms≤8388608:=by omega
 clear h hle e
 refine⟨1+sumN ms,by omega,?_⟩
 obtain⟨A,cap,rfl,_,_⟩:=g.form
 obtain⟨wA,hwA⟩:∃wA,wA=w.alloc (.cells #[.slice A ms.length cap] 32):=⟨_,rfl⟩
 have hfA:Fr No w wA:=hwA▸frc
 have hT:Tw (fun b=>lo≤b∧b<hi) w wA:=.of0 hfA
 have HM:=zpv lo hi _ ms 1 wA (g.tw (R':=KprW (fun b=>b<lo∨hi≤b) wA) hT (fun _ _ _ _ h a b=>h.lk hT a b)) (hun.tw hT) (by omega) (by omega)
 go_enter Tryz.func18,Tryz.ntmps18
 go_wp2_with fail
 rw[<-hwA]
 refine HM.mono ?_
 rintro e w2 ⟨rfl,hT2⟩
 go_wp2
 go_ret
 exact⟨by simp,hT.trans hT2⟩
theorem zhq (X Y:Nat->Prop) (v v1:Value) (xs:List Cls) (w:World) (h:Sl X w 4 (ClsC X w) v xs) (g:Sl Y w 4 (ClsC Y w) v1 xs):
  Calls Tryz.prog 83 #[v,v1] w (zgm true w):=by
 obtain⟨A,cap,rfl,_,hlen⟩:=h.form
 obtain⟨B,cap1,rfl,_,_⟩:=g.form
 unfold maxLen at hlen
 go_enter Tryz.func83,Tryz.ntmps83
 go_wp2
 go_loopw [5,4] (fun i r wr=>∃k:Nat,k≤xs.length∧i=.int .i64 k∧r=.bool false∧Fr No w wr) (fun i _ _=>xs.length-(intOf i).toNat)
 case atStart=>exact⟨0,Nat.zero_le _,rfl,rfl,Fr.refl _ _⟩
 case round=>
  obtain⟨k,hk,rfl,rfl,hf⟩:=hrel
  by_cases hlt:k<xs.length
  ·obtain⟨b,bf,A_fields,c_fields,A_methods,c_methods,rfl,_,c0,c1,c2,c3,z0,z1,hA_fields,hA_methods,_,_,_,_⟩:=(h.keep hf zN (fun _ _ _ h9=>h9.keep hf zN)).cls hlt
   obtain⟨a,af,B_fields,d_fields,B_methods,d_methods,rfl,_,f0,f1,f2,f3,y0,y1,hB_fields,hB_methods,_,_,_,_⟩:=(g.keep hf zN (fun _ _ _ h9=>h9.keep hf zN)).cls hlt
   clear h g
   have H:=fun W (h:Fr No wr W)=>zj0 X Y xs[k] _ _ W ((show ClsC X wr [.string xs[k].name,.string xs[k].super,.slice A_fields xs[k].fields.length c_fields,.slice A_methods xs[k].methods.length c_methods] xs[k] from⟨_,_,rfl,z0,z1,hA_fields,hA_methods⟩).keep h zN) ((show ClsC Y wr [.string xs[k].name,.string xs[k].super,.slice B_fields xs[k].fields.length d_fields,.slice B_methods xs[k].methods.length d_methods] xs[k] from⟨_,_,rfl,y0,y1,hB_fields,hB_methods⟩).keep h zN)
   generalize xs[k]=x at *
   have c0:=kp c0
   have f0:=kp f0
   have c1:=kp c1
   have f1:=kp f1
   have c2:=kp c2
   have f2:=kp f2
   have c3:=kp c3
   have f3:=kp f3
   go_wp2_with fail
   (refine zgc (X:=No) (by kernel_rfl) (by kernel_rfl) ?_);(repeat(first|(apply zgb;(focus (exact rfl));simp only[Act.put,lz0,lz1,lz2])|(apply zga;(focus (exact rfl));(focus (intro W hW;go_simp;first|done|exact rfl|(go_at_call 134;exact(H W hW).mono (fun _ _ h=>⟨h.1,hW.trans0 h.2⟩))));simp only[Act.put,lz0,lz1,lz2])));refine wpQuiet_nil ?_
   intro w1 hf1
   clear c0 c1 c2 c3 f0 f1 f2 f3 H
   go_wp2
   go_roundw
   case rel=>exact⟨k+1,by omega,by go_num,rfl,by exact frc⟩
   case measure=>simp[intOf];omega
  ·clear h g
   go_wp2
   go_ret
   exact .mk rfl (by exact frc)
theorem zhr (x:Ask) (cs cs1:List Value) (w:World) (h:AskC cs x) (h1:AskC cs1 x):
  Calls Tryz.prog 135 #[.agg cs.toArray,.agg cs1.toArray] w (zgm true w):=by
 obtain⟨rfl,_⟩:=h
 obtain⟨rfl,_⟩:=h1
 go_enter Tryz.func135,Tryz.ntmps135
 go_wp2
 go_ret
 exact .mk rfl (by exact frc)
theorem zhs (X Y:Nat->Prop) (v v1:Value) (xs:List Ask) (w:World) (h:Sl X w 2 AskC v xs) (g:Sl Y w 2 AskC v1 xs):
  Calls Tryz.prog 84 #[v,v1] w (zgm true w):=by
 obtain⟨A,cap,rfl,_,hlen⟩:=h.form
 obtain⟨B,cap1,rfl,_,_⟩:=g.form
 unfold maxLen at hlen
 go_enter Tryz.func84,Tryz.ntmps84
 go_wp2
 go_loopw [5,4] (fun i r wr=>∃k:Nat,k≤xs.length∧i=.int .i64 k∧r=.bool false∧Fr No w wr) (fun i _ _=>xs.length-(intOf i).toNat)
 case atStart=>exact⟨0,Nat.zero_le _,rfl,rfl,Fr.refl _ _⟩
 case round=>
  obtain⟨k,hk,rfl,rfl,hf⟩:=hrel
  by_cases hlt:k<xs.length
  ·obtain⟨b,bf,rfl,_,c0,c1,z0⟩:=(h.k0 hf).ask hlt
   obtain⟨a,af,rfl,_,f0,f1,y0⟩:=(g.k0 hf).ask hlt
   clear h g
   have H:=fun W (_:Fr No wr W)=>zhr xs[k] _ _ W ⟨rfl,z0⟩ ⟨rfl,z0⟩
   generalize xs[k]=x at *
   have c0:=kp c0
   have f0:=kp f0
   have c1:=kp c1
   have f1:=kp f1
   go_wp2_with fail
   (refine zgc (X:=No) (by kernel_rfl) (by kernel_rfl) ?_);(repeat(first|(apply zgb;(focus (exact rfl));simp only[Act.put,lz0,lz1,lz2])|(apply zga;(focus (exact rfl));(focus (intro W hW;go_simp;first|done|exact rfl|(go_at_call 135;exact(H W hW).mono (fun _ _ h=>⟨h.1,hW.trans0 h.2⟩))));simp only[Act.put,lz0,lz1,lz2])));refine wpQuiet_nil ?_
   intro w1 hf1
   clear c0 c1 f0 f1 H
   go_wp2
   go_roundw
   case rel=>exact⟨k+1,by omega,by go_num,rfl,by exact frc⟩
   case measure=>simp[intOf];omega
  ·clear h g
   go_wp2
   go_ret
   exact .mk rfl (by exact frc)
theorem zht (X Y:Nat->Prop) (x:Kpr) (cs cs1:List Value) (w:World) (h:KprC X w cs x) (h1:KprC Y w cs1 x):
  Calls Tryz.prog 54 #[.agg cs.toArray,.agg cs1.toArray] w (zgm true w):=by
 obtain⟨v_owns,v_asks,rfl,h_owns,h_asks⟩:=h
 obtain⟨u_owns,u_asks,rfl,g_owns,g_asks⟩:=h1
 have H_owns:=fun W (h:Fr No w W)=>zhq X Y _ _ x.owns W (h_owns.keep h zN (fun _ _ _ h9=>h9.keep h zN)) (g_owns.keep h zN (fun _ _ _ h9=>h9.keep h zN))
 have H_asks:=fun W (h:Fr No w W)=>zhs X Y _ _ x.asks W (h_asks.k0 h) (g_asks.k0 h)
 obtain⟨A_owns,c_owns,rfl,_,_⟩:=h_owns.form
 obtain⟨B_owns,d_owns,rfl,_,_⟩:=g_owns.form
 clear h_owns g_owns
 obtain⟨A_asks,c_asks,rfl,_,_⟩:=h_asks.form
 obtain⟨B_asks,d_asks,rfl,_,_⟩:=g_asks.form
 clear h_asks g_asks
 go_enter Tryz.func54,Tryz.ntmps54
 obtain⟨ha0,hb0, -⟩:=Bx.two w 89 #[.slice A_owns x.owns.length c_owns,.slice A_asks x.asks.length c_asks] 89 #[.slice B_owns x.owns.length d_owns,.slice B_asks x.asks.length d_asks]
 go_wp2_with (first
  | (go_at_call_of 83 (Value.slice A_owns x.owns.length c_owns);refine(H_owns _ ?_).mono ?_;(focus (exact frc));rintro e w1 ⟨rfl,hf1⟩;have ha1:=Bx.keepTo w1 ha0 (by exact frc);have hb1:=Bx.keepTo w1 hb0 (by exact frc);obtain⟨e1_0,e1_1⟩:=ha1.c2;obtain⟨f1_0,f1_1⟩:=hb1.c2;have hw1:Fr No w w1:=(by exact frc))
  | (go_at_call_of 84 (Value.slice A_asks x.asks.length c_asks);refine(H_asks _ ?_).mono ?_;(focus (exact frc));rintro e w2 ⟨rfl,hf2⟩;have ha2:=Bx.keepTo w2 ha1 (by exact frc);have hb2:=Bx.keepTo w2 hb1 (by exact frc);obtain⟨e2_0,e2_1⟩:=ha2.c2;obtain⟨f2_0,f2_1⟩:=hb2.c2;have hw2:Fr No w w2:=(by exact frc)))
 go_ret
 exact .mk rfl (by exact frc)
theorem zhu (X Y:Nat->Prop) (v v1:Value) (xs:List Kpr) (w:World) (h:Sl X w 2 (KprC X w) v xs) (g:Sl Y w 2 (KprC Y w) v1 xs):
  Calls Tryz.prog 28 #[v,v1] w (zgm true w):=by
 obtain⟨A,cap,rfl,_,hlen⟩:=h.form
 obtain⟨B,cap1,rfl,_,_⟩:=g.form
 unfold maxLen at hlen
 go_enter Tryz.func28,Tryz.ntmps28
 go_wp2
 go_loopw [5,4] (fun i r wr=>∃k:Nat,k≤xs.length∧i=.int .i64 k∧r=.bool false∧Fr No w wr) (fun i _ _=>xs.length-(intOf i).toNat)
 case atStart=>exact⟨0,Nat.zero_le _,rfl,rfl,Fr.refl _ _⟩
 case round=>
  obtain⟨k,hk,rfl,rfl,hf⟩:=hrel
  by_cases hlt:k<xs.length
  ·obtain⟨b,bf,A_owns,c_owns,A_asks,c_asks,rfl,_,c0,c1,hA_owns,hA_asks,_,_,_,_⟩:=(h.keep hf zN (fun _ _ _ h9=>h9.keep hf zN)).kpr hlt
   obtain⟨a,af,B_owns,d_owns,B_asks,d_asks,rfl,_,f0,f1,hB_owns,hB_asks,_,_,_,_⟩:=(g.keep hf zN (fun _ _ _ h9=>h9.keep hf zN)).kpr hlt
   clear h g
   have H:=fun W (h:Fr No wr W)=>zht X Y xs[k] _ _ W ((show KprC X wr [.slice A_owns xs[k].owns.length c_owns,.slice A_asks xs[k].asks.length c_asks] xs[k] from⟨_,_,rfl,hA_owns,hA_asks⟩).keep h zN) ((show KprC Y wr [.slice B_owns xs[k].owns.length d_owns,.slice B_asks xs[k].asks.length d_asks] xs[k] from⟨_,_,rfl,hB_owns,hB_asks⟩).keep h zN)
   generalize xs[k]=x at *
   have c0:=kp c0
   have f0:=kp f0
   have c1:=kp c1
   have f1:=kp f1
   go_wp2_with fail
   (refine zgc (X:=No) (by kernel_rfl) (by kernel_rfl) ?_);(repeat(first|(apply zgb;(focus (exact rfl));simp only[Act.put,lz0,lz1,lz2])|(apply zga;(focus (exact rfl));(focus (intro W hW;go_simp;first|done|exact rfl|(go_at_call 54;exact(H W hW).mono (fun _ _ h=>⟨h.1,hW.trans0 h.2⟩))));simp only[Act.put,lz0,lz1,lz2])));refine wpQuiet_nil ?_
   intro w1 hf1
   clear c0 c1 f0 f1 H
   go_wp2
   go_roundw
   case rel=>exact⟨k+1,by omega,by go_num,rfl,by exact frc⟩
   case measure=>simp[intOf];omega
  ·clear h g
   go_wp2
   go_ret
   exact .mk rfl (by exact frc)
theorem zhv (X Y:Nat->Prop) (x:Plan) (cs cs1:List Value) (w:World) (h:zf9 X w cs x) (h1:zf9 Y w cs1 x):
  Calls Tryz.prog 12 #[.agg cs.toArray,.agg cs1.toArray] w (zgm true w):=by
 obtain⟨v_keepers,rfl,h_keepers⟩:=h
 obtain⟨u_keepers,rfl,g_keepers⟩:=h1
 have H_keepers:=fun W (h:Fr No w W)=>zhu X Y _ _ x.keepers W (h_keepers.keep h zN (fun _ _ _ h9=>h9.keep h zN)) (g_keepers.keep h zN (fun _ _ _ h9=>h9.keep h zN))
 obtain⟨A_keepers,c_keepers,rfl,_,_⟩:=h_keepers.form
 obtain⟨B_keepers,d_keepers,rfl,_,_⟩:=g_keepers.form
 clear h_keepers g_keepers
 go_enter Tryz.func12,Tryz.ntmps12
 obtain⟨ha0,hb0, -⟩:=Bx.two w 32 #[.slice A_keepers x.keepers.length c_keepers] 32 #[.slice B_keepers x.keepers.length d_keepers]
 go_wp2_with (first
  | (go_at_call_of 28 (Value.slice A_keepers x.keepers.length c_keepers);refine(H_keepers _ ?_).mono ?_;(focus (exact frc));rintro e w1 ⟨rfl,hf1⟩;have ha1:=Bx.keepTo w1 ha0 (by exact frc);have hb1:=Bx.keepTo w1 hb0 (by exact frc);have e1_0:=ha1.c1;have f1_0:=hb1.c1;have hw1:Fr No w w1:=(by exact frc)))
 go_ret
 exact .mk rfl (by exact frc)
end Go.Proofs.YthembcdcdnffeaaGreat
