/- The laws' marks: all cells of keepers are written over, and nothing else. -/
import Derived.Test.YtpghfhjhjlmljaaGreatPG36
import Derived.WalkSpells
import Derived.WalkLawsBesides
set_option maxHeartbeats 2000000
set_option maxRecDepth 100000
namespace Go.Proofs.YtpghfhjhjlmljaaGreat
open Go.RowKit
section
variable {a w:World} {b o:Nat} (lo hi:Nat)
theorem Tw.cI {x:Int} (h:w.cell? ⟨b,o,none⟩=some (.int .i64 x)):Hid (∀W,Tw (fun b=>lo≤b∧b<hi) w W->∃x,W.cell? ⟨b,o,none⟩=some (.int .i64 x)):=fun W hT=>by
 obtain⟨v,h8,h9⟩:=hT.like _ _ _ h
 obtain⟨x,rfl⟩:=h9.int
 exact⟨x,h8⟩
theorem Tw.cS {x:Str} (h:w.cell? ⟨b,o,none⟩=some (.string x)):Hid (∀W,Tw (fun b=>lo≤b∧b<hi) w W->∃x,W.cell? ⟨b,o,none⟩=some (.string x)):=fun W hT=>by
 obtain⟨v,h8,h9⟩:=hT.like _ _ _ h
 obtain⟨x,rfl⟩:=h9.str
 exact⟨x,h8⟩
theorem Tw.cL {A:Option Addr} {n c:Nat} (h:w.cell? ⟨b,o,none⟩=some (.slice A n c)):Hid (∀W,Tw (fun b=>lo≤b∧b<hi) w W->W.cell? ⟨b,o,none⟩=some (.slice A n c)):=fun W hT=>by
 obtain⟨v,h8,h9⟩:=hT.like _ _ _ h
 rwa [h9.sl] at h8
theorem Tw.cI0 {x:Int} (h:w.cell? ⟨b,o+0,none⟩=some (.int .i64 x)):Hid (∀W,Tw (fun b=>lo≤b∧b<hi) w W->∃x,W.cell? ⟨b,o,none⟩=some (.int .i64 x)):=Tw.cI lo hi h
theorem Tw.cS0 {x:Str} (h:w.cell? ⟨b,o+0,none⟩=some (.string x)):Hid (∀W,Tw (fun b=>lo≤b∧b<hi) w W->∃x,W.cell? ⟨b,o,none⟩=some (.string x)):=Tw.cS lo hi h
theorem Tw.cL0 {A:Option Addr} {n c:Nat} (h:w.cell? ⟨b,o+0,none⟩=some (.slice A n c)):Hid (∀W,Tw (fun b=>lo≤b∧b<hi) w W->W.cell? ⟨b,o,none⟩=some (.slice A n c)):=Tw.cL lo hi h
end
theorem Tw.hI {X:Nat->Prop} {a w:World} {b o:Nat} {k':Int} (h:Tw X a w) (hc:Hid (∀W,Tw X a W->∃x,W.cell? ⟨b,o,none⟩=some (.int .i64 x))) (hX:X b):Tw X a (w.setCell ⟨b,o,none⟩ (.int .i64 k')):=h.stepI hc.out hX
theorem Tw.hS {X:Nat->Prop} {a w:World} {b o:Nat} {s':Str} (h:Tw X a w) (hc:Hid (∀W,Tw X a W->∃x,W.cell? ⟨b,o,none⟩=some (.string x))) (hX:X b):Tw X a (w.setCell ⟨b,o,none⟩ (.string s')):=h.stepS hc.out hX
theorem twc {P:Prop} (h:P:=by(repeat(first|assumption|(refine Tw.hI ?_ (by assumption) (by assumption))|(refine Tw.hS ?_ (by assumption) (by assumption))))):P:=h
theorem zpn (lo hi:Nat) (v:Value) (ms:List Nat) (k:Int) (w:World) (h:Sl (fun b=>b<lo∨hi≤b) w 2 KndW v ms) (hun:Unf lo hi w) (h0:0≤k) (hk:k+sumN ms≤1000000000):
  Calls Tryz.prog 91 #[v,.int .i64 k] w (zot lo hi (k+sumN ms) w):=by
 obtain⟨A,cap,rfl,hcap,hlen⟩:=h.form
 unfold maxLen at hlen
 go_enter Tryz.func91,Tryz.ntmps91
 go_wp2
 go_loopw [5,1] (fun i l wr=>∃(j:Nat) (n:Int),j≤ms.length∧i=.int .i64 j∧l=.int .i64 n∧Hid (n=k+sumN (ms.take j))∧Tw (fun b=>lo≤b∧b<hi) w wr) (fun i _ _=>ms.length-(intOf i).toNat)
 case atStart=>exact⟨0,k,Nat.zero_le _,rfl,rfl,by simp[Hid,sumN],Tw.refl _ _⟩
 case round=>
  obtain⟨j,n,hj,rfl,rfl,hn,hT⟩:=hrel
  by_cases hlt:j<ms.length
  ·obtain⟨b,off,cs,rfl,hX,hQ,hc0⟩:=h.cells hlt
   have hst:=zov ms j hlt
   have hle:=zow ms (j+1)
   obtain⟨hm,_,_,rfl⟩:=hQ
   have hc_0:=Tw.cI0 lo hi (hc0 0 _ (by decide) rfl)
   have hc_1:=Tw.cS lo hi (hc0 1 _ (by decide) rfl)
   have hZ:lo≤b∧b<hi:=by omega
   have hfr:∀W,Tw (fun b=>lo≤b∧b<hi) w W->(∀o,W.frozen? ⟨b,o,none⟩=false)∧b<W.heap.size:=fun W hT9=>hun.at_ hT9 hZ
   clear h hc0
   have hn2:=hn.out
   have hb0:0≤n:=by omega
   have hb1:n+ms[j]≤1000000000:=by omega
   clear hn2
   replace hst:=Lib.hid hst
   replace hle:=Lib.hid hle
   replace hm:=Lib.hid hm
   replace hfr:=Lib.hid hfr
   have hb2:n+2≤1000000000:=by have:=hm.out;omega
   obtain⟨qx0,q0⟩:=hc_0.out wr hT
   obtain⟨qx1,q1⟩:=hc_1.out wr hT
   obtain⟨qf,ql⟩:=hfr.out wr hT
   go_wp2_with fail
   refine zdP (fun W=>Tw (fun b=>lo≤b∧b<hi) w W) (by exact twc) ?_
   intro W1 hT1
   clear q0 q1 qf ql
   refine(zoM _ _ (by omega)).mono ?_
   rintro e w1 ⟨rfl,hf1⟩
   have hT1':=hT1.trans (.of0 hf1)
   clear hT1 hf1
   obtain⟨r1_x0,r1_0⟩:=hc_0.out w1 hT1'
   obtain⟨r1_x1,r1_1⟩:=hc_1.out w1 hT1'
   obtain⟨r1_f,r1_l⟩:=hfr.out w1 hT1'
   go_wp2
   go_roundw
   case rel=>exact⟨j+1,_,by omega,by go_num,rfl,by(have h1:=hst.out;have h2:=hn.out;have h3:=hm.out;show _=_;omega),by exact twc⟩
   case measure=>simp[intOf];omega
  ·clear h
   have hs:Hid (n=k+sumN ms):=by have:=hn.out;rwa [List.take_of_length_le (by omega)] at this
   go_wp2
   go_ret
   exact⟨by rw[hs.out];rfl,hT⟩
theorem zpo (lo hi:Nat) (v:Value) (ms:List Nat) (k:Int) (w:World) (h:Sl (fun b=>b<lo∨hi≤b) w 2 TagW v ms) (hun:Unf lo hi w) (h0:0≤k) (hk:k+sumN ms≤1000000000):
  Calls Tryz.prog 126 #[v,.int .i64 k] w (zot lo hi (k+sumN ms) w):=by
 obtain⟨A,cap,rfl,hcap,hlen⟩:=h.form
 unfold maxLen at hlen
 go_enter Tryz.func126,Tryz.ntmps126
 go_wp2
 go_loopw [5,1] (fun i l wr=>∃(j:Nat) (n:Int),j≤ms.length∧i=.int .i64 j∧l=.int .i64 n∧Hid (n=k+sumN (ms.take j))∧Tw (fun b=>lo≤b∧b<hi) w wr) (fun i _ _=>ms.length-(intOf i).toNat)
 case atStart=>exact⟨0,k,Nat.zero_le _,rfl,rfl,by simp[Hid,sumN],Tw.refl _ _⟩
 case round=>
  obtain⟨j,n,hj,rfl,rfl,hn,hT⟩:=hrel
  by_cases hlt:j<ms.length
  ·obtain⟨b,off,cs,rfl,hX,hQ,hc0⟩:=h.cells hlt
   have hst:=zov ms j hlt
   have hle:=zow ms (j+1)
   obtain⟨hm,_,_,rfl⟩:=hQ
   have hc_0:=Tw.cI0 lo hi (hc0 0 _ (by decide) rfl)
   have hc_1:=Tw.cS lo hi (hc0 1 _ (by decide) rfl)
   have hZ:lo≤b∧b<hi:=by omega
   have hfr:∀W,Tw (fun b=>lo≤b∧b<hi) w W->(∀o,W.frozen? ⟨b,o,none⟩=false)∧b<W.heap.size:=fun W hT9=>hun.at_ hT9 hZ
   clear h hc0
   have hn2:=hn.out
   have hb0:0≤n:=by omega
   have hb1:n+ms[j]≤1000000000:=by omega
   clear hn2
   replace hst:=Lib.hid hst
   replace hle:=Lib.hid hle
   replace hm:=Lib.hid hm
   replace hfr:=Lib.hid hfr
   have hb2:n+2≤1000000000:=by have:=hm.out;omega
   obtain⟨qx0,q0⟩:=hc_0.out wr hT
   obtain⟨qx1,q1⟩:=hc_1.out wr hT
   obtain⟨qf,ql⟩:=hfr.out wr hT
   go_wp2_with fail
   refine zdP (fun W=>Tw (fun b=>lo≤b∧b<hi) w W) (by exact twc) ?_
   intro W1 hT1
   clear q0 q1 qf ql
   refine(zoM _ _ (by omega)).mono ?_
   rintro e w1 ⟨rfl,hf1⟩
   have hT1':=hT1.trans (.of0 hf1)
   clear hT1 hf1
   obtain⟨r1_x0,r1_0⟩:=hc_0.out w1 hT1'
   obtain⟨r1_x1,r1_1⟩:=hc_1.out w1 hT1'
   obtain⟨r1_f,r1_l⟩:=hfr.out w1 hT1'
   go_wp2
   go_roundw
   case rel=>exact⟨j+1,_,by omega,by go_num,rfl,by(have h1:=hst.out;have h2:=hn.out;have h3:=hm.out;show _=_;omega),by exact twc⟩
   case measure=>simp[intOf];omega
  ·clear h
   have hs:Hid (n=k+sumN ms):=by have:=hn.out;rwa [List.take_of_length_le (by omega)] at this
   go_wp2
   go_ret
   exact⟨by rw[hs.out];rfl,hT⟩
theorem zpp (lo hi:Nat) (v:Value) (ms:List Nat) (k:Int) (w:World) (h:Sl (fun b=>b<lo∨hi≤b) w 4 InsW v ms) (hun:Unf lo hi w) (h0:0≤k) (hk:k+sumN ms≤1000000000):
  Calls Tryz.prog 92 #[v,.int .i64 k] w (zot lo hi (k+sumN ms) w):=by
 obtain⟨A,cap,rfl,hcap,hlen⟩:=h.form
 unfold maxLen at hlen
 go_enter Tryz.func92,Tryz.ntmps92
 go_wp2
 go_loopw [5,1] (fun i l wr=>∃(j:Nat) (n:Int),j≤ms.length∧i=.int .i64 j∧l=.int .i64 n∧Hid (n=k+sumN (ms.take j))∧Tw (fun b=>lo≤b∧b<hi) w wr) (fun i _ _=>ms.length-(intOf i).toNat)
 case atStart=>exact⟨0,k,Nat.zero_le _,rfl,rfl,by simp[Hid,sumN],Tw.refl _ _⟩
 case round=>
  obtain⟨j,n,hj,rfl,rfl,hn,hT⟩:=hrel
  by_cases hlt:j<ms.length
  ·obtain⟨b,off,cs,rfl,hX,hQ,hc0⟩:=h.cells hlt
   have hst:=zov ms j hlt
   have hle:=zow ms (j+1)
   obtain⟨hm,_,_,_,_,rfl⟩:=hQ
   have hc_0:=Tw.cI0 lo hi (hc0 0 _ (by decide) rfl)
   have hc_1:=Tw.cI lo hi (hc0 1 _ (by decide) rfl)
   have hc_2:=Tw.cS lo hi (hc0 2 _ (by decide) rfl)
   have hc_3:=Tw.cS lo hi (hc0 3 _ (by decide) rfl)
   have hZ:lo≤b∧b<hi:=by omega
   have hfr:∀W,Tw (fun b=>lo≤b∧b<hi) w W->(∀o,W.frozen? ⟨b,o,none⟩=false)∧b<W.heap.size:=fun W hT9=>hun.at_ hT9 hZ
   clear h hc0
   have hn2:=hn.out
   have hb0:0≤n:=by omega
   have hb1:n+ms[j]≤1000000000:=by omega
   clear hn2
   replace hst:=Lib.hid hst
   replace hle:=Lib.hid hle
   replace hm:=Lib.hid hm
   replace hfr:=Lib.hid hfr
   have hb2:n+4≤1000000000:=by have:=hm.out;omega
   obtain⟨qx0,q0⟩:=hc_0.out wr hT
   obtain⟨qx1,q1⟩:=hc_1.out wr hT
   obtain⟨qx2,q2⟩:=hc_2.out wr hT
   obtain⟨qx3,q3⟩:=hc_3.out wr hT
   obtain⟨qf,ql⟩:=hfr.out wr hT
   go_wp2_with fail
   refine zdP (fun W=>Tw (fun b=>lo≤b∧b<hi) w W) (by exact twc) ?_
   intro W1 hT1
   clear q0 q1 q2 q3 qf ql
   refine(zoM _ _ (by omega)).mono ?_
   rintro e w1 ⟨rfl,hf1⟩
   have hT1':=hT1.trans (.of0 hf1)
   clear hT1 hf1
   obtain⟨r1_x0,r1_0⟩:=hc_0.out w1 hT1'
   obtain⟨r1_x1,r1_1⟩:=hc_1.out w1 hT1'
   obtain⟨r1_x2,r1_2⟩:=hc_2.out w1 hT1'
   obtain⟨r1_x3,r1_3⟩:=hc_3.out w1 hT1'
   obtain⟨r1_f,r1_l⟩:=hfr.out w1 hT1'
   go_wp2_with fail
   refine zdP (fun W=>Tw (fun b=>lo≤b∧b<hi) w W) (by exact twc) ?_
   intro W2 hT2
   clear r1_0 r1_1 r1_2 r1_3 r1_f r1_l
   refine(zoM _ _ (by omega)).mono ?_
   rintro e w2 ⟨rfl,hf2⟩
   have hT2':=hT2.trans (.of0 hf2)
   clear hT2 hf2
   obtain⟨r2_x0,r2_0⟩:=hc_0.out w2 hT2'
   obtain⟨r2_x1,r2_1⟩:=hc_1.out w2 hT2'
   obtain⟨r2_x2,r2_2⟩:=hc_2.out w2 hT2'
   obtain⟨r2_x3,r2_3⟩:=hc_3.out w2 hT2'
   obtain⟨r2_f,r2_l⟩:=hfr.out w2 hT2'
   go_wp2
   go_roundw
   case rel=>exact⟨j+1,_,by omega,by go_num,rfl,by(have h1:=hst.out;have h2:=hn.out;have h3:=hm.out;show _=_;omega),by exact twc⟩
   case measure=>simp[intOf];omega
  ·clear h
   have hs:Hid (n=k+sumN ms):=by have:=hn.out;rwa [List.take_of_length_le (by omega)] at this
   go_wp2
   go_ret
   exact⟨by rw[hs.out];rfl,hT⟩
theorem zpq (lo hi:Nat) (v:Value) (ms:List Nat) (k:Int) (w:World) (h:Sl (fun b=>b<lo∨hi≤b) w 3 FldW v ms) (hun:Unf lo hi w) (h0:0≤k) (hk:k+sumN ms≤1000000000):
  Calls Tryz.prog 57 #[v,.int .i64 k] w (zot lo hi (k+sumN ms) w):=by
 obtain⟨A,cap,rfl,hcap,hlen⟩:=h.form
 unfold maxLen at hlen
 go_enter Tryz.func57,Tryz.ntmps57
 go_wp2
 go_loopw [5,1] (fun i l wr=>∃(j:Nat) (n:Int),j≤ms.length∧i=.int .i64 j∧l=.int .i64 n∧Hid (n=k+sumN (ms.take j))∧Tw (fun b=>lo≤b∧b<hi) w wr) (fun i _ _=>ms.length-(intOf i).toNat)
 case atStart=>exact⟨0,k,Nat.zero_le _,rfl,rfl,by simp[Hid,sumN],Tw.refl _ _⟩
 case round=>
  obtain⟨j,n,hj,rfl,rfl,hn,hT⟩:=hrel
  by_cases hlt:j<ms.length
  ·obtain⟨b,off,cs,rfl,hX,hQ,hc0⟩:=h.cells hlt
   have hst:=zov ms j hlt
   have hle:=zow ms (j+1)
   obtain⟨hm,_,_,_,rfl⟩:=hQ
   have hc_0:=Tw.cS0 lo hi (hc0 0 _ (by decide) rfl)
   have hc_1:=Tw.cI lo hi (hc0 1 _ (by decide) rfl)
   have hc_2:=Tw.cS lo hi (hc0 2 _ (by decide) rfl)
   have hZ:lo≤b∧b<hi:=by omega
   have hfr:∀W,Tw (fun b=>lo≤b∧b<hi) w W->(∀o,W.frozen? ⟨b,o,none⟩=false)∧b<W.heap.size:=fun W hT9=>hun.at_ hT9 hZ
   clear h hc0
   have hn2:=hn.out
   have hb0:0≤n:=by omega
   have hb1:n+ms[j]≤1000000000:=by omega
   clear hn2
   replace hst:=Lib.hid hst
   replace hle:=Lib.hid hle
   replace hm:=Lib.hid hm
   replace hfr:=Lib.hid hfr
   have hb2:n+3≤1000000000:=by have:=hm.out;omega
   obtain⟨qx0,q0⟩:=hc_0.out wr hT
   obtain⟨qx1,q1⟩:=hc_1.out wr hT
   obtain⟨qx2,q2⟩:=hc_2.out wr hT
   obtain⟨qf,ql⟩:=hfr.out wr hT
   go_wp2_with fail
   refine zdP (fun W=>Tw (fun b=>lo≤b∧b<hi) w W) (by exact twc) ?_
   intro W1 hT1
   clear q0 q1 q2 qf ql
   refine(zoM _ _ (by omega)).mono ?_
   rintro e w1 ⟨rfl,hf1⟩
   have hT1':=hT1.trans (.of0 hf1)
   clear hT1 hf1
   obtain⟨r1_x0,r1_0⟩:=hc_0.out w1 hT1'
   obtain⟨r1_x1,r1_1⟩:=hc_1.out w1 hT1'
   obtain⟨r1_x2,r1_2⟩:=hc_2.out w1 hT1'
   obtain⟨r1_f,r1_l⟩:=hfr.out w1 hT1'
   go_wp2_with fail
   refine zdP (fun W=>Tw (fun b=>lo≤b∧b<hi) w W) (by exact twc) ?_
   intro W2 hT2
   clear r1_0 r1_1 r1_2 r1_f r1_l
   refine(zoM _ _ (by omega)).mono ?_
   rintro e w2 ⟨rfl,hf2⟩
   have hT2':=hT2.trans (.of0 hf2)
   clear hT2 hf2
   obtain⟨r2_x0,r2_0⟩:=hc_0.out w2 hT2'
   obtain⟨r2_x1,r2_1⟩:=hc_1.out w2 hT2'
   obtain⟨r2_x2,r2_2⟩:=hc_2.out w2 hT2'
   obtain⟨r2_f,r2_l⟩:=hfr.out w2 hT2'
   go_wp2
   go_roundw
   case rel=>exact⟨j+1,_,by omega,by go_num,rfl,by(have h1:=hst.out;have h2:=hn.out;have h3:=hm.out;show _=_;omega),by exact twc⟩
   case measure=>simp[intOf];omega
  ·clear h
   have hs:Hid (n=k+sumN ms):=by have:=hn.out;rwa [List.take_of_length_le (by omega)] at this
   go_wp2
   go_ret
   exact⟨by rw[hs.out];rfl,hT⟩
theorem zpr (lo hi:Nat) (v:Value) (ms:List Nat) (k:Int) (w:World) (h:Sl (fun b=>b<lo∨hi≤b) w 2 AskW v ms) (hun:Unf lo hi w) (h0:0≤k) (hk:k+sumN ms≤1000000000):
  Calls Tryz.prog 56 #[v,.int .i64 k] w (zot lo hi (k+sumN ms) w):=by
 obtain⟨A,cap,rfl,hcap,hlen⟩:=h.form
 unfold maxLen at hlen
 go_enter Tryz.func56,Tryz.ntmps56
 go_wp2
 go_loopw [5,1] (fun i l wr=>∃(j:Nat) (n:Int),j≤ms.length∧i=.int .i64 j∧l=.int .i64 n∧Hid (n=k+sumN (ms.take j))∧Tw (fun b=>lo≤b∧b<hi) w wr) (fun i _ _=>ms.length-(intOf i).toNat)
 case atStart=>exact⟨0,k,Nat.zero_le _,rfl,rfl,by simp[Hid,sumN],Tw.refl _ _⟩
 case round=>
  obtain⟨j,n,hj,rfl,rfl,hn,hT⟩:=hrel
  by_cases hlt:j<ms.length
  ·obtain⟨b,off,cs,rfl,hX,hQ,hc0⟩:=h.cells hlt
   have hst:=zov ms j hlt
   have hle:=zow ms (j+1)
   obtain⟨hm,_,_,rfl⟩:=hQ
   have hc_0:=Tw.cS0 lo hi (hc0 0 _ (by decide) rfl)
   have hc_1:=Tw.cI lo hi (hc0 1 _ (by decide) rfl)
   have hZ:lo≤b∧b<hi:=by omega
   have hfr:∀W,Tw (fun b=>lo≤b∧b<hi) w W->(∀o,W.frozen? ⟨b,o,none⟩=false)∧b<W.heap.size:=fun W hT9=>hun.at_ hT9 hZ
   clear h hc0
   have hn2:=hn.out
   have hb0:0≤n:=by omega
   have hb1:n+ms[j]≤1000000000:=by omega
   clear hn2
   replace hst:=Lib.hid hst
   replace hle:=Lib.hid hle
   replace hm:=Lib.hid hm
   replace hfr:=Lib.hid hfr
   have hb2:n+2≤1000000000:=by have:=hm.out;omega
   obtain⟨qx0,q0⟩:=hc_0.out wr hT
   obtain⟨qx1,q1⟩:=hc_1.out wr hT
   obtain⟨qf,ql⟩:=hfr.out wr hT
   go_wp2_with fail
   refine zdP (fun W=>Tw (fun b=>lo≤b∧b<hi) w W) (by exact twc) ?_
   intro W1 hT1
   clear q0 q1 qf ql
   refine(zoM _ _ (by omega)).mono ?_
   rintro e w1 ⟨rfl,hf1⟩
   have hT1':=hT1.trans (.of0 hf1)
   clear hT1 hf1
   obtain⟨r1_x0,r1_0⟩:=hc_0.out w1 hT1'
   obtain⟨r1_x1,r1_1⟩:=hc_1.out w1 hT1'
   obtain⟨r1_f,r1_l⟩:=hfr.out w1 hT1'
   go_wp2
   go_roundw
   case rel=>exact⟨j+1,_,by omega,by go_num,rfl,by(have h1:=hst.out;have h2:=hn.out;have h3:=hm.out;show _=_;omega),by exact twc⟩
   case measure=>simp[intOf];omega
  ·clear h
   have hs:Hid (n=k+sumN ms):=by have:=hn.out;rwa [List.take_of_length_le (by omega)] at this
   go_wp2
   go_ret
   exact⟨by rw[hs.out];rfl,hT⟩
theorem zps (lo hi:Nat) (v:Value) (ms:List Nat) (k:Int) (w:World) (h:Sl (fun b=>b<lo∨hi≤b) w 3 (MapW (fun b=>b<lo∨hi≤b) w) v ms) (hun:Unf lo hi w) (h0:0≤k) (hk:k+sumN ms≤1000000000):
  Calls Tryz.prog 93 #[v,.int .i64 k] w (zot lo hi (k+sumN ms) w):=by
 obtain⟨A,cap,rfl,hcap,hlen⟩:=h.form
 unfold maxLen at hlen
 go_enter Tryz.func93,Tryz.ntmps93
 go_wp2
 go_loopw [5,1] (fun i l wr=>∃(j:Nat) (n:Int),j≤ms.length∧i=.int .i64 j∧l=.int .i64 n∧Hid (n=k+sumN (ms.take j))∧Tw (fun b=>lo≤b∧b<hi) w wr) (fun i _ _=>ms.length-(intOf i).toNat)
 case atStart=>exact⟨0,k,Nat.zero_le _,rfl,rfl,by simp[Hid,sumN],Tw.refl _ _⟩
 case round=>
  obtain⟨j,n,hj,rfl,rfl,hn,hT⟩:=hrel
  by_cases hlt:j<ms.length
  ·obtain⟨b,off,cs,rfl,hX,hQ,hc0⟩:=h.cells hlt
   have hst:=zov ms j hlt
   have hle:=zow ms (j+1)
   obtain⟨_,_,_,m0,m1,rfl,s1,s2,hm⟩:=hQ
   obtain⟨A1,c1,rfl,_,_⟩:=s1.form
   obtain⟨A2,c2,rfl,_,_⟩:=s2.form
   have hS1:=Lib.hid fun W (hT9:Tw (fun b=>lo≤b∧b<hi) w W)=>s1.tw (R':=TagW) hT9 (fun _ _ _ _ h9 a9 b9=>h9.lk a9 b9)
   have hS2:=Lib.hid fun W (hT9:Tw (fun b=>lo≤b∧b<hi) w W)=>s2.tw (R':=TagW) hT9 (fun _ _ _ _ h9 a9 b9=>h9.lk a9 b9)
   have hc_0:=Tw.cI0 lo hi (hc0 0 _ (by decide) rfl)
   have hc_1:=Tw.cL lo hi (hc0 1 _ (by decide) rfl)
   have hc_2:=Tw.cL lo hi (hc0 2 _ (by decide) rfl)
   have hZ:lo≤b∧b<hi:=by omega
   have hfr:∀W,Tw (fun b=>lo≤b∧b<hi) w W->(∀o,W.frozen? ⟨b,o,none⟩=false)∧b<W.heap.size:=fun W hT9=>hun.at_ hT9 hZ
   clear h hc0 s1 s2
   have hn2:=hn.out
   have hb0:0≤n:=by omega
   have hb1:n+ms[j]≤1000000000:=by omega
   clear hn2
   replace hst:=Lib.hid hst
   replace hle:=Lib.hid hle
   replace hm:=Lib.hid hm
   replace hfr:=Lib.hid hfr
   have hb2:n+1+(sumN m0:Int)+(sumN m1:Int)≤1000000000:=by have:=hm.out;omega
   obtain⟨qx0,q0⟩:=hc_0.out wr hT
   have q1:=hc_1.out wr hT
   have q2:=hc_2.out wr hT
   obtain⟨qf,ql⟩:=hfr.out wr hT
   go_wp2_with fail
   refine zdP (fun W=>Tw (fun b=>lo≤b∧b<hi) w W) (by exact twc) ?_
   intro W1 hT1
   clear q0 q1 q2 qf ql
   refine(zpo lo hi _ m0 _ W1 (hS1.out W1 hT1) (hun.tw hT1) (by omega) (by have:=hm.out;omega)).mono ?_
   rintro e w1 ⟨rfl,hf1⟩
   have hT1':=hT1.trans hf1
   clear hT1 hf1
   obtain⟨r1_x0,r1_0⟩:=hc_0.out w1 hT1'
   have r1_1:=hc_1.out w1 hT1'
   have r1_2:=hc_2.out w1 hT1'
   obtain⟨r1_f,r1_l⟩:=hfr.out w1 hT1'
   go_wp2_with fail
   refine zdP (fun W=>Tw (fun b=>lo≤b∧b<hi) w W) (by exact twc) ?_
   intro W2 hT2
   clear r1_0 r1_1 r1_2 r1_f r1_l
   refine(zpo lo hi _ m1 _ W2 (hS2.out W2 hT2) (hun.tw hT2) (by omega) (by have:=hm.out;omega)).mono ?_
   rintro e w2 ⟨rfl,hf2⟩
   have hT2':=hT2.trans hf2
   clear hT2 hf2
   obtain⟨r2_x0,r2_0⟩:=hc_0.out w2 hT2'
   have r2_1:=hc_1.out w2 hT2'
   have r2_2:=hc_2.out w2 hT2'
   obtain⟨r2_f,r2_l⟩:=hfr.out w2 hT2'
   go_wp2
   go_roundw
   case rel=>exact⟨j+1,_,by omega,by go_num,rfl,by(have h1:=hst.out;have h2:=hn.out;have h3:=hm.out;show _=_;omega),by exact twc⟩
   case measure=>simp[intOf];omega
  ·clear h
   have hs:Hid (n=k+sumN ms):=by have:=hn.out;rwa [List.take_of_length_le (by omega)] at this
   go_wp2
   go_ret
   exact⟨by rw[hs.out];rfl,hT⟩
theorem zpt (lo hi:Nat) (v:Value) (ms:List Nat) (k:Int) (w:World) (h:Sl (fun b=>b<lo∨hi≤b) w 8 (MthW (fun b=>b<lo∨hi≤b) w) v ms) (hun:Unf lo hi w) (h0:0≤k) (hk:k+sumN ms≤1000000000):
  Calls Tryz.prog 58 #[v,.int .i64 k] w (zot lo hi (k+sumN ms) w):=by
 obtain⟨A,cap,rfl,hcap,hlen⟩:=h.form
 unfold maxLen at hlen
 go_enter Tryz.func58,Tryz.ntmps58
 go_wp2
 go_loopw [5,1] (fun i l wr=>∃(j:Nat) (n:Int),j≤ms.length∧i=.int .i64 j∧l=.int .i64 n∧Hid (n=k+sumN (ms.take j))∧Tw (fun b=>lo≤b∧b<hi) w wr) (fun i _ _=>ms.length-(intOf i).toNat)
 case atStart=>exact⟨0,k,Nat.zero_le _,rfl,rfl,by simp[Hid,sumN],Tw.refl _ _⟩
 case round=>
  obtain⟨j,n,hj,rfl,rfl,hn,hT⟩:=hrel
  by_cases hlt:j<ms.length
  ·obtain⟨b,off,cs,rfl,hX,hQ,hc0⟩:=h.cells hlt
   have hst:=zov ms j hlt
   have hle:=zow ms (j+1)
   obtain⟨_,_,_,_,_,_,_,_,m0,m1,m2,rfl,s1,s6,s7,hm⟩:=hQ
   obtain⟨A1,c1,rfl,_,_⟩:=s1.form
   obtain⟨A6,c6,rfl,_,_⟩:=s6.form
   obtain⟨A7,c7,rfl,_,_⟩:=s7.form
   have hS1:=Lib.hid fun W (hT9:Tw (fun b=>lo≤b∧b<hi) w W)=>s1.tw (R':=KndW) hT9 (fun _ _ _ _ h9 a9 b9=>h9.lk a9 b9)
   have hS6:=Lib.hid fun W (hT9:Tw (fun b=>lo≤b∧b<hi) w W)=>s6.tw (R':=InsW) hT9 (fun _ _ _ _ h9 a9 b9=>h9.lk a9 b9)
   have hS7:=Lib.hid fun W (hT9:Tw (fun b=>lo≤b∧b<hi) w W)=>s7.tw (R':=(MapW (fun b=>b<lo∨hi≤b) W)) hT9 (fun _ _ _ _ h9 a9 b9=>h9.lk hT9 a9 b9)
   have hc_0:=Tw.cS0 lo hi (hc0 0 _ (by decide) rfl)
   have hc_1:=Tw.cL lo hi (hc0 1 _ (by decide) rfl)
   have hc_2:=Tw.cI lo hi (hc0 2 _ (by decide) rfl)
   have hc_3:=Tw.cS lo hi (hc0 3 _ (by decide) rfl)
   have hc_4:=Tw.cI lo hi (hc0 4 _ (by decide) rfl)
   have hc_5:=Tw.cI lo hi (hc0 5 _ (by decide) rfl)
   have hc_6:=Tw.cL lo hi (hc0 6 _ (by decide) rfl)
   have hc_7:=Tw.cL lo hi (hc0 7 _ (by decide) rfl)
   have hZ:lo≤b∧b<hi:=by omega
   have hfr:∀W,Tw (fun b=>lo≤b∧b<hi) w W->(∀o,W.frozen? ⟨b,o,none⟩=false)∧b<W.heap.size:=fun W hT9=>hun.at_ hT9 hZ
   clear h hc0 s1 s6 s7
   have hn2:=hn.out
   have hb0:0≤n:=by omega
   have hb1:n+ms[j]≤1000000000:=by omega
   clear hn2
   replace hst:=Lib.hid hst
   replace hle:=Lib.hid hle
   replace hm:=Lib.hid hm
   replace hfr:=Lib.hid hfr
   have hb2:n+5+(sumN m0:Int)+(sumN m1:Int)+(sumN m2:Int)≤1000000000:=by have:=hm.out;omega
   obtain⟨qx0,q0⟩:=hc_0.out wr hT
   have q1:=hc_1.out wr hT
   obtain⟨qx2,q2⟩:=hc_2.out wr hT
   obtain⟨qx3,q3⟩:=hc_3.out wr hT
   obtain⟨qx4,q4⟩:=hc_4.out wr hT
   obtain⟨qx5,q5⟩:=hc_5.out wr hT
   have q6:=hc_6.out wr hT
   have q7:=hc_7.out wr hT
   obtain⟨qf,ql⟩:=hfr.out wr hT
   go_wp2_with fail
   refine zdP (fun W=>Tw (fun b=>lo≤b∧b<hi) w W) (by exact twc) ?_
   intro W1 hT1
   clear q0 q1 q2 q3 q4 q5 q6 q7 qf ql
   refine(zoM _ _ (by have:=hm.out;omega)).mono ?_
   rintro e w1 ⟨rfl,hf1⟩
   have hT1':=hT1.trans (.of0 hf1)
   clear hT1 hf1
   obtain⟨r1_x0,r1_0⟩:=hc_0.out w1 hT1'
   have r1_1:=hc_1.out w1 hT1'
   obtain⟨r1_x2,r1_2⟩:=hc_2.out w1 hT1'
   obtain⟨r1_x3,r1_3⟩:=hc_3.out w1 hT1'
   obtain⟨r1_x4,r1_4⟩:=hc_4.out w1 hT1'
   obtain⟨r1_x5,r1_5⟩:=hc_5.out w1 hT1'
   have r1_6:=hc_6.out w1 hT1'
   have r1_7:=hc_7.out w1 hT1'
   obtain⟨r1_f,r1_l⟩:=hfr.out w1 hT1'
   go_wp2_with fail
   refine zdP (fun W=>Tw (fun b=>lo≤b∧b<hi) w W) (by exact twc) ?_
   intro W2 hT2
   clear r1_0 r1_1 r1_2 r1_3 r1_4 r1_5 r1_6 r1_7 r1_f r1_l
   refine(zpn lo hi _ m0 _ W2 (hS1.out W2 hT2) (hun.tw hT2) (by omega) (by have:=hm.out;omega)).mono ?_
   rintro e w2 ⟨rfl,hf2⟩
   have hT2':=hT2.trans hf2
   clear hT2 hf2
   obtain⟨r2_x0,r2_0⟩:=hc_0.out w2 hT2'
   have r2_1:=hc_1.out w2 hT2'
   obtain⟨r2_x2,r2_2⟩:=hc_2.out w2 hT2'
   obtain⟨r2_x3,r2_3⟩:=hc_3.out w2 hT2'
   obtain⟨r2_x4,r2_4⟩:=hc_4.out w2 hT2'
   obtain⟨r2_x5,r2_5⟩:=hc_5.out w2 hT2'
   have r2_6:=hc_6.out w2 hT2'
   have r2_7:=hc_7.out w2 hT2'
   obtain⟨r2_f,r2_l⟩:=hfr.out w2 hT2'
   go_wp2_with fail
   refine zdP (fun W=>Tw (fun b=>lo≤b∧b<hi) w W) (by exact twc) ?_
   intro W3 hT3
   clear r2_0 r2_1 r2_2 r2_3 r2_4 r2_5 r2_6 r2_7 r2_f r2_l
   refine(zoM _ _ (by have:=hm.out;omega)).mono ?_
   rintro e w3 ⟨rfl,hf3⟩
   have hT3':=hT3.trans (.of0 hf3)
   clear hT3 hf3
   obtain⟨r3_x0,r3_0⟩:=hc_0.out w3 hT3'
   have r3_1:=hc_1.out w3 hT3'
   obtain⟨r3_x2,r3_2⟩:=hc_2.out w3 hT3'
   obtain⟨r3_x3,r3_3⟩:=hc_3.out w3 hT3'
   obtain⟨r3_x4,r3_4⟩:=hc_4.out w3 hT3'
   obtain⟨r3_x5,r3_5⟩:=hc_5.out w3 hT3'
   have r3_6:=hc_6.out w3 hT3'
   have r3_7:=hc_7.out w3 hT3'
   obtain⟨r3_f,r3_l⟩:=hfr.out w3 hT3'
   go_wp2_with fail
   refine zdP (fun W=>Tw (fun b=>lo≤b∧b<hi) w W) (by exact twc) ?_
   intro W4 hT4
   clear r3_0 r3_1 r3_2 r3_3 r3_4 r3_5 r3_6 r3_7 r3_f r3_l
   refine(zpp lo hi _ m1 _ W4 (hS6.out W4 hT4) (hun.tw hT4) (by omega) (by have:=hm.out;omega)).mono ?_
   rintro e w4 ⟨rfl,hf4⟩
   have hT4':=hT4.trans hf4
   clear hT4 hf4
   obtain⟨r4_x0,r4_0⟩:=hc_0.out w4 hT4'
   have r4_1:=hc_1.out w4 hT4'
   obtain⟨r4_x2,r4_2⟩:=hc_2.out w4 hT4'
   obtain⟨r4_x3,r4_3⟩:=hc_3.out w4 hT4'
   obtain⟨r4_x4,r4_4⟩:=hc_4.out w4 hT4'
   obtain⟨r4_x5,r4_5⟩:=hc_5.out w4 hT4'
   have r4_6:=hc_6.out w4 hT4'
   have r4_7:=hc_7.out w4 hT4'
   obtain⟨r4_f,r4_l⟩:=hfr.out w4 hT4'
   go_wp2_with fail
   refine zdP (fun W=>Tw (fun b=>lo≤b∧b<hi) w W) (by exact twc) ?_
   intro W5 hT5
   clear r4_0 r4_1 r4_2 r4_3 r4_4 r4_5 r4_6 r4_7 r4_f r4_l
   refine(zps lo hi _ m2 _ W5 (hS7.out W5 hT5) (hun.tw hT5) (by omega) (by have:=hm.out;omega)).mono ?_
   rintro e w5 ⟨rfl,hf5⟩
   have hT5':=hT5.trans hf5
   clear hT5 hf5
   obtain⟨r5_x0,r5_0⟩:=hc_0.out w5 hT5'
   have r5_1:=hc_1.out w5 hT5'
   obtain⟨r5_x2,r5_2⟩:=hc_2.out w5 hT5'
   obtain⟨r5_x3,r5_3⟩:=hc_3.out w5 hT5'
   obtain⟨r5_x4,r5_4⟩:=hc_4.out w5 hT5'
   obtain⟨r5_x5,r5_5⟩:=hc_5.out w5 hT5'
   have r5_6:=hc_6.out w5 hT5'
   have r5_7:=hc_7.out w5 hT5'
   obtain⟨r5_f,r5_l⟩:=hfr.out w5 hT5'
   go_wp2
   go_roundw
   case rel=>exact⟨j+1,_,by omega,by go_num,rfl,by(have h1:=hst.out;have h2:=hn.out;have h3:=hm.out;show _=_;omega),by exact twc⟩
   case measure=>simp[intOf];omega
  ·clear h
   have hs:Hid (n=k+sumN ms):=by have:=hn.out;rwa [List.take_of_length_le (by omega)] at this
   go_wp2
   go_ret
   exact⟨by rw[hs.out];rfl,hT⟩
theorem zpu (lo hi:Nat) (v:Value) (ms:List Nat) (k:Int) (w:World) (h:Sl (fun b=>b<lo∨hi≤b) w 4 (ClsW (fun b=>b<lo∨hi≤b) w) v ms) (hun:Unf lo hi w) (h0:0≤k) (hk:k+sumN ms≤1000000000):
  Calls Tryz.prog 55 #[v,.int .i64 k] w (zot lo hi (k+sumN ms) w):=by
 obtain⟨A,cap,rfl,hcap,hlen⟩:=h.form
 unfold maxLen at hlen
 go_enter Tryz.func55,Tryz.ntmps55
 go_wp2
 go_loopw [5,1] (fun i l wr=>∃(j:Nat) (n:Int),j≤ms.length∧i=.int .i64 j∧l=.int .i64 n∧Hid (n=k+sumN (ms.take j))∧Tw (fun b=>lo≤b∧b<hi) w wr) (fun i _ _=>ms.length-(intOf i).toNat)
 case atStart=>exact⟨0,k,Nat.zero_le _,rfl,rfl,by simp[Hid,sumN],Tw.refl _ _⟩
 case round=>
  obtain⟨j,n,hj,rfl,rfl,hn,hT⟩:=hrel
  by_cases hlt:j<ms.length
  ·obtain⟨b,off,cs,rfl,hX,hQ,hc0⟩:=h.cells hlt
   have hst:=zov ms j hlt
   have hle:=zow ms (j+1)
   obtain⟨_,_,_,_,m0,m1,rfl,s2,s3,hm⟩:=hQ
   obtain⟨A2,c2,rfl,_,_⟩:=s2.form
   obtain⟨A3,c3,rfl,_,_⟩:=s3.form
   have hS2:=Lib.hid fun W (hT9:Tw (fun b=>lo≤b∧b<hi) w W)=>s2.tw (R':=FldW) hT9 (fun _ _ _ _ h9 a9 b9=>h9.lk a9 b9)
   have hS3:=Lib.hid fun W (hT9:Tw (fun b=>lo≤b∧b<hi) w W)=>s3.tw (R':=(MthW (fun b=>b<lo∨hi≤b) W)) hT9 (fun _ _ _ _ h9 a9 b9=>h9.lk hT9 a9 b9)
   have hc_0:=Tw.cS0 lo hi (hc0 0 _ (by decide) rfl)
   have hc_1:=Tw.cS lo hi (hc0 1 _ (by decide) rfl)
   have hc_2:=Tw.cL lo hi (hc0 2 _ (by decide) rfl)
   have hc_3:=Tw.cL lo hi (hc0 3 _ (by decide) rfl)
   have hZ:lo≤b∧b<hi:=by omega
   have hfr:∀W,Tw (fun b=>lo≤b∧b<hi) w W->(∀o,W.frozen? ⟨b,o,none⟩=false)∧b<W.heap.size:=fun W hT9=>hun.at_ hT9 hZ
   clear h hc0 s2 s3
   have hn2:=hn.out
   have hb0:0≤n:=by omega
   have hb1:n+ms[j]≤1000000000:=by omega
   clear hn2
   replace hst:=Lib.hid hst
   replace hle:=Lib.hid hle
   replace hm:=Lib.hid hm
   replace hfr:=Lib.hid hfr
   have hb2:n+2+(sumN m0:Int)+(sumN m1:Int)≤1000000000:=by have:=hm.out;omega
   obtain⟨qx0,q0⟩:=hc_0.out wr hT
   obtain⟨qx1,q1⟩:=hc_1.out wr hT
   have q2:=hc_2.out wr hT
   have q3:=hc_3.out wr hT
   obtain⟨qf,ql⟩:=hfr.out wr hT
   go_wp2_with fail
   refine zdP (fun W=>Tw (fun b=>lo≤b∧b<hi) w W) (by exact twc) ?_
   intro W1 hT1
   clear q0 q1 q2 q3 qf ql
   refine(zoM _ _ (by have:=hm.out;omega)).mono ?_
   rintro e w1 ⟨rfl,hf1⟩
   have hT1':=hT1.trans (.of0 hf1)
   clear hT1 hf1
   obtain⟨r1_x0,r1_0⟩:=hc_0.out w1 hT1'
   obtain⟨r1_x1,r1_1⟩:=hc_1.out w1 hT1'
   have r1_2:=hc_2.out w1 hT1'
   have r1_3:=hc_3.out w1 hT1'
   obtain⟨r1_f,r1_l⟩:=hfr.out w1 hT1'
   go_wp2_with fail
   refine zdP (fun W=>Tw (fun b=>lo≤b∧b<hi) w W) (by exact twc) ?_
   intro W2 hT2
   clear r1_0 r1_1 r1_2 r1_3 r1_f r1_l
   refine(zoM _ _ (by have:=hm.out;omega)).mono ?_
   rintro e w2 ⟨rfl,hf2⟩
   have hT2':=hT2.trans (.of0 hf2)
   clear hT2 hf2
   obtain⟨r2_x0,r2_0⟩:=hc_0.out w2 hT2'
   obtain⟨r2_x1,r2_1⟩:=hc_1.out w2 hT2'
   have r2_2:=hc_2.out w2 hT2'
   have r2_3:=hc_3.out w2 hT2'
   obtain⟨r2_f,r2_l⟩:=hfr.out w2 hT2'
   go_wp2_with fail
   refine zdP (fun W=>Tw (fun b=>lo≤b∧b<hi) w W) (by exact twc) ?_
   intro W3 hT3
   clear r2_0 r2_1 r2_2 r2_3 r2_f r2_l
   refine(zpq lo hi _ m0 _ W3 (hS2.out W3 hT3) (hun.tw hT3) (by omega) (by have:=hm.out;omega)).mono ?_
   rintro e w3 ⟨rfl,hf3⟩
   have hT3':=hT3.trans hf3
   clear hT3 hf3
   obtain⟨r3_x0,r3_0⟩:=hc_0.out w3 hT3'
   obtain⟨r3_x1,r3_1⟩:=hc_1.out w3 hT3'
   have r3_2:=hc_2.out w3 hT3'
   have r3_3:=hc_3.out w3 hT3'
   obtain⟨r3_f,r3_l⟩:=hfr.out w3 hT3'
   go_wp2_with fail
   refine zdP (fun W=>Tw (fun b=>lo≤b∧b<hi) w W) (by exact twc) ?_
   intro W4 hT4
   clear r3_0 r3_1 r3_2 r3_3 r3_f r3_l
   refine(zpt lo hi _ m1 _ W4 (hS3.out W4 hT4) (hun.tw hT4) (by omega) (by have:=hm.out;omega)).mono ?_
   rintro e w4 ⟨rfl,hf4⟩
   have hT4':=hT4.trans hf4
   clear hT4 hf4
   obtain⟨r4_x0,r4_0⟩:=hc_0.out w4 hT4'
   obtain⟨r4_x1,r4_1⟩:=hc_1.out w4 hT4'
   have r4_2:=hc_2.out w4 hT4'
   have r4_3:=hc_3.out w4 hT4'
   obtain⟨r4_f,r4_l⟩:=hfr.out w4 hT4'
   go_wp2
   go_roundw
   case rel=>exact⟨j+1,_,by omega,by go_num,rfl,by(have h1:=hst.out;have h2:=hn.out;have h3:=hm.out;show _=_;omega),by exact twc⟩
   case measure=>simp[intOf];omega
  ·clear h
   have hs:Hid (n=k+sumN ms):=by have:=hn.out;rwa [List.take_of_length_le (by omega)] at this
   go_wp2
   go_ret
   exact⟨by rw[hs.out];rfl,hT⟩
theorem zpv (lo hi:Nat) (v:Value) (ms:List Nat) (k:Int) (w:World) (h:Sl (fun b=>b<lo∨hi≤b) w 2 (KprW (fun b=>b<lo∨hi≤b) w) v ms) (hun:Unf lo hi w) (h0:0≤k) (hk:k+sumN ms≤1000000000):
  Calls Tryz.prog 28 #[v,.int .i64 k] w (zot lo hi (k+sumN ms) w):=by
 obtain⟨A,cap,rfl,hcap,hlen⟩:=h.form
 unfold maxLen at hlen
 go_enter Tryz.func28,Tryz.ntmps28
 go_wp2
 go_loopw [5,1] (fun i l wr=>∃(j:Nat) (n:Int),j≤ms.length∧i=.int .i64 j∧l=.int .i64 n∧Hid (n=k+sumN (ms.take j))∧Tw (fun b=>lo≤b∧b<hi) w wr) (fun i _ _=>ms.length-(intOf i).toNat)
 case atStart=>exact⟨0,k,Nat.zero_le _,rfl,rfl,by simp[Hid,sumN],Tw.refl _ _⟩
 case round=>
  obtain⟨j,n,hj,rfl,rfl,hn,hT⟩:=hrel
  by_cases hlt:j<ms.length
  ·obtain⟨b,off,cs,rfl,hX,hQ,hc0⟩:=h.cells hlt
   have hst:=zov ms j hlt
   have hle:=zow ms (j+1)
   obtain⟨_,_,m0,m1,rfl,s0,s1,hm⟩:=hQ
   obtain⟨A0,c0,rfl,_,_⟩:=s0.form
   obtain⟨A1,c1,rfl,_,_⟩:=s1.form
   have hS0:=Lib.hid fun W (hT9:Tw (fun b=>lo≤b∧b<hi) w W)=>s0.tw (R':=(ClsW (fun b=>b<lo∨hi≤b) W)) hT9 (fun _ _ _ _ h9 a9 b9=>h9.lk hT9 a9 b9)
   have hS1:=Lib.hid fun W (hT9:Tw (fun b=>lo≤b∧b<hi) w W)=>s1.tw (R':=AskW) hT9 (fun _ _ _ _ h9 a9 b9=>h9.lk a9 b9)
   have hc_0:=Tw.cL0 lo hi (hc0 0 _ (by decide) rfl)
   have hc_1:=Tw.cL lo hi (hc0 1 _ (by decide) rfl)
   have hZ:lo≤b∧b<hi:=by omega
   have hfr:∀W,Tw (fun b=>lo≤b∧b<hi) w W->(∀o,W.frozen? ⟨b,o,none⟩=false)∧b<W.heap.size:=fun W hT9=>hun.at_ hT9 hZ
   clear h hc0 s0 s1
   have hn2:=hn.out
   have hb0:0≤n:=by omega
   have hb1:n+ms[j]≤1000000000:=by omega
   clear hn2
   replace hst:=Lib.hid hst
   replace hle:=Lib.hid hle
   replace hm:=Lib.hid hm
   replace hfr:=Lib.hid hfr
   have hb2:n+0+(sumN m0:Int)+(sumN m1:Int)≤1000000000:=by have:=hm.out;omega
   have q0:=hc_0.out wr hT
   have q1:=hc_1.out wr hT
   obtain⟨qf,ql⟩:=hfr.out wr hT
   go_wp2_with fail
   refine zdP (fun W=>Tw (fun b=>lo≤b∧b<hi) w W) (by exact twc) ?_
   intro W1 hT1
   clear q0 q1 qf ql
   refine(zpu lo hi _ m0 _ W1 (hS0.out W1 hT1) (hun.tw hT1) (by omega) (by have:=hm.out;omega)).mono ?_
   rintro e w1 ⟨rfl,hf1⟩
   have hT1':=hT1.trans hf1
   clear hT1 hf1
   have r1_0:=hc_0.out w1 hT1'
   have r1_1:=hc_1.out w1 hT1'
   obtain⟨r1_f,r1_l⟩:=hfr.out w1 hT1'
   go_wp2_with fail
   refine zdP (fun W=>Tw (fun b=>lo≤b∧b<hi) w W) (by exact twc) ?_
   intro W2 hT2
   clear r1_0 r1_1 r1_f r1_l
   refine(zpr lo hi _ m1 _ W2 (hS1.out W2 hT2) (hun.tw hT2) (by omega) (by have:=hm.out;omega)).mono ?_
   rintro e w2 ⟨rfl,hf2⟩
   have hT2':=hT2.trans hf2
   clear hT2 hf2
   have r2_0:=hc_0.out w2 hT2'
   have r2_1:=hc_1.out w2 hT2'
   obtain⟨r2_f,r2_l⟩:=hfr.out w2 hT2'
   go_wp2
   go_roundw
   case rel=>exact⟨j+1,_,by omega,by go_num,rfl,by(have h1:=hst.out;have h2:=hn.out;have h3:=hm.out;show _=_;omega),by exact twc⟩
   case measure=>simp[intOf];omega
  ·clear h
   have hs:Hid (n=k+sumN ms):=by have:=hn.out;rwa [List.take_of_length_le (by omega)] at this
   go_wp2
   go_ret
   exact⟨by rw[hs.out];rfl,hT⟩
end Go.Proofs.YtpghfhjhjlmljaaGreat
