/- The lines that are drawn. -/
import Derived.Test.YtmeaibjmnjcdfaaGreatVG35
set_option maxHeartbeats 8000000
set_option maxRecDepth 100000
namespace Go.Proofs.YtmeaibjmnjcdfaaGreat
open Go.RowKit
def zto (rb q:Nat) (w:World) (e:Ending) (w':World):Prop:=∃(v:Value) (ls:List Str),e=.returned v∧zsS ls∧(∀s∈ls,s.size≤1000)∧Sl (fun b=>b<w.heap.size) w' 1 StrC v ls∧RdB w' rb (q+6)∧Fr (fun b=>b=rb) w w'
theorem ztg.new {n:Nat} {w:World} (h:ztg n w):n+11<w.heap.size:=h.1.lt
theorem ztp (rb q:Nat) (w:World) (h:RdB w rb q) (hq:q≤100000):
  Calls Tryz.prog 43 #[.pointer (some ⟨rb,0,none⟩)] w (zto rb q w):=by
 have hrl:=h.lt
 have HB:=ztj w
 go_enter Tryz.func43,Tryz.ntmps43
 go_wp2_with (go_at_call 88;refine HB.mono ?_;rintro e w1 ⟨rfl,BA1,hf1,hsz⟩;refine Hid.out ?_)
 refine Lib.hid ?_
 have hr1:=h.keep hf1
 have hw1:Fr (fun b=>b=rb) w w1:=hf1.of0
 have hsl:w.heap.size+12≤w1.heap.size:=by omega
 clear HB h hsz
 have H2:=fun W (hW:Fr No w1 W)=>zrd rb (q+0) 4 W (hr1.keep hW) (by omega) (by omega) (by omega)
 go_wp2_with (go_at_call 47;refine(H2 _ (by exact frc)).mono ?_;rintro e w2 ⟨k2,hk2,rfl,hr2,hf2⟩;refine Hid.out ?_)
 refine Lib.hid ?_
 have hrl2:=hr2.lt
 have N2:=(Bx.new w1 3 #[.int .i64 0,.int .i64 0,.int .i64 0,.int .i64 7]).keepX hf2 (by omega)
 obtain⟨v2,hv2,t,rfl,ht⟩:=zsa (P:=fun v=>∃x:Nat,v=.int .i64 (x:Int)∧(x=0∨x=7)) (l:=(#[.int .i64 0,.int .i64 0,.int .i64 0,.int .i64 7]:Array Value).toList) (by
  intro v hv
  simp only[List.mem_cons,List.not_mem_nil,or_false] at hv
  rcases hv with rfl|rfl|rfl|rfl
  all_goals first
   | exact⟨0,rfl,by omega⟩
   | exact⟨7,rfl,by omega⟩) hk2 (by decide)
 have cx2:w2.cell? ⟨w1.heap.size,k2,none⟩=some (.int .i64 (t:Int)):=by
  have:=N2.cell k2
  rw[<-hv2]
  simpa using this
 have lt:t<11:=by omega
 have BA2:=(BA1.keep ((Fr.refl No w1).alloc (.cells #[.int .i64 0,.int .i64 0,.int .i64 0,.int .i64 7] 3)) (fun _ _ _ h=>h)).keep hf2 (fun b h1 h2 e=>by omega)
 have cb2:=BA2.cell t lt
 have nl2:=N2.lt
 have hw2:Fr (fun b=>b=rb) w w2:=(hw1.alloc _).same hf2
 have hz2:=hw2.size
 have bl2:=BA2.1.lt
 clear H2 hv2 N2 BA1 hr1
 have H3:=fun W (hW:Fr No w2 W)=>zrd rb (q+1) 4 W (hr2.keep hW) (by omega) (by omega) (by omega)
 go_wp2_with (go_at_call 47;refine(H3 _ (by exact frc)).mono ?_;rintro e w3 ⟨k3,hk3,rfl,hr3,hf3⟩;refine Hid.out ?_)
 refine Lib.hid ?_
 have hrl3:=hr3.lt
 have N3:=(Bx.new w2 3 #[.int .i64 1,.int .i64 1,.int .i64 1,.int .i64 8]).keepX hf3 (by omega)
 obtain⟨v3,hv3,c,rfl,hc⟩:=zsa (P:=fun v=>∃x:Nat,v=.int .i64 (x:Int)∧(x=1∨x=8)) (l:=(#[.int .i64 1,.int .i64 1,.int .i64 1,.int .i64 8]:Array Value).toList) (by
  intro v hv
  simp only[List.mem_cons,List.not_mem_nil,or_false] at hv
  rcases hv with rfl|rfl|rfl|rfl
  all_goals first
   | exact⟨1,rfl,by omega⟩
   | exact⟨8,rfl,by omega⟩) hk3 (by decide)
 have cx3:w3.cell? ⟨w2.heap.size,k3,none⟩=some (.int .i64 (c:Int)):=by
  have:=N3.cell k3
  rw[<-hv3]
  simpa using this
 have lc:c<11:=by omega
 have BA3:=(BA2.keep ((Fr.refl No w2).alloc (.cells #[.int .i64 1,.int .i64 1,.int .i64 1,.int .i64 8] 3)) (fun _ _ _ h=>h)).keep hf3 (fun b h1 h2 e=>by omega)
 have cb3:=BA3.cell c lc
 have nl3:=N3.lt
 have hw3:Fr (fun b=>b=rb) w w3:=(hw2.alloc _).same hf3
 have hz3:=hw3.size
 have bl3:=BA3.1.lt
 clear H3 hv3 N3 BA2 hr2
 have H4:=fun W (hW:Fr No w3 W)=>zrd rb (q+2) 8 W (hr3.keep hW) (by omega) (by omega) (by omega)
 go_wp2_with (go_at_call 47;refine(H4 _ (by exact frc)).mono ?_;rintro e w4 ⟨k4,hk4,rfl,hr4,hf4⟩;refine Hid.out ?_)
 refine Lib.hid ?_
 have hrl4:=hr4.lt
 have N4:=(Bx.new w3 3 #[.int .i64 2,.int .i64 3,.int .i64 4,.int .i64 5,.int .i64 6,.int .i64 3,.int .i64 9,.int .i64 10]).keepX hf4 (by omega)
 obtain⟨v4,hv4,m,rfl,hm⟩:=zsa (P:=fun v=>∃x:Nat,v=.int .i64 (x:Int)∧(x=2∨x=3∨x=4∨x=5∨x=6∨x=9∨x=10)) (l:=(#[.int .i64 2,.int .i64 3,.int .i64 4,.int .i64 5,.int .i64 6,.int .i64 3,.int .i64 9,.int .i64 10]:Array Value).toList) (by
  intro v hv
  simp only[List.mem_cons,List.not_mem_nil,or_false] at hv
  rcases hv with rfl|rfl|rfl|rfl|rfl|rfl|rfl|rfl
  all_goals first
   | exact⟨2,rfl,by omega⟩
   | exact⟨3,rfl,by omega⟩
   | exact⟨4,rfl,by omega⟩
   | exact⟨5,rfl,by omega⟩
   | exact⟨6,rfl,by omega⟩
   | exact⟨9,rfl,by omega⟩
   | exact⟨10,rfl,by omega⟩) hk4 (by decide)
 have cx4:w4.cell? ⟨w3.heap.size,k4,none⟩=some (.int .i64 (m:Int)):=by
  have:=N4.cell k4
  rw[<-hv4]
  simpa using this
 have lm:m<11:=by omega
 have BA4:=(BA3.keep ((Fr.refl No w3).alloc (.cells #[.int .i64 2,.int .i64 3,.int .i64 4,.int .i64 5,.int .i64 6,.int .i64 3,.int .i64 9,.int .i64 10] 3)) (fun _ _ _ h=>h)).keep hf4 (fun b h1 h2 e=>by omega)
 have cb4:=BA4.cell m lm
 have nl4:=N4.lt
 have hw4:Fr (fun b=>b=rb) w w4:=(hw3.alloc _).same hf4
 have hz4:=hw4.size
 have bl4:=BA4.1.lt
 clear H4 hv4 N4 BA3 hr3
 have H5:=fun W (hW:Fr No w4 W)=>zrd rb (q+3) 6 W (hr4.keep hW) (by omega) (by omega) (by omega)
 go_wp2_with (go_at_call 47;refine(H5 _ (by exact frc)).mono ?_;rintro e w5 ⟨k5,hk5,rfl,hr5,hf5⟩;refine Hid.out ?_)
 refine Lib.hid ?_
 have hrl5:=hr5.lt
 have O5:=(zqY.lit w4 [kpL] (by decide)).keepX hf5 (fun b h e=>by omega)
 have BA5:=(BA4.keep ((Fr.refl No w4).alloc (.cells (rowS [kpL]) 9)) (fun _ _ _ h=>h)).keep hf5 (fun b h1 h2 e=>by omega)
 have hw5:Fr (fun b=>b=rb) w w5:=(hw4.alloc _).same hf5
 have hz5:=hf5.size
 rw[World.size_alloc] at hz5
 have hzz5:=hw5.size
 have hfin:∀(v:Value) (ls:List Str) (W:World),zsS ls->(∀s∈ls,s.size≤1000)->zqY W w4.heap.size v ls->RdB W rb (q+6)->Fr (fun b=>b=rb) w W->zto rb q w (.returned v) W:=fun v ls W h1 h2 h3 h4 h5=>⟨v,ls,rfl,h1,h2,(h3.sl (fun s hs=>by have:=h2 s hs;unfold maxLen;omega)).weaken (fun b e=>by have:b<w.heap.size:=e;show b<w4.heap.size;omega) (fun _ _ _ h=>h),h4,h5⟩
 replace hfin:=Lib.hid hfin
 clear H5 BA4 hr4 cx4 cx3 cx2 hf5
 have pt:=ztl t lt
 have pc:=ztl c lc
 have pm:=ztl m lm
 have nt:=zsX t
 have nc:=zsX c
 have nm:=zsX m
 have hst:=Lib.hid (ztm t lt)
 have hsc:=Lib.hid (ztm c lc)
 have hsm:=Lib.hid (ztm m lm)
 have hc5:k5=0∨k5=1∨k5=2∨k5=3∨k5=4∨k5=5:=by omega
 rcases hc5 with rfl|rfl|rfl|rfl|rfl|rfl
 ·go_wp2_with (at_builtin;refine Hid.out ?_)
  refine Lib.hid ?_
  refine ztn rfl _ _ rfl w4.heap.size (.slice (some ⟨w4.heap.size,0,none⟩) 1 1) ([kpL]) rfl O5 (by simp only[List.length_cons,List.length_nil];omega) No _ (zst t) rfl (BA5.sl t lt (X:=No) (fun h=>h)) (by omega) (by omega) (by omega) ?_
  intro g6 c6 w6 O6 hf6 hg6
  have BA6:=BA5.keep hf6 (fun b h1 h2 (e:w4.heap.size≤b)=>by omega)
  have hr6:=hr5.far hf6 (fun b (e:w4.heap.size≤b)=>by omega)
  have hw6:=hw5.trans hf6 (fun b hb (e:w4.heap.size≤b)=>by omega)
  have hz6:w4.heap.size≤w6.heap.size:=by have:=hf6.size;omega
  simp only[Act.put,lz0,lz1,lz2]
  clear BA5 hr5 hw5 O5 hf6
  go_wp2_with (at_builtin;refine Hid.out ?_)
  refine Lib.hid ?_
  refine ztn rfl _ _ rfl w4.heap.size (.slice (some ⟨g6,0,none⟩) _ c6) ([kpL] ++ zst t) rfl O6 (by simp only[List.length_append,List.length_cons,List.length_nil];omega) No _ (zst c) rfl (BA6.sl c lc (X:=No) (fun h=>h)) (by omega) (by omega) (by omega) ?_
  intro g7 c7 w7 O7 hf7 hg7
  have BA7:=BA6.keep hf7 (fun b h1 h2 (e:w4.heap.size≤b)=>by omega)
  have hr7:=hr6.far hf7 (fun b (e:w4.heap.size≤b)=>by omega)
  have hw7:=hw6.trans hf7 (fun b hb (e:w4.heap.size≤b)=>by omega)
  have hz7:w4.heap.size≤w7.heap.size:=by have:=hf7.size;omega
  simp only[Act.put,lz0,lz1,lz2]
  clear BA6 hr6 hw6 O6 hf7
  go_wp2_with (at_builtin;refine Hid.out ?_)
  refine Lib.hid ?_
  refine ztn rfl _ _ rfl w4.heap.size (.slice (some ⟨g7,0,none⟩) _ c7) (([kpL] ++ zst t) ++ zst c) rfl O7 (by simp only[List.length_append,List.length_cons,List.length_nil];omega) No _ (zst m) rfl (BA7.sl m lm (X:=No) (fun h=>h)) (by omega) (by omega) (by omega) ?_
  intro g8 c8 w8 O8 hf8 hg8
  have BA8:=BA7.keep hf8 (fun b h1 h2 (e:w4.heap.size≤b)=>by omega)
  have hr8:=hr7.far hf8 (fun b (e:w4.heap.size≤b)=>by omega)
  have hw8:=hw7.trans hf8 (fun b hb (e:w4.heap.size≤b)=>by omega)
  have hz8:w4.heap.size≤w8.heap.size:=by have:=hf8.size;omega
  simp only[Act.put,lz0,lz1,lz2]
  clear BA7 hr7 hw7 O7 hf8
  go_wp2_with fail
  refine bodyPost_ret (results_tmp rfl _ _ _) rfl ?_
  refine hfin.out _ ((([kpL] ++ zst t) ++ zst c) ++ zst m) _ ⟨t,c,m,0,0,ht,hc,hm,.inl rfl,.inl (by simp)⟩ ?_ O8 (hr8.up (by omega)) hw8
  intro s hs
  simp only[List.mem_append,List.mem_singleton] at hs
  rcases hs with ((rfl|hs)|hs)|hs
  ·decide
  all_goals first|exact hst.out s hs|exact hsc.out s hs|exact hsm.out s hs
 ·go_wp2_with (at_builtin;refine Hid.out ?_)
  refine Lib.hid ?_
  refine ztn rfl _ _ rfl w4.heap.size (.slice (some ⟨w4.heap.size,0,none⟩) 1 1) ([kpL]) rfl O5 (by simp only[List.length_cons,List.length_nil];omega) No _ (zst t) rfl (BA5.sl t lt (X:=No) (fun h=>h)) (by omega) (by omega) (by omega) ?_
  intro g6 c6 w6 O6 hf6 hg6
  have BA6:=BA5.keep hf6 (fun b h1 h2 (e:w4.heap.size≤b)=>by omega)
  have hr6:=hr5.far hf6 (fun b (e:w4.heap.size≤b)=>by omega)
  have hw6:=hw5.trans hf6 (fun b hb (e:w4.heap.size≤b)=>by omega)
  have hz6:w4.heap.size≤w6.heap.size:=by have:=hf6.size;omega
  simp only[Act.put,lz0,lz1,lz2]
  clear BA5 hr5 hw5 O5 hf6
  go_wp2_with (at_builtin;refine Hid.out ?_)
  refine Lib.hid ?_
  refine ztn rfl _ _ rfl w4.heap.size (.slice (some ⟨g6,0,none⟩) _ c6) ([kpL] ++ zst t) rfl O6 (by simp only[List.length_append,List.length_cons,List.length_nil];omega) No _ (zst c) rfl (BA6.sl c lc (X:=No) (fun h=>h)) (by omega) (by omega) (by omega) ?_
  intro g7 c7 w7 O7 hf7 hg7
  have BA7:=BA6.keep hf7 (fun b h1 h2 (e:w4.heap.size≤b)=>by omega)
  have hr7:=hr6.far hf7 (fun b (e:w4.heap.size≤b)=>by omega)
  have hw7:=hw6.trans hf7 (fun b hb (e:w4.heap.size≤b)=>by omega)
  have hz7:w4.heap.size≤w7.heap.size:=by have:=hf7.size;omega
  simp only[Act.put,lz0,lz1,lz2]
  clear BA6 hr6 hw6 O6 hf7
  go_wp2_with (at_builtin;refine Hid.out ?_)
  refine Lib.hid ?_
  refine ztn rfl _ _ rfl w4.heap.size (.slice (some ⟨g7,0,none⟩) _ c7) (([kpL] ++ zst t) ++ zst c) rfl O7 (by simp only[List.length_append,List.length_cons,List.length_nil];omega) No _ (zst m) rfl (BA7.sl m lm (X:=No) (fun h=>h)) (by omega) (by omega) (by omega) ?_
  intro g8 c8 w8 O8 hf8 hg8
  have BA8:=BA7.keep hf8 (fun b h1 h2 (e:w4.heap.size≤b)=>by omega)
  have hr8:=hr7.far hf8 (fun b (e:w4.heap.size≤b)=>by omega)
  have hw8:=hw7.trans hf8 (fun b hb (e:w4.heap.size≤b)=>by omega)
  have hz8:w4.heap.size≤w8.heap.size:=by have:=hf8.size;omega
  simp only[Act.put,lz0,lz1,lz2]
  clear BA7 hr7 hw7 O7 hf8
  go_wp2_with fail
  refine bodyPost_ret (results_tmp rfl _ _ _) rfl ?_
  refine hfin.out _ ((([kpL] ++ zst t) ++ zst c) ++ zst m) _ ⟨t,c,m,0,0,ht,hc,hm,.inl rfl,.inl (by simp)⟩ ?_ O8 (hr8.up (by omega)) hw8
  intro s hs
  simp only[List.mem_append,List.mem_singleton] at hs
  rcases hs with ((rfl|hs)|hs)|hs
  ·decide
  all_goals first|exact hst.out s hs|exact hsc.out s hs|exact hsm.out s hs
 ·have al5:=(Fr.refl No w5).alloc (.cells (rowS [askL nTop 49,askL zsH 49]) 9)
  have BA5:=BA5.keep al5 (fun _ _ _ h=>h)
  have O5:=O5.keep al5
  have hr5:=hr5.keep al5
  have hw5:=hw5.trans0 al5
  have hu5:=Sl.ofBx (X:=No) (Bx.new w5 9 (rowS [askL nTop 49,askL zsH 49])) (fun h=>h) rfl (by decide) (by decide)
  go_wp2_with (at_builtin;refine Hid.out ?_)
  refine Lib.hid ?_
  refine ztn rfl _ _ rfl w4.heap.size (.slice (some ⟨w4.heap.size,0,none⟩) 1 1) ([kpL]) rfl O5 (by simp only[List.length_cons,List.length_nil];omega) No _ ([askL nTop 49,askL zsH 49]) rfl hu5 (by decide) (by decide) (by rw[World.size_alloc];omega) ?_
  intro g6 c6 w6 O6 hf6 hg6
  have BA6:=BA5.keep hf6 (fun b h1 h2 (e:w4.heap.size≤b)=>by omega)
  have hr6:=hr5.far hf6 (fun b (e:w4.heap.size≤b)=>by omega)
  have hw6:=hw5.trans hf6 (fun b hb (e:w4.heap.size≤b)=>by omega)
  have hz6:w4.heap.size≤w6.heap.size:=by have h9:=hf6.size;rw[World.size_alloc] at h9;omega
  simp only[Act.put,lz0,lz1,lz2]
  clear BA5 hr5 hw5 O5 hf6 hu5 al5
  go_wp2_with (at_builtin;refine Hid.out ?_)
  refine Lib.hid ?_
  refine ztn rfl _ _ rfl w4.heap.size (.slice (some ⟨g6,0,none⟩) _ c6) ([kpL] ++ [askL nTop 49,askL zsH 49]) rfl O6 (by simp only[List.length_append,List.length_cons,List.length_nil];omega) No _ (zst m) rfl (BA6.sl m lm (X:=No) (fun h=>h)) (by omega) (by omega) (by omega) ?_
  intro g7 c7 w7 O7 hf7 hg7
  have BA7:=BA6.keep hf7 (fun b h1 h2 (e:w4.heap.size≤b)=>by omega)
  have hr7:=hr6.far hf7 (fun b (e:w4.heap.size≤b)=>by omega)
  have hw7:=hw6.trans hf7 (fun b hb (e:w4.heap.size≤b)=>by omega)
  have hz7:w4.heap.size≤w7.heap.size:=by have:=hf7.size;omega
  simp only[Act.put,lz0,lz1,lz2]
  clear BA6 hr6 hw6 O6 hf7
  have al7:=(Fr.refl No w7).alloc (.cells (rowS [kpL]) 9)
  have BA7:=BA7.keep al7 (fun _ _ _ h=>h)
  have O7:=O7.keep al7
  have hr7:=hr7.keep al7
  have hw7:=hw7.trans0 al7
  have hu7:=Sl.ofBx (X:=No) (Bx.new w7 9 (rowS [kpL])) (fun h=>h) rfl (by decide) (by decide)
  go_wp2_with (at_builtin;refine Hid.out ?_)
  refine Lib.hid ?_
  refine ztn rfl _ _ rfl w4.heap.size (.slice (some ⟨g7,0,none⟩) _ c7) (([kpL] ++ [askL nTop 49,askL zsH 49]) ++ zst m) rfl O7 (by simp only[List.length_append,List.length_cons,List.length_nil];omega) No _ ([kpL]) rfl hu7 (by decide) (by decide) (by rw[World.size_alloc];omega) ?_
  intro g8 c8 w8 O8 hf8 hg8
  have BA8:=BA7.keep hf8 (fun b h1 h2 (e:w4.heap.size≤b)=>by omega)
  have hr8:=hr7.far hf8 (fun b (e:w4.heap.size≤b)=>by omega)
  have hw8:=hw7.trans hf8 (fun b hb (e:w4.heap.size≤b)=>by omega)
  have hz8:w4.heap.size≤w8.heap.size:=by have h9:=hf8.size;rw[World.size_alloc] at h9;omega
  simp only[Act.put,lz0,lz1,lz2]
  clear BA7 hr7 hw7 O7 hf8 hu7 al7
  go_wp2_with (at_builtin;refine Hid.out ?_)
  refine Lib.hid ?_
  refine ztn rfl _ _ rfl w4.heap.size (.slice (some ⟨g8,0,none⟩) _ c8) ((([kpL] ++ [askL nTop 49,askL zsH 49]) ++ zst m) ++ [kpL]) rfl O8 (by simp only[List.length_append,List.length_cons,List.length_nil];omega) No _ (zst t) rfl (BA8.sl t lt (X:=No) (fun h=>h)) (by omega) (by omega) (by omega) ?_
  intro g9 c9 w9 O9 hf9 hg9
  have BA9:=BA8.keep hf9 (fun b h1 h2 (e:w4.heap.size≤b)=>by omega)
  have hr9:=hr8.far hf9 (fun b (e:w4.heap.size≤b)=>by omega)
  have hw9:=hw8.trans hf9 (fun b hb (e:w4.heap.size≤b)=>by omega)
  have hz9:w4.heap.size≤w9.heap.size:=by have:=hf9.size;omega
  simp only[Act.put,lz0,lz1,lz2]
  clear BA8 hr8 hw8 O8 hf9
  go_wp2_with (at_builtin;refine Hid.out ?_)
  refine Lib.hid ?_
  refine ztn rfl _ _ rfl w4.heap.size (.slice (some ⟨g9,0,none⟩) _ c9) (((([kpL] ++ [askL nTop 49,askL zsH 49]) ++ zst m) ++ [kpL]) ++ zst t) rfl O9 (by simp only[List.length_append,List.length_cons,List.length_nil];omega) No _ (zst c) rfl (BA9.sl c lc (X:=No) (fun h=>h)) (by omega) (by omega) (by omega) ?_
  intro g10 c10 w10 O10 hf10 hg10
  have BA10:=BA9.keep hf10 (fun b h1 h2 (e:w4.heap.size≤b)=>by omega)
  have hr10:=hr9.far hf10 (fun b (e:w4.heap.size≤b)=>by omega)
  have hw10:=hw9.trans hf10 (fun b hb (e:w4.heap.size≤b)=>by omega)
  have hz10:w4.heap.size≤w10.heap.size:=by have:=hf10.size;omega
  simp only[Act.put,lz0,lz1,lz2]
  clear BA9 hr9 hw9 O9 hf10
  go_wp2_with fail
  refine bodyPost_ret (results_tmp rfl _ _ _) rfl ?_
  refine hfin.out _ ((((([kpL] ++ [askL nTop 49,askL zsH 49]) ++ zst m) ++ [kpL]) ++ zst t) ++ zst c) _ ⟨t,c,m,0,0,ht,hc,hm,.inl rfl,.inr (.inl (by simp))⟩ ?_ O10 (hr10.up (by omega)) hw10
  intro s hs
  simp only[List.mem_append,List.mem_cons,List.not_mem_nil,or_false] at hs
  repeat' (rcases hs with hs|hs)
  all_goals first|exact hst.out s hs|exact hsc.out s hs|exact hsm.out s hs|(subst hs;decide)|decide
 ·have al5:=(Fr.refl No w5).alloc (.cells (rowS [askL zsH 49]) 9)
  have BA5:=BA5.keep al5 (fun _ _ _ h=>h)
  have O5:=O5.keep al5
  have hr5:=hr5.keep al5
  have hw5:=hw5.trans0 al5
  have hu5:=Sl.ofBx (X:=No) (Bx.new w5 9 (rowS [askL zsH 49])) (fun h=>h) rfl (by decide) (by decide)
  go_wp2_with (at_builtin;refine Hid.out ?_)
  refine Lib.hid ?_
  refine ztn rfl _ _ rfl w4.heap.size (.slice (some ⟨w4.heap.size,0,none⟩) 1 1) ([kpL]) rfl O5 (by simp only[List.length_cons,List.length_nil];omega) No _ ([askL zsH 49]) rfl hu5 (by decide) (by decide) (by rw[World.size_alloc];omega) ?_
  intro g6 c6 w6 O6 hf6 hg6
  have BA6:=BA5.keep hf6 (fun b h1 h2 (e:w4.heap.size≤b)=>by omega)
  have hr6:=hr5.far hf6 (fun b (e:w4.heap.size≤b)=>by omega)
  have hw6:=hw5.trans hf6 (fun b hb (e:w4.heap.size≤b)=>by omega)
  have hz6:w4.heap.size≤w6.heap.size:=by have h9:=hf6.size;rw[World.size_alloc] at h9;omega
  simp only[Act.put,lz0,lz1,lz2]
  clear BA5 hr5 hw5 O5 hf6 hu5 al5
  have H7:=fun W (hW:Fr No w6 W)=>zrd rb (q+4) 2 W (hr6.keep hW) (by omega) (by omega) (by omega)
  go_wp2_with (go_at_call 47;refine(H7 _ (by first|exact Fr.refl _ _|exact(Fr.refl _ _).alloc _)).mono ?_;rintro e w7 ⟨kx,hkx,rfl,hr7,hf7⟩;refine Hid.out ?_)
  refine Lib.hid ?_
  have Nx:=(Bx.new w6 3 #[.int .i64 0,.int .i64 7]).keepX hf7 (by omega)
  obtain⟨vx,hvx,x,rfl,hx⟩:=zsa (P:=fun v=>∃x:Nat,v=.int .i64 (x:Int)∧(x=0∨x=7)) (l:=(#[.int .i64 0,.int .i64 7]:Array Value).toList) (by
   intro v hv
   simp only[List.mem_cons,List.not_mem_nil,or_false] at hv
   rcases hv with rfl|rfl
   ·exact⟨0,rfl,by omega⟩
   ·exact⟨7,rfl,by omega⟩) hkx (by decide)
  have cxx:w7.cell? ⟨w6.heap.size,kx,none⟩=some (.int .i64 (x:Int)):=by
   have:=Nx.cell kx
   rw[<-hvx]
   simpa using this
  have lx:x<11:=by omega
  have px:=ztl x lx
  have nx:=zsX x
  have hsx:=Lib.hid (ztm x lx)
  have alx:=(Fr.refl No w6).alloc (.cells #[.int .i64 0,.int .i64 7] 3)
  have BA7:=(BA6.keep alx (fun _ _ _ h=>h)).keep hf7 (fun b h1 h2 e=>by omega)
  have O7:=(O6.keep alx).keepX hf7 (fun b h e=>by omega)
  have hw7:=(hw6.trans0 alx).same hf7
  have hz7:w4.heap.size≤w7.heap.size:=by have h9:=hf7.size;rw[World.size_alloc] at h9;omega
  have cbx:=BA7.cell x lx
  have nlx:=Nx.lt
  have blx:=BA7.1.lt
  clear H7 hvx Nx alx BA6 O6 hr6 hw6 hf7
  go_wp2_with (at_builtin;refine Hid.out ?_)
  refine Lib.hid ?_
  refine ztn rfl _ _ rfl w4.heap.size (.slice (some ⟨g6,0,none⟩) _ c6) ([kpL] ++ [askL zsH 49]) rfl O7 (by simp only[List.length_append,List.length_cons,List.length_nil];omega) No _ (zst x) rfl (BA7.sl x lx (X:=No) (fun h=>h)) (by omega) (by omega) (by omega) ?_
  intro g8 c8 w8 O8 hf8 hg8
  have BA8:=BA7.keep hf8 (fun b h1 h2 (e:w4.heap.size≤b)=>by omega)
  have hr8:=hr7.far hf8 (fun b (e:w4.heap.size≤b)=>by omega)
  have hw8:=hw7.trans hf8 (fun b hb (e:w4.heap.size≤b)=>by omega)
  have hz8:w4.heap.size≤w8.heap.size:=by have:=hf8.size;omega
  simp only[Act.put,lz0,lz1,lz2]
  clear BA7 hr7 hw7 O7 hf8
  go_wp2_with (at_builtin;refine Hid.out ?_)
  refine Lib.hid ?_
  refine ztn rfl _ _ rfl w4.heap.size (.slice (some ⟨g8,0,none⟩) _ c8) (([kpL] ++ [askL zsH 49]) ++ zst x) rfl O8 (by simp only[List.length_append,List.length_cons,List.length_nil];omega) No _ (zst m) rfl (BA8.sl m lm (X:=No) (fun h=>h)) (by omega) (by omega) (by omega) ?_
  intro g9 c9 w9 O9 hf9 hg9
  have BA9:=BA8.keep hf9 (fun b h1 h2 (e:w4.heap.size≤b)=>by omega)
  have hr9:=hr8.far hf9 (fun b (e:w4.heap.size≤b)=>by omega)
  have hw9:=hw8.trans hf9 (fun b hb (e:w4.heap.size≤b)=>by omega)
  have hz9:w4.heap.size≤w9.heap.size:=by have:=hf9.size;omega
  simp only[Act.put,lz0,lz1,lz2]
  clear BA8 hr8 hw8 O8 hf9
  have al9:=(Fr.refl No w9).alloc (.cells (rowS [kpL]) 9)
  have BA9:=BA9.keep al9 (fun _ _ _ h=>h)
  have O9:=O9.keep al9
  have hr9:=hr9.keep al9
  have hw9:=hw9.trans0 al9
  have hu9:=Sl.ofBx (X:=No) (Bx.new w9 9 (rowS [kpL])) (fun h=>h) rfl (by decide) (by decide)
  go_wp2_with (at_builtin;refine Hid.out ?_)
  refine Lib.hid ?_
  refine ztn rfl _ _ rfl w4.heap.size (.slice (some ⟨g9,0,none⟩) _ c9) ((([kpL] ++ [askL zsH 49]) ++ zst x) ++ zst m) rfl O9 (by simp only[List.length_append,List.length_cons,List.length_nil];omega) No _ ([kpL]) rfl hu9 (by decide) (by decide) (by rw[World.size_alloc];omega) ?_
  intro g10 c10 w10 O10 hf10 hg10
  have BA10:=BA9.keep hf10 (fun b h1 h2 (e:w4.heap.size≤b)=>by omega)
  have hr10:=hr9.far hf10 (fun b (e:w4.heap.size≤b)=>by omega)
  have hw10:=hw9.trans hf10 (fun b hb (e:w4.heap.size≤b)=>by omega)
  have hz10:w4.heap.size≤w10.heap.size:=by have h9:=hf10.size;rw[World.size_alloc] at h9;omega
  simp only[Act.put,lz0,lz1,lz2]
  clear BA9 hr9 hw9 O9 hf10 hu9 al9
  go_wp2_with (at_builtin;refine Hid.out ?_)
  refine Lib.hid ?_
  refine ztn rfl _ _ rfl w4.heap.size (.slice (some ⟨g10,0,none⟩) _ c10) (((([kpL] ++ [askL zsH 49]) ++ zst x) ++ zst m) ++ [kpL]) rfl O10 (by simp only[List.length_append,List.length_cons,List.length_nil];omega) No _ (zst t) rfl (BA10.sl t lt (X:=No) (fun h=>h)) (by omega) (by omega) (by omega) ?_
  intro g11 c11 w11 O11 hf11 hg11
  have BA11:=BA10.keep hf11 (fun b h1 h2 (e:w4.heap.size≤b)=>by omega)
  have hr11:=hr10.far hf11 (fun b (e:w4.heap.size≤b)=>by omega)
  have hw11:=hw10.trans hf11 (fun b hb (e:w4.heap.size≤b)=>by omega)
  have hz11:w4.heap.size≤w11.heap.size:=by have:=hf11.size;omega
  simp only[Act.put,lz0,lz1,lz2]
  clear BA10 hr10 hw10 O10 hf11
  go_wp2_with (at_builtin;refine Hid.out ?_)
  refine Lib.hid ?_
  refine ztn rfl _ _ rfl w4.heap.size (.slice (some ⟨g11,0,none⟩) _ c11) ((((([kpL] ++ [askL zsH 49]) ++ zst x) ++ zst m) ++ [kpL]) ++ zst t) rfl O11 (by simp only[List.length_append,List.length_cons,List.length_nil];omega) No _ (zst c) rfl (BA11.sl c lc (X:=No) (fun h=>h)) (by omega) (by omega) (by omega) ?_
  intro g12 c12 w12 O12 hf12 hg12
  have BA12:=BA11.keep hf12 (fun b h1 h2 (e:w4.heap.size≤b)=>by omega)
  have hr12:=hr11.far hf12 (fun b (e:w4.heap.size≤b)=>by omega)
  have hw12:=hw11.trans hf12 (fun b hb (e:w4.heap.size≤b)=>by omega)
  have hz12:w4.heap.size≤w12.heap.size:=by have:=hf12.size;omega
  simp only[Act.put,lz0,lz1,lz2]
  clear BA11 hr11 hw11 O11 hf12
  go_wp2_with fail
  refine bodyPost_ret (results_tmp rfl _ _ _) rfl ?_
  refine hfin.out _ (((((([kpL] ++ [askL zsH 49]) ++ zst x) ++ zst m) ++ [kpL]) ++ zst t) ++ zst c) _ ⟨t,c,m,x,0,ht,hc,hm,hx,.inr (.inr (.inl (by simp)))⟩ ?_ O12 (hr12.up (by omega)) hw12
  intro s hs
  simp only[List.mem_append,List.mem_cons,List.not_mem_nil,or_false] at hs
  repeat' (rcases hs with hs|hs)
  all_goals first|exact hst.out s hs|exact hsx.out s hs|exact hsc.out s hs|exact hsm.out s hs|(subst hs;decide)|decide
 ·have al5:=(Fr.refl No w5).alloc (.cells (rowS [askL zsH 49,askL nTop 50]) 9)
  have BA5:=BA5.keep al5 (fun _ _ _ h=>h)
  have O5:=O5.keep al5
  have hr5:=hr5.keep al5
  have hw5:=hw5.trans0 al5
  have hu5:=Sl.ofBx (X:=No) (Bx.new w5 9 (rowS [askL zsH 49,askL nTop 50])) (fun h=>h) rfl (by decide) (by decide)
  go_wp2_with (at_builtin;refine Hid.out ?_)
  refine Lib.hid ?_
  refine ztn rfl _ _ rfl w4.heap.size (.slice (some ⟨w4.heap.size,0,none⟩) 1 1) ([kpL]) rfl O5 (by simp only[List.length_cons,List.length_nil];omega) No _ ([askL zsH 49,askL nTop 50]) rfl hu5 (by decide) (by decide) (by rw[World.size_alloc];omega) ?_
  intro g6 c6 w6 O6 hf6 hg6
  have BA6:=BA5.keep hf6 (fun b h1 h2 (e:w4.heap.size≤b)=>by omega)
  have hr6:=hr5.far hf6 (fun b (e:w4.heap.size≤b)=>by omega)
  have hw6:=hw5.trans hf6 (fun b hb (e:w4.heap.size≤b)=>by omega)
  have hz6:w4.heap.size≤w6.heap.size:=by have h9:=hf6.size;rw[World.size_alloc] at h9;omega
  simp only[Act.put,lz0,lz1,lz2]
  clear BA5 hr5 hw5 O5 hf6 hu5 al5
  go_wp2_with (at_builtin;refine Hid.out ?_)
  refine Lib.hid ?_
  refine ztn rfl _ _ rfl w4.heap.size (.slice (some ⟨g6,0,none⟩) _ c6) ([kpL] ++ [askL zsH 49,askL nTop 50]) rfl O6 (by simp only[List.length_append,List.length_cons,List.length_nil];omega) No _ (zst m) rfl (BA6.sl m lm (X:=No) (fun h=>h)) (by omega) (by omega) (by omega) ?_
  intro g7 c7 w7 O7 hf7 hg7
  have BA7:=BA6.keep hf7 (fun b h1 h2 (e:w4.heap.size≤b)=>by omega)
  have hr7:=hr6.far hf7 (fun b (e:w4.heap.size≤b)=>by omega)
  have hw7:=hw6.trans hf7 (fun b hb (e:w4.heap.size≤b)=>by omega)
  have hz7:w4.heap.size≤w7.heap.size:=by have:=hf7.size;omega
  simp only[Act.put,lz0,lz1,lz2]
  clear BA6 hr6 hw6 O6 hf7
  have al7:=(Fr.refl No w7).alloc (.cells (rowS [kpL,askL nTop 50]) 9)
  have BA7:=BA7.keep al7 (fun _ _ _ h=>h)
  have O7:=O7.keep al7
  have hr7:=hr7.keep al7
  have hw7:=hw7.trans0 al7
  have hu7:=Sl.ofBx (X:=No) (Bx.new w7 9 (rowS [kpL,askL nTop 50])) (fun h=>h) rfl (by decide) (by decide)
  go_wp2_with (at_builtin;refine Hid.out ?_)
  refine Lib.hid ?_
  refine ztn rfl _ _ rfl w4.heap.size (.slice (some ⟨g7,0,none⟩) _ c7) (([kpL] ++ [askL zsH 49,askL nTop 50]) ++ zst m) rfl O7 (by simp only[List.length_append,List.length_cons,List.length_nil];omega) No _ ([kpL,askL nTop 50]) rfl hu7 (by decide) (by decide) (by rw[World.size_alloc];omega) ?_
  intro g8 c8 w8 O8 hf8 hg8
  have BA8:=BA7.keep hf8 (fun b h1 h2 (e:w4.heap.size≤b)=>by omega)
  have hr8:=hr7.far hf8 (fun b (e:w4.heap.size≤b)=>by omega)
  have hw8:=hw7.trans hf8 (fun b hb (e:w4.heap.size≤b)=>by omega)
  have hz8:w4.heap.size≤w8.heap.size:=by have h9:=hf8.size;rw[World.size_alloc] at h9;omega
  simp only[Act.put,lz0,lz1,lz2]
  clear BA7 hr7 hw7 O7 hf8 hu7 al7
  go_wp2_with (at_builtin;refine Hid.out ?_)
  refine Lib.hid ?_
  refine ztn rfl _ _ rfl w4.heap.size (.slice (some ⟨g8,0,none⟩) _ c8) ((([kpL] ++ [askL zsH 49,askL nTop 50]) ++ zst m) ++ [kpL,askL nTop 50]) rfl O8 (by simp only[List.length_append,List.length_cons,List.length_nil];omega) No _ (zst c) rfl (BA8.sl c lc (X:=No) (fun h=>h)) (by omega) (by omega) (by omega) ?_
  intro g9 c9 w9 O9 hf9 hg9
  have BA9:=BA8.keep hf9 (fun b h1 h2 (e:w4.heap.size≤b)=>by omega)
  have hr9:=hr8.far hf9 (fun b (e:w4.heap.size≤b)=>by omega)
  have hw9:=hw8.trans hf9 (fun b hb (e:w4.heap.size≤b)=>by omega)
  have hz9:w4.heap.size≤w9.heap.size:=by have:=hf9.size;omega
  simp only[Act.put,lz0,lz1,lz2]
  clear BA8 hr8 hw8 O8 hf9
  have al9:=(Fr.refl No w9).alloc (.cells (rowS [kpL]) 9)
  have BA9:=BA9.keep al9 (fun _ _ _ h=>h)
  have O9:=O9.keep al9
  have hr9:=hr9.keep al9
  have hw9:=hw9.trans0 al9
  have hu9:=Sl.ofBx (X:=No) (Bx.new w9 9 (rowS [kpL])) (fun h=>h) rfl (by decide) (by decide)
  go_wp2_with (at_builtin;refine Hid.out ?_)
  refine Lib.hid ?_
  refine ztn rfl _ _ rfl w4.heap.size (.slice (some ⟨g9,0,none⟩) _ c9) (((([kpL] ++ [askL zsH 49,askL nTop 50]) ++ zst m) ++ [kpL,askL nTop 50]) ++ zst c) rfl O9 (by simp only[List.length_append,List.length_cons,List.length_nil];omega) No _ ([kpL]) rfl hu9 (by decide) (by decide) (by rw[World.size_alloc];omega) ?_
  intro g10 c10 w10 O10 hf10 hg10
  have BA10:=BA9.keep hf10 (fun b h1 h2 (e:w4.heap.size≤b)=>by omega)
  have hr10:=hr9.far hf10 (fun b (e:w4.heap.size≤b)=>by omega)
  have hw10:=hw9.trans hf10 (fun b hb (e:w4.heap.size≤b)=>by omega)
  have hz10:w4.heap.size≤w10.heap.size:=by have h9:=hf10.size;rw[World.size_alloc] at h9;omega
  simp only[Act.put,lz0,lz1,lz2]
  clear BA9 hr9 hw9 O9 hf10 hu9 al9
  go_wp2_with (at_builtin;refine Hid.out ?_)
  refine Lib.hid ?_
  refine ztn rfl _ _ rfl w4.heap.size (.slice (some ⟨g10,0,none⟩) _ c10) ((((([kpL] ++ [askL zsH 49,askL nTop 50]) ++ zst m) ++ [kpL,askL nTop 50]) ++ zst c) ++ [kpL]) rfl O10 (by simp only[List.length_append,List.length_cons,List.length_nil];omega) No _ (zst t) rfl (BA10.sl t lt (X:=No) (fun h=>h)) (by omega) (by omega) (by omega) ?_
  intro g11 c11 w11 O11 hf11 hg11
  have BA11:=BA10.keep hf11 (fun b h1 h2 (e:w4.heap.size≤b)=>by omega)
  have hr11:=hr10.far hf11 (fun b (e:w4.heap.size≤b)=>by omega)
  have hw11:=hw10.trans hf11 (fun b hb (e:w4.heap.size≤b)=>by omega)
  have hz11:w4.heap.size≤w11.heap.size:=by have:=hf11.size;omega
  simp only[Act.put,lz0,lz1,lz2]
  clear BA10 hr10 hw10 O10 hf11
  go_wp2_with fail
  refine bodyPost_ret (results_tmp rfl _ _ _) rfl ?_
  refine hfin.out _ (((((([kpL] ++ [askL zsH 49,askL nTop 50]) ++ zst m) ++ [kpL,askL nTop 50]) ++ zst c) ++ [kpL]) ++ zst t) _ ⟨t,c,m,0,0,ht,hc,hm,.inl rfl,.inr (.inr (.inr (.inl (by simp))))⟩ ?_ O11 (hr11.up (by omega)) hw11
  intro s hs
  simp only[List.mem_append,List.mem_cons,List.not_mem_nil,or_false] at hs
  repeat' (rcases hs with hs|hs)
  all_goals first|exact hst.out s hs|exact hsc.out s hs|exact hsm.out s hs|(subst hs;decide)|decide
 ·have al5:=(Fr.refl No w5).alloc (.cells (rowS [askL nTop 49,askL zsH 49]) 9)
  have BA5:=BA5.keep al5 (fun _ _ _ h=>h)
  have O5:=O5.keep al5
  have hr5:=hr5.keep al5
  have hw5:=hw5.trans0 al5
  have hu5:=Sl.ofBx (X:=No) (Bx.new w5 9 (rowS [askL nTop 49,askL zsH 49])) (fun h=>h) rfl (by decide) (by decide)
  go_wp2_with (at_builtin;refine Hid.out ?_)
  refine Lib.hid ?_
  refine ztn rfl _ _ rfl w4.heap.size (.slice (some ⟨w4.heap.size,0,none⟩) 1 1) ([kpL]) rfl O5 (by simp only[List.length_cons,List.length_nil];omega) No _ ([askL nTop 49,askL zsH 49]) rfl hu5 (by decide) (by decide) (by rw[World.size_alloc];omega) ?_
  intro g6 c6 w6 O6 hf6 hg6
  have BA6:=BA5.keep hf6 (fun b h1 h2 (e:w4.heap.size≤b)=>by omega)
  have hr6:=hr5.far hf6 (fun b (e:w4.heap.size≤b)=>by omega)
  have hw6:=hw5.trans hf6 (fun b hb (e:w4.heap.size≤b)=>by omega)
  have hz6:w4.heap.size≤w6.heap.size:=by have h9:=hf6.size;rw[World.size_alloc] at h9;omega
  simp only[Act.put,lz0,lz1,lz2]
  clear BA5 hr5 hw5 O5 hf6 hu5 al5
  go_wp2_with (at_builtin;refine Hid.out ?_)
  refine Lib.hid ?_
  refine ztn rfl _ _ rfl w4.heap.size (.slice (some ⟨g6,0,none⟩) _ c6) ([kpL] ++ [askL nTop 49,askL zsH 49]) rfl O6 (by simp only[List.length_append,List.length_cons,List.length_nil];omega) No _ (zst m) rfl (BA6.sl m lm (X:=No) (fun h=>h)) (by omega) (by omega) (by omega) ?_
  intro g7 c7 w7 O7 hf7 hg7
  have BA7:=BA6.keep hf7 (fun b h1 h2 (e:w4.heap.size≤b)=>by omega)
  have hr7:=hr6.far hf7 (fun b (e:w4.heap.size≤b)=>by omega)
  have hw7:=hw6.trans hf7 (fun b hb (e:w4.heap.size≤b)=>by omega)
  have hz7:w4.heap.size≤w7.heap.size:=by have:=hf7.size;omega
  simp only[Act.put,lz0,lz1,lz2]
  clear BA6 hr6 hw6 O6 hf7
  have H8:=fun W (hW:Fr No w7 W)=>zrd rb (q+4) 3 W (hr7.keep hW) (by omega) (by omega) (by omega)
  go_wp2_with (go_at_call 47;refine(H8 _ (by first|exact Fr.refl _ _|exact(Fr.refl _ _).alloc _)).mono ?_;rintro e w8 ⟨ky,hky,rfl,hr8,hf8⟩;refine Hid.out ?_)
  refine Lib.hid ?_
  have Nx:=(Bx.new w7 9 (rowS [askL nTop 48,askL zsH 49,askL zsJ 48])).keepX hf8 (by omega)
  have alx:=(Fr.refl No w7).alloc (.cells (rowS [askL nTop 48,askL zsH 49,askL zsJ 48]) 9)
  have BA8:=(BA7.keep alx (fun _ _ _ h=>h)).keep hf8 (fun b h1 h2 e=>by omega)
  have O8:=(O7.keep alx).keepX hf8 (fun b h e=>by omega)
  have hw8:=(hw7.trans0 alx).same hf8
  have hz8:w4.heap.size≤w8.heap.size:=by have h9:=hf8.size;rw[World.size_alloc] at h9;omega
  have nlx:=Nx.lt
  have hy:ky=0∨ky=1∨ky=2:=by omega
  clear H8 alx BA7 O7 hr7 hw7 hf8
  rcases hy with rfl|rfl|rfl
  ·have cxx:w8.cell? ⟨w7.heap.size,0,none⟩=some (.string (askL nTop 48)):=by rw[Nx.cell];rfl
   clear Nx
   have al8:=(Fr.refl No w8).alloc (.cells (rowS [kpL,askL nTop 48]) 9)
   have BA8:=BA8.keep al8 (fun _ _ _ h=>h)
   have O8:=O8.keep al8
   have hr8:=hr8.keep al8
   have hw8:=hw8.trans0 al8
   have hu8:=Sl.ofBx (X:=No) (Bx.new w8 9 (rowS [kpL,askL nTop 48])) (fun h=>h) rfl (by decide) (by decide)
   go_wp2_with (at_builtin;refine Hid.out ?_)
   refine Lib.hid ?_
   refine ztn rfl _ _ rfl w4.heap.size (.slice (some ⟨g7,0,none⟩) _ c7) (([kpL] ++ [askL nTop 49,askL zsH 49]) ++ zst m) rfl O8 (by simp only[List.length_append,List.length_cons,List.length_nil];omega) No _ ([kpL,askL nTop 48]) rfl hu8 (by decide) (by decide) (by rw[World.size_alloc];omega) ?_
   intro g9 c9 w9 O9 hf9 hg9
   have BA9:=BA8.keep hf9 (fun b h1 h2 (e:w4.heap.size≤b)=>by omega)
   have hr9:=hr8.far hf9 (fun b (e:w4.heap.size≤b)=>by omega)
   have hw9:=hw8.trans hf9 (fun b hb (e:w4.heap.size≤b)=>by omega)
   have hz9:w4.heap.size≤w9.heap.size:=by have h9:=hf9.size;rw[World.size_alloc] at h9;omega
   simp only[Act.put,lz0,lz1,lz2]
   clear BA8 hr8 hw8 O8 hf9 hu8 al8
   go_wp2_with (at_builtin;refine Hid.out ?_)
   refine Lib.hid ?_
   refine ztn rfl _ _ rfl w4.heap.size (.slice (some ⟨g9,0,none⟩) _ c9) ((([kpL] ++ [askL nTop 49,askL zsH 49]) ++ zst m) ++ [kpL,askL nTop 48]) rfl O9 (by simp only[List.length_append,List.length_cons,List.length_nil];omega) No _ (zst t) rfl (BA9.sl t lt (X:=No) (fun h=>h)) (by omega) (by omega) (by omega) ?_
   intro g10 c10 w10 O10 hf10 hg10
   have BA10:=BA9.keep hf10 (fun b h1 h2 (e:w4.heap.size≤b)=>by omega)
   have hr10:=hr9.far hf10 (fun b (e:w4.heap.size≤b)=>by omega)
   have hw10:=hw9.trans hf10 (fun b hb (e:w4.heap.size≤b)=>by omega)
   have hz10:w4.heap.size≤w10.heap.size:=by have:=hf10.size;omega
   simp only[Act.put,lz0,lz1,lz2]
   clear BA9 hr9 hw9 O9 hf10
   go_wp2_with (at_builtin;refine Hid.out ?_)
   refine Lib.hid ?_
   refine ztn rfl _ _ rfl w4.heap.size (.slice (some ⟨g10,0,none⟩) _ c10) (((([kpL] ++ [askL nTop 49,askL zsH 49]) ++ zst m) ++ [kpL,askL nTop 48]) ++ zst t) rfl O10 (by simp only[List.length_append,List.length_cons,List.length_nil];omega) No _ (zst c) rfl (BA10.sl c lc (X:=No) (fun h=>h)) (by omega) (by omega) (by omega) ?_
   intro g11 c11 w11 O11 hf11 hg11
   have BA11:=BA10.keep hf11 (fun b h1 h2 (e:w4.heap.size≤b)=>by omega)
   have hr11:=hr10.far hf11 (fun b (e:w4.heap.size≤b)=>by omega)
   have hw11:=hw10.trans hf11 (fun b hb (e:w4.heap.size≤b)=>by omega)
   have hz11:w4.heap.size≤w11.heap.size:=by have:=hf11.size;omega
   simp only[Act.put,lz0,lz1,lz2]
   clear BA10 hr10 hw10 O10 hf11
   go_wp2_with fail
   refine bodyPost_ret (results_tmp rfl _ _ _) rfl ?_
   refine hfin.out _ ((((([kpL] ++ [askL nTop 49,askL zsH 49]) ++ zst m) ++ [kpL,askL nTop 48]) ++ zst t) ++ zst c) _ ⟨t,c,m,0,0,ht,hc,hm,.inl rfl,.inr (.inr (.inr (.inr (.inl ⟨rfl,by simp⟩))))⟩ ?_ O11 (hr11.up (by omega)) hw11
   intro s hs
   simp only[List.mem_append,List.mem_cons,List.not_mem_nil,or_false] at hs
   repeat' (rcases hs with hs|hs)
   all_goals first|exact hst.out s hs|exact hsc.out s hs|exact hsm.out s hs|(subst hs;decide)|decide
  ·have cxx:w8.cell? ⟨w7.heap.size,1,none⟩=some (.string (askL zsH 49)):=by rw[Nx.cell];rfl
   clear Nx
   have al8:=(Fr.refl No w8).alloc (.cells (rowS [kpL,askL zsH 49]) 9)
   have BA8:=BA8.keep al8 (fun _ _ _ h=>h)
   have O8:=O8.keep al8
   have hr8:=hr8.keep al8
   have hw8:=hw8.trans0 al8
   have hu8:=Sl.ofBx (X:=No) (Bx.new w8 9 (rowS [kpL,askL zsH 49])) (fun h=>h) rfl (by decide) (by decide)
   go_wp2_with (at_builtin;refine Hid.out ?_)
   refine Lib.hid ?_
   refine ztn rfl _ _ rfl w4.heap.size (.slice (some ⟨g7,0,none⟩) _ c7) (([kpL] ++ [askL nTop 49,askL zsH 49]) ++ zst m) rfl O8 (by simp only[List.length_append,List.length_cons,List.length_nil];omega) No _ ([kpL,askL zsH 49]) rfl hu8 (by decide) (by decide) (by rw[World.size_alloc];omega) ?_
   intro g9 c9 w9 O9 hf9 hg9
   have BA9:=BA8.keep hf9 (fun b h1 h2 (e:w4.heap.size≤b)=>by omega)
   have hr9:=hr8.far hf9 (fun b (e:w4.heap.size≤b)=>by omega)
   have hw9:=hw8.trans hf9 (fun b hb (e:w4.heap.size≤b)=>by omega)
   have hz9:w4.heap.size≤w9.heap.size:=by have h9:=hf9.size;rw[World.size_alloc] at h9;omega
   simp only[Act.put,lz0,lz1,lz2]
   clear BA8 hr8 hw8 O8 hf9 hu8 al8
   go_wp2_with (at_builtin;refine Hid.out ?_)
   refine Lib.hid ?_
   refine ztn rfl _ _ rfl w4.heap.size (.slice (some ⟨g9,0,none⟩) _ c9) ((([kpL] ++ [askL nTop 49,askL zsH 49]) ++ zst m) ++ [kpL,askL zsH 49]) rfl O9 (by simp only[List.length_append,List.length_cons,List.length_nil];omega) No _ (zst t) rfl (BA9.sl t lt (X:=No) (fun h=>h)) (by omega) (by omega) (by omega) ?_
   intro g10 c10 w10 O10 hf10 hg10
   have BA10:=BA9.keep hf10 (fun b h1 h2 (e:w4.heap.size≤b)=>by omega)
   have hr10:=hr9.far hf10 (fun b (e:w4.heap.size≤b)=>by omega)
   have hw10:=hw9.trans hf10 (fun b hb (e:w4.heap.size≤b)=>by omega)
   have hz10:w4.heap.size≤w10.heap.size:=by have:=hf10.size;omega
   simp only[Act.put,lz0,lz1,lz2]
   clear BA9 hr9 hw9 O9 hf10
   go_wp2_with (at_builtin;refine Hid.out ?_)
   refine Lib.hid ?_
   refine ztn rfl _ _ rfl w4.heap.size (.slice (some ⟨g10,0,none⟩) _ c10) (((([kpL] ++ [askL nTop 49,askL zsH 49]) ++ zst m) ++ [kpL,askL zsH 49]) ++ zst t) rfl O10 (by simp only[List.length_append,List.length_cons,List.length_nil];omega) No _ (zst c) rfl (BA10.sl c lc (X:=No) (fun h=>h)) (by omega) (by omega) (by omega) ?_
   intro g11 c11 w11 O11 hf11 hg11
   have BA11:=BA10.keep hf11 (fun b h1 h2 (e:w4.heap.size≤b)=>by omega)
   have hr11:=hr10.far hf11 (fun b (e:w4.heap.size≤b)=>by omega)
   have hw11:=hw10.trans hf11 (fun b hb (e:w4.heap.size≤b)=>by omega)
   have hz11:w4.heap.size≤w11.heap.size:=by have:=hf11.size;omega
   simp only[Act.put,lz0,lz1,lz2]
   clear BA10 hr10 hw10 O10 hf11
   go_wp2_with fail
   refine bodyPost_ret (results_tmp rfl _ _ _) rfl ?_
   refine hfin.out _ ((((([kpL] ++ [askL nTop 49,askL zsH 49]) ++ zst m) ++ [kpL,askL zsH 49]) ++ zst t) ++ zst c) _ ⟨t,c,m,0,1,ht,hc,hm,.inl rfl,.inr (.inr (.inr (.inr (.inr (.inl ⟨rfl,by simp⟩)))))⟩ ?_ O11 (hr11.up (by omega)) hw11
   intro s hs
   simp only[List.mem_append,List.mem_cons,List.not_mem_nil,or_false] at hs
   repeat' (rcases hs with hs|hs)
   all_goals first|exact hst.out s hs|exact hsc.out s hs|exact hsm.out s hs|(subst hs;decide)|decide
  ·have cxx:w8.cell? ⟨w7.heap.size,2,none⟩=some (.string (askL zsJ 48)):=by rw[Nx.cell];rfl
   clear Nx
   have al8:=(Fr.refl No w8).alloc (.cells (rowS [kpL,askL zsJ 48]) 9)
   have BA8:=BA8.keep al8 (fun _ _ _ h=>h)
   have O8:=O8.keep al8
   have hr8:=hr8.keep al8
   have hw8:=hw8.trans0 al8
   have hu8:=Sl.ofBx (X:=No) (Bx.new w8 9 (rowS [kpL,askL zsJ 48])) (fun h=>h) rfl (by decide) (by decide)
   go_wp2_with (at_builtin;refine Hid.out ?_)
   refine Lib.hid ?_
   refine ztn rfl _ _ rfl w4.heap.size (.slice (some ⟨g7,0,none⟩) _ c7) (([kpL] ++ [askL nTop 49,askL zsH 49]) ++ zst m) rfl O8 (by simp only[List.length_append,List.length_cons,List.length_nil];omega) No _ ([kpL,askL zsJ 48]) rfl hu8 (by decide) (by decide) (by rw[World.size_alloc];omega) ?_
   intro g9 c9 w9 O9 hf9 hg9
   have BA9:=BA8.keep hf9 (fun b h1 h2 (e:w4.heap.size≤b)=>by omega)
   have hr9:=hr8.far hf9 (fun b (e:w4.heap.size≤b)=>by omega)
   have hw9:=hw8.trans hf9 (fun b hb (e:w4.heap.size≤b)=>by omega)
   have hz9:w4.heap.size≤w9.heap.size:=by have h9:=hf9.size;rw[World.size_alloc] at h9;omega
   simp only[Act.put,lz0,lz1,lz2]
   clear BA8 hr8 hw8 O8 hf9 hu8 al8
   go_wp2_with (at_builtin;refine Hid.out ?_)
   refine Lib.hid ?_
   refine ztn rfl _ _ rfl w4.heap.size (.slice (some ⟨g9,0,none⟩) _ c9) ((([kpL] ++ [askL nTop 49,askL zsH 49]) ++ zst m) ++ [kpL,askL zsJ 48]) rfl O9 (by simp only[List.length_append,List.length_cons,List.length_nil];omega) No _ (zst t) rfl (BA9.sl t lt (X:=No) (fun h=>h)) (by omega) (by omega) (by omega) ?_
   intro g10 c10 w10 O10 hf10 hg10
   have BA10:=BA9.keep hf10 (fun b h1 h2 (e:w4.heap.size≤b)=>by omega)
   have hr10:=hr9.far hf10 (fun b (e:w4.heap.size≤b)=>by omega)
   have hw10:=hw9.trans hf10 (fun b hb (e:w4.heap.size≤b)=>by omega)
   have hz10:w4.heap.size≤w10.heap.size:=by have:=hf10.size;omega
   simp only[Act.put,lz0,lz1,lz2]
   clear BA9 hr9 hw9 O9 hf10
   go_wp2_with (at_builtin;refine Hid.out ?_)
   refine Lib.hid ?_
   refine ztn rfl _ _ rfl w4.heap.size (.slice (some ⟨g10,0,none⟩) _ c10) (((([kpL] ++ [askL nTop 49,askL zsH 49]) ++ zst m) ++ [kpL,askL zsJ 48]) ++ zst t) rfl O10 (by simp only[List.length_append,List.length_cons,List.length_nil];omega) No _ (zst c) rfl (BA10.sl c lc (X:=No) (fun h=>h)) (by omega) (by omega) (by omega) ?_
   intro g11 c11 w11 O11 hf11 hg11
   have BA11:=BA10.keep hf11 (fun b h1 h2 (e:w4.heap.size≤b)=>by omega)
   have hr11:=hr10.far hf11 (fun b (e:w4.heap.size≤b)=>by omega)
   have hw11:=hw10.trans hf11 (fun b hb (e:w4.heap.size≤b)=>by omega)
   have hz11:w4.heap.size≤w11.heap.size:=by have:=hf11.size;omega
   simp only[Act.put,lz0,lz1,lz2]
   clear BA10 hr10 hw10 O10 hf11
   go_wp2_with fail
   refine bodyPost_ret (results_tmp rfl _ _ _) rfl ?_
   refine hfin.out _ ((((([kpL] ++ [askL nTop 49,askL zsH 49]) ++ zst m) ++ [kpL,askL zsJ 48]) ++ zst t) ++ zst c) _ ⟨t,c,m,0,2,ht,hc,hm,.inl rfl,.inr (.inr (.inr (.inr (.inr (.inr ⟨rfl,by simp⟩)))))⟩ ?_ O11 (hr11.up (by omega)) hw11
   intro s hs
   simp only[List.mem_append,List.mem_cons,List.not_mem_nil,or_false] at hs
   repeat' (rcases hs with hs|hs)
   all_goals first|exact hst.out s hs|exact hsc.out s hs|exact hsm.out s hs|(subst hs;decide)|decide
end Go.Proofs.YtmeaibjmnjcdfaaGreat
