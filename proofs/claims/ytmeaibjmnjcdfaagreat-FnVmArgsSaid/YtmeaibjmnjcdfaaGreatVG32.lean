/- The draws: open, odd, a bent text. -/
import Derived.Test.YtmeaibjmnjcdfaaGreatVG26
import Derived.Test.YtmeaibjmnjcdfaaGreatVG31
set_option maxHeartbeats 8000000
set_option maxRecDepth 100000
namespace Go.Proofs.YtmeaibjmnjcdfaaGreat
open Go.RowKit
def OddP (rb q:Nat) (w:World) (e:Ending) (w':World):Prop:=∃b:Bool,e=.returned (.bool b)∧RdB w' rb (q+1)∧Fr (fun b=>b=rb) w w'
def zr7 (w:World) (e:Ending) (w':World):Prop:=∃rb:Nat,e=.returned (.pointer (some ⟨rb,0,none⟩))∧RdB w' rb 0∧Fr No w w'∧rb=w.heap.size∧w'.heap.size=rb+1
theorem zr8 (rb q n:Nat) (w:World) (h:RdB w rb q) (hn:1≤n) (hn2:n≤1000000) (hq:q≤1000000):
  Calls Tryz.prog 44 #[.pointer (some ⟨rb,0,none⟩),.int .i64 n] w (OddP rb q w):=by
 have HP:=zrd rb q n w h hn hn2 hq
 have e1:IntKind.i64.wrap ((n:Int)-1)=(n:Int)-1:=IntWalk.i64_in _ (by omega)
 clear h
 go_enter Tryz.func44,Tryz.ntmps44
 go_wp2_with (go_at_call 47;refine HP.mono ?_;rintro e w1 ⟨k,hk,rfl,hr,hf⟩)
 refine bodyPost_ret (results_tmp rfl _ _ _) rfl ?_
 exact⟨_,rfl,hr,hf⟩
theorem zr9 (v:Value) (bs:List Int) (w:World) (h:Sl No w 1 BytC v bs):
  Calls Tryz.prog 19 #[v] w (zr7 w):=by
 obtain⟨A,cap,rfl,hc1,hc2⟩:=h.form
 unfold maxLen at hc2
 by_cases hb:2000<bs.length
 ·obtain⟨b,off,rfl,_,o1,_,_⟩:=h.byt (k:=0) (by omega)
  have hs:Sl No w 1 BytC (.slice (some ⟨b,off,none⟩) 2000 cap) (bs.take 2000):=by
   have:=Sl.pre (xs:=bs.take 2000) (ys:=bs.drop 2000) (A:=some ⟨b,off,none⟩) (n:=bs.length) (c:=cap) (by rw[List.take_append_drop];exact h)
   rwa [List.length_take,Nat.min_eq_left (by omega)] at this
  clear h
  go_enter Tryz.func19,Tryz.ntmps19
  go_wp2_with fail
  refine bodyPost_ret (results_tmp rfl _ _ _) rfl ?_
  exact⟨_,rfl,⟨_,bs.take 2000,0,Bx.new_ rfl,(hs.wid (by omega) (fun b e hb=>by omega) (fun _ _ _ h=>h)).keep (show Fr No w _ from frc) (fun _ h=>False.elim h) (fun _ _ _ h=>h),by omega⟩,frc,rfl,by simp⟩
 ·go_enter Tryz.func19,Tryz.ntmps19
  go_wp2_with fail
  refine bodyPost_ret (results_tmp rfl _ _ _) rfl ?_
  exact⟨_,rfl,⟨_,bs,0,Bx.new_ rfl,(h.wid (by omega) (fun b e hb=>by omega) (fun _ _ _ h=>h)).keep (show Fr No w _ from frc) (fun _ h=>False.elim h) (fun _ _ _ h=>h),by omega⟩,frc,rfl,by simp⟩
theorem zsa {P:Value->Prop} {l:List Value} (h:∀v∈l,P v) {k n:Nat} (hk:k<n) (hl:n≤l.length):∃v,l[k]? =some v∧P v:=
 ⟨l[k]'(by omega),lz8 (by omega),h _ (List.getElem_mem _)⟩
def zsb (rb q n:Nat) (w:World) (e:Ending) (w':World):Prop:=∃s:Str,e=.returned (.string s)∧s.size≤n+1∧RdB w' rb (q+4)∧Fr (fun b=>b=rb) w w'
theorem zsc (rb q:Nat) (s:Str) (w:World) (h:RdB w rb q) (hs:s.size≤90000) (hq:q≤100000):
  Calls Tryz.prog 90 #[.pointer (some ⟨rb,0,none⟩),.string s] w (zsb rb q s.size w):=by
 have hn1:((s.size+1:Nat):Int)=(s.size:Int)+1:=by omega
 have H1:=zrd rb q (s.size+1) w h (by omega) (by omega) (by omega)
 rw[hn1] at H1
 clear h
 have e1:IntKind.i64.wrap ((s.size:Int)+1)=(s.size:Int)+1:=IntWalk.i64_in _ (by omega)
 go_enter Tryz.func90,Tryz.ntmps90
 go_wp2_with (go_at_call 47;refine H1.mono ?_;rintro e w1 ⟨k,hk,rfl,hr1,hf1⟩;refine Hid.out ?_)
 refine Lib.hid ?_
 have H2:=zrd rb (q+1) 256 w1 hr1 (by omega) (by omega) (by omega)
 clear H1 hr1
 go_wp2_with (go_at_call 47;refine H2.mono ?_;rintro e w2 ⟨k2,hk2,rfl,hr2,hf2⟩;refine Hid.out ?_)
 refine Lib.hid ?_
 have H3:=fun W (hW:Fr No w2 W)=>zrd rb (q+2) 11 W (hr2.keep hW) (by omega) (by omega) (by omega)
 have hf02:Fr (fun b=>b=rb) w w2:=hf1.same hf2
 clear H2
 go_wp2_with (go_at_call 47;refine(H3 _ (by exact frc)).mono ?_;rintro e w3 ⟨k3,hk3,rfl,hr3,hf3⟩;refine Hid.out ?_)
 refine Lib.hid ?_
 have hr2l:=hr2.lt
 have BR:=(Bx.new w2 3 #[.int .i64 32,.int .i64 48,.int .i64 49,.int .i64 57,.int .i64 45,.int .i64 97,.int .i64 35,.int .i64 63,.int .i64 33,.int .i64 47,.int .i64 (k2:Int)]).keepX hf3 (by omega)
 obtain⟨v,hv,x,rfl,hx0,hx1⟩:∃v,([Value.int .i64 32,.int .i64 48,.int .i64 49,.int .i64 57,.int .i64 45,.int .i64 97,.int .i64 35,.int .i64 63,.int .i64 33,.int .i64 47,.int .i64 (k2:Int)]:List Value)[k3]? =some v∧∃x:Int,v=.int .i64 x∧0≤x∧x<256:=
  zsa (by
   intro v hv
   simp only[List.mem_cons,List.not_mem_nil,or_false] at hv
   rcases hv with rfl|rfl|rfl|rfl|rfl|rfl|rfl|rfl|rfl|rfl|rfl
   all_goals exact⟨_,rfl,by omega,by omega⟩) hk3 (by simp)
 have cx:w3.cell? ⟨w2.heap.size,k3,none⟩=some (.int .i64 x):=by rw[BR.cell,<-hv];simp
 have hf03:Fr (fun b=>b=rb) w w3:=(hf02.alloc _).same hf3
 have ex:IntKind.u8.wrap x=x:=by unfold IntKind.wrap;simp[IntKind.signed,IntKind.bits];omega
 have bl:=BR.lt
 obtain⟨d,hd⟩:∃d:UInt8,x=(d.toNat:Int):=⟨UInt8.ofNat x.toNat,by rw[UInt8.toNat_ofNat'];omega⟩
 subst hd
 have hcv:=zqI (w3.alloc (.cells #[.int .u8 (d.toNat:Int)] 5)) w3.heap.size d (by simp)
 have H4:=fun W (hW:Fr No w3 W)=>zrd rb (q+3) 3 W (hr3.keep hW) (by omega) (by omega) (by omega)
 clear hv BR hr2 H3 hf02 hf1 hf2 hf3
 go_wp2_with (go_at_call 47;refine(H4 _ (by exact frc)).mono ?_;rintro e w4 ⟨k4,hk4,rfl,hr4,hf4⟩;refine Hid.out ?_)
 refine Lib.hid ?_
 have hf04:Fr (fun b=>b=rb) w w4:=(hf03.alloc _).same hf4
 have hfin:∀(W:World) (s':Str),Fr No w4 W->s'.size≤s.size+1->zsb rb q s.size w (.returned (.string s')) W:=fun W s' hW hz=>⟨s',rfl,hz,hr4.keep hW,hf04.trans0 hW⟩
 replace hfin:=Lib.hid hfin
 have hd1:(zbl [d]).size=1:=rfl
 clear H4 hcv cx hf03 hf04 hr3 hf4
 by_cases h0:k4=0
 ·subst h0
  have hks:k≤s.size:=by omega
  go_wp2_with fail
  (refine zgc (X:=No) (by kernel_rfl) (by kernel_rfl) ?_)
  (repeat((first|go_big_quiet_skip|(go_big_quiet_want;(apply Exists.intro;refine⟨fun W hW=>?_,?_⟩);(focus (exact fqc));go_big_quiet_on));(try simp only[Act.put,lz0,lz1,lz2])));refine wpQuiet_nil ?_
  intro w5 hf5
  go_wp2_with fail
  refine bodyPost_ret (results_tmp rfl _ _ _) rfl ?_
  exact hfin.out w5 _ hf5 (by simp only[ByteArray.size_append,ByteArray.size_extract,hd1];omega)
 by_cases h1:k4=1
 ·subst h1
  have e9:IntKind.i64.wrap ((k:Int)+1)=(k:Int)+1:=IntWalk.i64_in _ (by omega)
  by_cases hk0:k<s.size
  ·have hk1:k+1≤s.size:=by omega
   have hk2:(k:Int)+1≤(s.size:Int):=by omega
   have hk3:k≤s.size:=by omega
   go_wp2_with fail
   (refine zgc (X:=No) (by kernel_rfl) (by kernel_rfl) ?_)
   (repeat((first|go_big_quiet_skip|(go_big_quiet_want;(apply Exists.intro;refine⟨fun W hW=>?_,?_⟩);(focus (exact fqc));go_big_quiet_on));(try simp only[Act.put,lz0,lz1,lz2])));refine wpQuiet_nil ?_
   intro w5 hf5
   go_wp2_with fail
   refine bodyPost_ret (results_tmp rfl _ _ _) rfl ?_
   exact hfin.out w5 _ hf5 (by simp only[ByteArray.size_append,ByteArray.size_extract];omega)
  ·go_wp2_with fail
   refine bodyPost_ret (results_tmp rfl _ _ _) rfl ?_
   exact hfin.out w4 s (Fr.refl _ _) (by omega)
 obtain rfl:k4=2:=by omega
 have e9:IntKind.i64.wrap ((k:Int)+1)=(k:Int)+1:=IntWalk.i64_in _ (by omega)
 by_cases hk0:k<s.size
 ·have hk1:k+1≤s.size:=by omega
  have hk2:(k:Int)+1≤(s.size:Int):=by omega
  have hk3:k≤s.size:=by omega
  go_wp2_with fail
  (refine zgc (X:=No) (by kernel_rfl) (by kernel_rfl) ?_)
  (repeat((first|go_big_quiet_skip|(go_big_quiet_want;(apply Exists.intro;refine⟨fun W hW=>?_,?_⟩);(focus (exact fqc));go_big_quiet_on));(try simp only[Act.put,lz0,lz1,lz2])));refine wpQuiet_nil ?_
  intro w5 hf5
  go_wp2_with fail
  refine bodyPost_ret (results_tmp rfl _ _ _) rfl ?_
  exact hfin.out w5 _ hf5 (by simp only[ByteArray.size_append,ByteArray.size_extract,hd1];omega)
 ·go_wp2_with fail
  refine bodyPost_ret (results_tmp rfl _ _ _) rfl ?_
  exact hfin.out w4 s (Fr.refl _ _) (by omega)
end Go.Proofs.YtmeaibjmnjcdfaaGreat
