/- The draws: an instruction. -/
import Derived.Test.YtmeaibjmnjcdfaaGreatVG32
import Derived.Deep.DeepCutAuto
import Derived.Deep.CutBlock
set_option maxHeartbeats 8000000
set_option maxRecDepth 100000
namespace Go.Proofs.YtmeaibjmnjcdfaaGreat
open Go.RowKit
def InsP (rb q:Nat) (w:World) (e:Ending) (w':World):Prop:=∃i:Ins,e=.returned (.agg #[.int .i64 i.op,.int .i64 i.a,.string i.name,.string i.member])∧i.name.size≤10∧i.member.size≤10∧-100000≤i.a∧i.a≤100000∧-100000≤i.op∧i.op≤100000∧RdB w' rb (q+6)∧Fr (fun b=>b=rb) w w'
def zsd (g:Nat) (w:World):Prop:=∃i:Ins,Bx w g 177 #[.int .i64 i.op,.int .i64 i.a,.string i.name,.string i.member]∧i.name.size≤10∧i.member.size≤10∧-100000≤i.a∧i.a≤100000∧-100000≤i.op∧i.op≤100000
theorem zse {l:List Value} (h:(l.all fun v=>match v with | .string s=>decide (s.size≤10)|_=>false)=true) {k n:Nat} (hk:k<n) (hl:n=l.length):∃s:Str,l[k]? =some (.string s)∧s.size≤10:=by
 obtain⟨v,hv,h9⟩:=zsa (P:=fun v=>(match v with | .string s=>decide (s.size≤10)|_=>false)=true) (fun v hv=>List.all_eq_true.1 h v hv) hk (by omega)
 split at h9
 ·exact⟨_,hv,of_decide_eq_true h9⟩
 ·cases h9
theorem zsf {l:List Value} (h:(l.all fun v=>match v with | .int .i64 x=>decide (-100000≤x)&&decide (x≤100000)|_=>false)=true) {k n:Nat} (hk:k<n) (hl:n=l.length):∃x:Int,l[k]? =some (.int .i64 x)∧-100000≤x∧x≤100000:=by
 obtain⟨v,hv,h9⟩:=zsa (P:=fun v=>(match v with | .int .i64 x=>decide (-100000≤x)&&decide (x≤100000)|_=>false)=true) (fun v hv=>List.all_eq_true.1 h v hv) hk (by omega)
 split at h9
 ·rw[lz5,decide_eq_true_eq,decide_eq_true_eq] at h9
  exact⟨_,hv,h9⟩
 ·cases h9
theorem zsg (rb q:Nat) (n:Nat) (w:World) (h:RdB w rb q) (hn:1≤n) (hn2:n≤1000000) (hq:q≤100000):
  Calls Tryz.prog 92 #[.pointer (some ⟨rb,0,none⟩),.int .i64 n] w (InsP rb q w):=by
 have hrl:=h.lt
 have H1:=fun W (hW:Fr No w W)=>zrd rb q 15 W (h.keep hW) (by omega) (by omega) (by omega)
 have B0:=Bx.new w 177 #[.int .i64 0,.int .i64 0,.string ⟨#[]⟩,.string ⟨#[]⟩]
 clear h
 go_enter Tryz.func92,Tryz.ntmps92
 go_wp2_with (go_at_call 47;refine(H1 _ (by exact frc)).mono ?_;rintro e w1 ⟨k1,hk1,rfl,hr1,hf1⟩;refine Hid.out ?_)
 refine Lib.hid ?_
 have C0:=B0.keepX hf1 (by omega)
 have c0l:=C0.lt
 have hw1:Fr (fun b=>b=rb) w w1:=(((Fr.refl _ w).alloc _)).same hf1
 have e1:IntKind.i64.wrap (1+(k1:Int))=1+(k1:Int):=IntWalk.i64_in _ (by omega)
 have H2:=fun W (hW:Fr No w1 W)=>zrd rb (q+1) 4 W (hr1.keep hW) (by omega) (by omega) (by omega)
 have hr1l:=hr1.lt
 have hl1:=hw1.size
 clear H1 B0 hr1
 go_wp2_with (go_at_call 47;refine(H2 _ (by exact frc)).mono ?_;rintro e w2 ⟨k2,hk2,rfl,hr2,hf2⟩;refine Hid.out ?_)
 refine Lib.hid ?_
 have C2:=((C0.alloc (.cells #[.int .i64 (1+(k1:Int)),.int .i64 0,.string ⟨#[]⟩,.string ⟨#[]⟩] 177)).alloc (.cells #[.string ⟨#[116,111,112]⟩,.string ⟨#[99,101,108,108]⟩,.string ⟨#[109,97,105,110]⟩,.string ⟨#[110,111,110,101]⟩] 9)).keepX hf2 (by omega)
 have I2:=((Bx.new w1 177 #[.int .i64 (1+(k1:Int)),.int .i64 0,.string ⟨#[]⟩,.string ⟨#[]⟩]).alloc (.cells #[.string ⟨#[116,111,112]⟩,.string ⟨#[99,101,108,108]⟩,.string ⟨#[109,97,105,110]⟩,.string ⟨#[110,111,110,101]⟩] 9)).keepX hf2 (by omega)
 have N2:=(Bx.new (w1.alloc (.cells #[.int .i64 (1+(k1:Int)),.int .i64 0,.string ⟨#[]⟩,.string ⟨#[]⟩] 177)) 9 #[.string ⟨#[116,111,112]⟩,.string ⟨#[99,101,108,108]⟩,.string ⟨#[109,97,105,110]⟩,.string ⟨#[110,111,110,101]⟩]).keepX hf2 (by simp;omega)
 obtain⟨nm,hv,hnm⟩:=zse (l:=(#[.string ⟨#[116,111,112]⟩,.string ⟨#[99,101,108,108]⟩,.string ⟨#[109,97,105,110]⟩,.string ⟨#[110,111,110,101]⟩]:Array Value).toList) (by decide) hk2 rfl
 have cx:w2.cell? ⟨w1.heap.size+1,k2,none⟩=some (.string nm):=by
  have:=N2.cell k2
  rw[<-hv]
  simpa using this
 have hw2:Fr (fun b=>b=rb) w w2:=((hw1.alloc _).alloc _).same hf2
 have i0:=I2.c4.1
 have il:=I2.lt
 have nl:=N2.lt
 have hr2l:=hr2.lt
 clear H2 hv N2 hf2 hw1 C0 hf1
 go_upto_block 0 with (fail)
 go_cut [] (fun wx=>Bx wx w.heap.size 177 #[.int .i64 0,.int .i64 0,.string ⟨#[]⟩,.string ⟨#[]⟩]∧zsd w1.heap.size wx∧RdB wx rb (q+3)∧Fr (fun b=>b=rb) w wx)
 case first=>
  have if2:=fun i=>I2.frozen i
  obtain⟨i1,i2,i3⟩:=I2.c4.2
  have hkk:(k1=0)∨(k1=1∨k1=2)∨(k1=10∨k1=11∨k1=12)∨(k1=5∨k1=14)∨(k1=6∨k1=7)∨(k1=8)∨(k1=3∨k1=4∨k1=9∨k1=13):=by omega
  rcases hkk with rfl|(rfl|rfl)|(rfl|rfl|rfl)|(rfl|rfl)|(rfl|rfl)|rfl|(rfl|rfl|rfl|rfl)
  ·have H3:=fun W (hW:Fr (fun b=>b=w1.heap.size) w2 W)=>zrd rb (q+2) 6 W (hr2.far hW (fun b e=>by omega)) (by omega) (by omega) (by omega)
   go_wp2_with (go_at_call 47;refine(H3 _ (by first|exact Fr.refl _ _|exact(Fr.refl _ _).alloc _|exact(Fr.put1 _ _ _ _).alloc _)).mono ?_;rintro e w9 ⟨k9,hk9,rfl,hr9,hf9⟩;refine Hid.out ?_)
   refine Lib.hid ?_
   have N9:=(Bx.new w2 3 #[.int .i64 0,.int .i64 1,.int .i64 (-1),.int .i64 7,.int .i64 9999,.int .i64 (-9999)]).keepX hf9 (by skip;omega)
   obtain⟨x,hv,hx1,hx2⟩:=zsf (l:=(#[.int .i64 0,.int .i64 1,.int .i64 (-1),.int .i64 7,.int .i64 9999,.int .i64 (-9999)]:Array Value).toList) (by decide) hk9 rfl
   have cy:w9.cell? ⟨w2.heap.size,k9,none⟩=some (.int .i64 x):=by
    have:=N9.cell k9
    rw[<-hv]
    simpa using this
   have n9l:=N9.lt
   have hs9:=hf9.size
   have I9:=(I2.alloc (.cells #[.int .i64 0,.int .i64 1,.int .i64 (-1),.int .i64 7,.int .i64 9999,.int .i64 (-9999)] 3)).keepX hf9 (by omega)
   have C9:=(C2.alloc (.cells #[.int .i64 0,.int .i64 1,.int .i64 (-1),.int .i64 7,.int .i64 9999,.int .i64 (-9999)] 3)).keepX hf9 (by omega)
   have hw9:=(hw2.alloc (.cells #[.int .i64 0,.int .i64 1,.int .i64 (-1),.int .i64 7,.int .i64 9999,.int .i64 (-9999)] 3)).same hf9
   have i9l:=I9.lt
   have if9:=fun i=>I9.frozen i
   obtain⟨j0,j1,j2,j3⟩:=I9.c4
   clear H3 hv N9
   go_wp2_with fail
   go_meet
   exact⟨C9.keepX (Fr.put1 w1.heap.size 1 (.int .i64 x) w9) (by omega),⟨⟨(1+((0:Nat):Int)),x,⟨#[]⟩,⟨#[]⟩⟩,I9.set_ 1 (.int .i64 x),by first|exact hnm|exact hx1|exact Nat.zero_le _,by first|exact hnm|exact hx1|exact Nat.zero_le _,by dsimp only;omega,by dsimp only;omega,by dsimp only;omega,by dsimp only;omega⟩,(hr9.far (Fr.put1 w1.heap.size 1 (.int .i64 x) w9) (fun b e=>by omega)).up (by omega),hw9.trans (Fr.put1 w1.heap.size 1 (.int .i64 x) w9) (fun b hb e=>by omega)⟩
  ·have H3:=fun W (hW:Fr (fun b=>b=w1.heap.size) w2 W)=>zrd rb (q+2) 3 W (hr2.far hW (fun b e=>by omega)) (by omega) (by omega) (by omega)
   go_wp2_with (go_at_call 47;refine(H3 _ (by first|exact Fr.refl _ _|exact(Fr.refl _ _).alloc _|exact(Fr.put1 _ _ _ _).alloc _)).mono ?_;rintro e w9 ⟨k9,hk9,rfl,hr9,hf9⟩;refine Hid.out ?_)
   refine Lib.hid ?_
   have I9:=I2.keepX hf9 (by omega)
   have C9:=C2.keepX hf9 (by omega)
   have hw9:=hw2.same hf9
   have i9l:=I9.lt
   have if9:=fun i=>I9.frozen i
   obtain⟨j0,j1,j2,j3⟩:=I9.c4
   clear H3
   go_wp2_with fail
   go_meet
   exact⟨C9.keepX (Fr.put1 w1.heap.size 1 (.int .i64 (k9:Int)) w9) (by omega),⟨⟨(1+((1:Nat):Int)),(k9:Int),⟨#[]⟩,⟨#[]⟩⟩,I9.set_ 1 (.int .i64 (k9:Int)),by first|exact hnm|exact hx1|exact Nat.zero_le _,by first|exact hnm|exact hx1|exact Nat.zero_le _,by dsimp only;omega,by dsimp only;omega,by dsimp only;omega,by dsimp only;omega⟩,(hr9.far (Fr.put1 w1.heap.size 1 (.int .i64 (k9:Int)) w9) (fun b e=>by omega)).up (by omega),hw9.trans (Fr.put1 w1.heap.size 1 (.int .i64 (k9:Int)) w9) (fun b hb e=>by omega)⟩
  ·have H3:=fun W (hW:Fr (fun b=>b=w1.heap.size) w2 W)=>zrd rb (q+2) 3 W (hr2.far hW (fun b e=>by omega)) (by omega) (by omega) (by omega)
   go_wp2_with (go_at_call 47;refine(H3 _ (by first|exact Fr.refl _ _|exact(Fr.refl _ _).alloc _|exact(Fr.put1 _ _ _ _).alloc _)).mono ?_;rintro e w9 ⟨k9,hk9,rfl,hr9,hf9⟩;refine Hid.out ?_)
   refine Lib.hid ?_
   have I9:=I2.keepX hf9 (by omega)
   have C9:=C2.keepX hf9 (by omega)
   have hw9:=hw2.same hf9
   have i9l:=I9.lt
   have if9:=fun i=>I9.frozen i
   obtain⟨j0,j1,j2,j3⟩:=I9.c4
   clear H3
   go_wp2_with fail
   go_meet
   exact⟨C9.keepX (Fr.put1 w1.heap.size 1 (.int .i64 (k9:Int)) w9) (by omega),⟨⟨(1+((2:Nat):Int)),(k9:Int),⟨#[]⟩,⟨#[]⟩⟩,I9.set_ 1 (.int .i64 (k9:Int)),by first|exact hnm|exact hx1|exact Nat.zero_le _,by first|exact hnm|exact hx1|exact Nat.zero_le _,by dsimp only;omega,by dsimp only;omega,by dsimp only;omega,by dsimp only;omega⟩,(hr9.far (Fr.put1 w1.heap.size 1 (.int .i64 (k9:Int)) w9) (fun b e=>by omega)).up (by omega),hw9.trans (Fr.put1 w1.heap.size 1 (.int .i64 (k9:Int)) w9) (fun b hb e=>by omega)⟩
  ·have H3:=fun W (hW:Fr (fun b=>b=w1.heap.size) w2 W)=>zrd rb (q+2) 10 W (hr2.far hW (fun b e=>by omega)) (by omega) (by omega) (by omega)
   go_wp2_with (go_at_call 47;refine(H3 _ (by first|exact Fr.refl _ _|exact(Fr.refl _ _).alloc _|exact(Fr.put1 _ _ _ _).alloc _)).mono ?_;rintro e w9 ⟨k9,hk9,rfl,hr9,hf9⟩;refine Hid.out ?_)
   refine Lib.hid ?_
   have I9:=I2.keepX hf9 (by omega)
   have C9:=C2.keepX hf9 (by omega)
   have hw9:=hw2.same hf9
   have i9l:=I9.lt
   have if9:=fun i=>I9.frozen i
   obtain⟨j0,j1,j2,j3⟩:=I9.c4
   clear H3
   go_wp2_with fail
   go_meet
   exact⟨C9.keepX (Fr.put1 w1.heap.size 1 (.int .i64 (k9:Int)) w9) (by omega),⟨⟨(1+((10:Nat):Int)),(k9:Int),⟨#[]⟩,⟨#[]⟩⟩,I9.set_ 1 (.int .i64 (k9:Int)),by first|exact hnm|exact hx1|exact Nat.zero_le _,by first|exact hnm|exact hx1|exact Nat.zero_le _,by dsimp only;omega,by dsimp only;omega,by dsimp only;omega,by dsimp only;omega⟩,(hr9.far (Fr.put1 w1.heap.size 1 (.int .i64 (k9:Int)) w9) (fun b e=>by omega)).up (by omega),hw9.trans (Fr.put1 w1.heap.size 1 (.int .i64 (k9:Int)) w9) (fun b hb e=>by omega)⟩
  ·have H3:=fun W (hW:Fr (fun b=>b=w1.heap.size) w2 W)=>zrd rb (q+2) 10 W (hr2.far hW (fun b e=>by omega)) (by omega) (by omega) (by omega)
   go_wp2_with (go_at_call 47;refine(H3 _ (by first|exact Fr.refl _ _|exact(Fr.refl _ _).alloc _|exact(Fr.put1 _ _ _ _).alloc _)).mono ?_;rintro e w9 ⟨k9,hk9,rfl,hr9,hf9⟩;refine Hid.out ?_)
   refine Lib.hid ?_
   have I9:=I2.keepX hf9 (by omega)
   have C9:=C2.keepX hf9 (by omega)
   have hw9:=hw2.same hf9
   have i9l:=I9.lt
   have if9:=fun i=>I9.frozen i
   obtain⟨j0,j1,j2,j3⟩:=I9.c4
   clear H3
   go_wp2_with fail
   go_meet
   exact⟨C9.keepX (Fr.put1 w1.heap.size 1 (.int .i64 (k9:Int)) w9) (by omega),⟨⟨(1+((11:Nat):Int)),(k9:Int),⟨#[]⟩,⟨#[]⟩⟩,I9.set_ 1 (.int .i64 (k9:Int)),by first|exact hnm|exact hx1|exact Nat.zero_le _,by first|exact hnm|exact hx1|exact Nat.zero_le _,by dsimp only;omega,by dsimp only;omega,by dsimp only;omega,by dsimp only;omega⟩,(hr9.far (Fr.put1 w1.heap.size 1 (.int .i64 (k9:Int)) w9) (fun b e=>by omega)).up (by omega),hw9.trans (Fr.put1 w1.heap.size 1 (.int .i64 (k9:Int)) w9) (fun b hb e=>by omega)⟩
  ·have H3:=fun W (hW:Fr (fun b=>b=w1.heap.size) w2 W)=>zrd rb (q+2) 10 W (hr2.far hW (fun b e=>by omega)) (by omega) (by omega) (by omega)
   go_wp2_with (go_at_call 47;refine(H3 _ (by first|exact Fr.refl _ _|exact(Fr.refl _ _).alloc _|exact(Fr.put1 _ _ _ _).alloc _)).mono ?_;rintro e w9 ⟨k9,hk9,rfl,hr9,hf9⟩;refine Hid.out ?_)
   refine Lib.hid ?_
   have I9:=I2.keepX hf9 (by omega)
   have C9:=C2.keepX hf9 (by omega)
   have hw9:=hw2.same hf9
   have i9l:=I9.lt
   have if9:=fun i=>I9.frozen i
   obtain⟨j0,j1,j2,j3⟩:=I9.c4
   clear H3
   go_wp2_with fail
   go_meet
   exact⟨C9.keepX (Fr.put1 w1.heap.size 1 (.int .i64 (k9:Int)) w9) (by omega),⟨⟨(1+((12:Nat):Int)),(k9:Int),⟨#[]⟩,⟨#[]⟩⟩,I9.set_ 1 (.int .i64 (k9:Int)),by first|exact hnm|exact hx1|exact Nat.zero_le _,by first|exact hnm|exact hx1|exact Nat.zero_le _,by dsimp only;omega,by dsimp only;omega,by dsimp only;omega,by dsimp only;omega⟩,(hr9.far (Fr.put1 w1.heap.size 1 (.int .i64 (k9:Int)) w9) (fun b e=>by omega)).up (by omega),hw9.trans (Fr.put1 w1.heap.size 1 (.int .i64 (k9:Int)) w9) (fun b hb e=>by omega)⟩
  ·go_wp2_with fail
   go_meet
   exact⟨C2.keepX (Fr.put1 w1.heap.size 2 (.string nm) w2) (by omega),⟨⟨(1+((5:Nat):Int)),0,nm,⟨#[]⟩⟩,I2.set_ 2 (.string nm),by first|exact hnm|exact hx1|exact Nat.zero_le _,by first|exact hnm|exact hx1|exact Nat.zero_le _,by dsimp only;omega,by dsimp only;omega,by dsimp only;omega,by dsimp only;omega⟩,(hr2.far (Fr.put1 w1.heap.size 2 (.string nm) w2) (fun b e=>by omega)).up (by omega),hw2.trans (Fr.put1 w1.heap.size 2 (.string nm) w2) (fun b hb e=>by omega)⟩
  ·go_wp2_with fail
   go_meet
   exact⟨C2.keepX (Fr.put1 w1.heap.size 2 (.string nm) w2) (by omega),⟨⟨(1+((14:Nat):Int)),0,nm,⟨#[]⟩⟩,I2.set_ 2 (.string nm),by first|exact hnm|exact hx1|exact Nat.zero_le _,by first|exact hnm|exact hx1|exact Nat.zero_le _,by dsimp only;omega,by dsimp only;omega,by dsimp only;omega,by dsimp only;omega⟩,(hr2.far (Fr.put1 w1.heap.size 2 (.string nm) w2) (fun b e=>by omega)).up (by omega),hw2.trans (Fr.put1 w1.heap.size 2 (.string nm) w2) (fun b hb e=>by omega)⟩
  ·have H3:=fun W (hW:Fr (fun b=>b=w1.heap.size) w2 W)=>zrd rb (q+2) 3 W (hr2.far hW (fun b e=>by omega)) (by omega) (by omega) (by omega)
   go_wp2_with (go_at_call 47;refine(H3 _ (by first|exact Fr.refl _ _|exact(Fr.refl _ _).alloc _|exact(Fr.put1 _ _ _ _).alloc _)).mono ?_;rintro e w9 ⟨k9,hk9,rfl,hr9,hf9⟩;refine Hid.out ?_)
   refine Lib.hid ?_
   have N9:=(Bx.new (w2.setCell ⟨w1.heap.size,2,none⟩ (.string nm)) 9 #[.string ⟨#[118]⟩,.string ⟨#[110,101,120,116]⟩,.string ⟨#[119]⟩]).keepX hf9 (by simp;omega)
   obtain⟨x,hv,hx1⟩:=zse (l:=(#[.string ⟨#[118]⟩,.string ⟨#[110,101,120,116]⟩,.string ⟨#[119]⟩]:Array Value).toList) (by decide) hk9 rfl
   have cy:w9.cell? ⟨w2.heap.size,k9,none⟩=some (.string x):=by
    have:=N9.cell k9
    rw[<-hv]
    simpa using this
   have n9l:=N9.lt
   have hs9:=hf9.size
   have I9:=((I2.set_ 2 (.string nm)).alloc (.cells #[.string ⟨#[118]⟩,.string ⟨#[110,101,120,116]⟩,.string ⟨#[119]⟩] 9)).keepX hf9 (by omega)
   have C9:=((C2.keepX (Fr.put1 w1.heap.size 2 (.string nm) w2) (by omega)).alloc (.cells #[.string ⟨#[118]⟩,.string ⟨#[110,101,120,116]⟩,.string ⟨#[119]⟩] 9)).keepX hf9 (by omega)
   have hw9:=((hw2.trans (Fr.put1 w1.heap.size 2 (.string nm) w2) (fun b hb e=>by omega)).alloc (.cells #[.string ⟨#[118]⟩,.string ⟨#[110,101,120,116]⟩,.string ⟨#[119]⟩] 9)).same hf9
   have i9l:=I9.lt
   have if9:=fun i=>I9.frozen i
   obtain⟨j0,j1,j2,j3⟩:=I9.c4
   clear H3 hv N9
   go_wp2_with fail
   go_meet
   exact⟨C9.keepX (Fr.put1 w1.heap.size 3 (.string x) w9) (by omega),⟨⟨(1+((6:Nat):Int)),0,nm,x⟩,I9.set_ 3 (.string x),by first|exact hnm|exact hx1|exact Nat.zero_le _,by first|exact hnm|exact hx1|exact Nat.zero_le _,by dsimp only;omega,by dsimp only;omega,by dsimp only;omega,by dsimp only;omega⟩,(hr9.far (Fr.put1 w1.heap.size 3 (.string x) w9) (fun b e=>by omega)).up (by omega),hw9.trans (Fr.put1 w1.heap.size 3 (.string x) w9) (fun b hb e=>by omega)⟩
  ·have H3:=fun W (hW:Fr (fun b=>b=w1.heap.size) w2 W)=>zrd rb (q+2) 3 W (hr2.far hW (fun b e=>by omega)) (by omega) (by omega) (by omega)
   go_wp2_with (go_at_call 47;refine(H3 _ (by first|exact Fr.refl _ _|exact(Fr.refl _ _).alloc _|exact(Fr.put1 _ _ _ _).alloc _)).mono ?_;rintro e w9 ⟨k9,hk9,rfl,hr9,hf9⟩;refine Hid.out ?_)
   refine Lib.hid ?_
   have N9:=(Bx.new (w2.setCell ⟨w1.heap.size,2,none⟩ (.string nm)) 9 #[.string ⟨#[118]⟩,.string ⟨#[110,101,120,116]⟩,.string ⟨#[119]⟩]).keepX hf9 (by simp;omega)
   obtain⟨x,hv,hx1⟩:=zse (l:=(#[.string ⟨#[118]⟩,.string ⟨#[110,101,120,116]⟩,.string ⟨#[119]⟩]:Array Value).toList) (by decide) hk9 rfl
   have cy:w9.cell? ⟨w2.heap.size,k9,none⟩=some (.string x):=by
    have:=N9.cell k9
    rw[<-hv]
    simpa using this
   have n9l:=N9.lt
   have hs9:=hf9.size
   have I9:=((I2.set_ 2 (.string nm)).alloc (.cells #[.string ⟨#[118]⟩,.string ⟨#[110,101,120,116]⟩,.string ⟨#[119]⟩] 9)).keepX hf9 (by omega)
   have C9:=((C2.keepX (Fr.put1 w1.heap.size 2 (.string nm) w2) (by omega)).alloc (.cells #[.string ⟨#[118]⟩,.string ⟨#[110,101,120,116]⟩,.string ⟨#[119]⟩] 9)).keepX hf9 (by omega)
   have hw9:=((hw2.trans (Fr.put1 w1.heap.size 2 (.string nm) w2) (fun b hb e=>by omega)).alloc (.cells #[.string ⟨#[118]⟩,.string ⟨#[110,101,120,116]⟩,.string ⟨#[119]⟩] 9)).same hf9
   have i9l:=I9.lt
   have if9:=fun i=>I9.frozen i
   obtain⟨j0,j1,j2,j3⟩:=I9.c4
   clear H3 hv N9
   go_wp2_with fail
   go_meet
   exact⟨C9.keepX (Fr.put1 w1.heap.size 3 (.string x) w9) (by omega),⟨⟨(1+((7:Nat):Int)),0,nm,x⟩,I9.set_ 3 (.string x),by first|exact hnm|exact hx1|exact Nat.zero_le _,by first|exact hnm|exact hx1|exact Nat.zero_le _,by dsimp only;omega,by dsimp only;omega,by dsimp only;omega,by dsimp only;omega⟩,(hr9.far (Fr.put1 w1.heap.size 3 (.string x) w9) (fun b e=>by omega)).up (by omega),hw9.trans (Fr.put1 w1.heap.size 3 (.string x) w9) (fun b hb e=>by omega)⟩
  ·have H3:=fun W (hW:Fr (fun b=>b=w1.heap.size) w2 W)=>zrd rb (q+2) 5 W (hr2.far hW (fun b e=>by omega)) (by omega) (by omega) (by omega)
   go_wp2_with (go_at_call 47;refine(H3 _ (by first|exact Fr.refl _ _|exact(Fr.refl _ _).alloc _|exact(Fr.put1 _ _ _ _).alloc _)).mono ?_;rintro e w9 ⟨k9,hk9,rfl,hr9,hf9⟩;refine Hid.out ?_)
   refine Lib.hid ?_
   have N9:=(Bx.new (w2.setCell ⟨w1.heap.size,2,none⟩ (.string nm)) 9 #[.string ⟨#[103,101,116]⟩,.string ⟨#[98,117,109,112]⟩,.string ⟨#[108,105,110,107]⟩,.string ⟨#[114,117,110]⟩,.string ⟨#[120]⟩]).keepX hf9 (by simp;omega)
   obtain⟨x,hv,hx1⟩:=zse (l:=(#[.string ⟨#[103,101,116]⟩,.string ⟨#[98,117,109,112]⟩,.string ⟨#[108,105,110,107]⟩,.string ⟨#[114,117,110]⟩,.string ⟨#[120]⟩]:Array Value).toList) (by decide) hk9 rfl
   have cy:w9.cell? ⟨w2.heap.size,k9,none⟩=some (.string x):=by
    have:=N9.cell k9
    rw[<-hv]
    simpa using this
   have n9l:=N9.lt
   have hs9:=hf9.size
   have I9:=((I2.set_ 2 (.string nm)).alloc (.cells #[.string ⟨#[103,101,116]⟩,.string ⟨#[98,117,109,112]⟩,.string ⟨#[108,105,110,107]⟩,.string ⟨#[114,117,110]⟩,.string ⟨#[120]⟩] 9)).keepX hf9 (by omega)
   have C9:=((C2.keepX (Fr.put1 w1.heap.size 2 (.string nm) w2) (by omega)).alloc (.cells #[.string ⟨#[103,101,116]⟩,.string ⟨#[98,117,109,112]⟩,.string ⟨#[108,105,110,107]⟩,.string ⟨#[114,117,110]⟩,.string ⟨#[120]⟩] 9)).keepX hf9 (by omega)
   have hw9:=((hw2.trans (Fr.put1 w1.heap.size 2 (.string nm) w2) (fun b hb e=>by omega)).alloc (.cells #[.string ⟨#[103,101,116]⟩,.string ⟨#[98,117,109,112]⟩,.string ⟨#[108,105,110,107]⟩,.string ⟨#[114,117,110]⟩,.string ⟨#[120]⟩] 9)).same hf9
   have i9l:=I9.lt
   have if9:=fun i=>I9.frozen i
   obtain⟨j0,j1,j2,j3⟩:=I9.c4
   clear H3 hv N9
   go_wp2_with fail
   go_meet
   exact⟨C9.keepX (Fr.put1 w1.heap.size 3 (.string x) w9) (by omega),⟨⟨(1+((8:Nat):Int)),0,nm,x⟩,I9.set_ 3 (.string x),by first|exact hnm|exact hx1|exact Nat.zero_le _,by first|exact hnm|exact hx1|exact Nat.zero_le _,by dsimp only;omega,by dsimp only;omega,by dsimp only;omega,by dsimp only;omega⟩,(hr9.far (Fr.put1 w1.heap.size 3 (.string x) w9) (fun b e=>by omega)).up (by omega),hw9.trans (Fr.put1 w1.heap.size 3 (.string x) w9) (fun b hb e=>by omega)⟩
  ·go_wp2_with fail
   go_meet
   exact⟨C2,⟨⟨(1+((3:Nat):Int)),0,⟨#[]⟩,⟨#[]⟩⟩,I2,by first|exact hnm|exact hx1|exact Nat.zero_le _,by first|exact hnm|exact hx1|exact Nat.zero_le _,by dsimp only;omega,by dsimp only;omega,by dsimp only;omega,by dsimp only;omega⟩,hr2.up (by omega),hw2⟩
  ·go_wp2_with fail
   go_meet
   exact⟨C2,⟨⟨(1+((4:Nat):Int)),0,⟨#[]⟩,⟨#[]⟩⟩,I2,by first|exact hnm|exact hx1|exact Nat.zero_le _,by first|exact hnm|exact hx1|exact Nat.zero_le _,by dsimp only;omega,by dsimp only;omega,by dsimp only;omega,by dsimp only;omega⟩,hr2.up (by omega),hw2⟩
  ·go_wp2_with fail
   go_meet
   exact⟨C2,⟨⟨(1+((9:Nat):Int)),0,⟨#[]⟩,⟨#[]⟩⟩,I2,by first|exact hnm|exact hx1|exact Nat.zero_le _,by first|exact hnm|exact hx1|exact Nat.zero_le _,by dsimp only;omega,by dsimp only;omega,by dsimp only;omega,by dsimp only;omega⟩,hr2.up (by omega),hw2⟩
  ·go_wp2_with fail
   go_meet
   exact⟨C2,⟨⟨(1+((13:Nat):Int)),0,⟨#[]⟩,⟨#[]⟩⟩,I2,by first|exact hnm|exact hx1|exact Nat.zero_le _,by first|exact hnm|exact hx1|exact Nat.zero_le _,by dsimp only;omega,by dsimp only;omega,by dsimp only;omega,by dsimp only;omega⟩,hr2.up (by omega),hw2⟩
 case rest=>
  obtain⟨C2,⟨i,I2,z1,z2,z3,z4,z5,z6⟩,hr2,hw2⟩:=hcut
  have hr2l:=hr2.lt
  have il:=I2.lt
  have hwl:=hw2.size
  have H3:=zr8 rb (q+3) n _ hr2 hn hn2 (by omega)
  go_upto_if 67 with (go_at_call 44;refine H3.mono ?_;rintro e w3 ⟨b3,rfl,hr3,hf3⟩;have C3:=C2.keepX hf3 (by omega);have I3:=I2.keepX hf3 (by omega);have hw3:=hw2.same hf3;have i3l:=I3.lt)
  clear H3 C2 I2 hr2 hw2
  go_cut [] (fun wx=>Bx wx w.heap.size 177 #[.int .i64 0,.int .i64 0,.string ⟨#[]⟩,.string ⟨#[]⟩]∧zsd w1.heap.size wx∧RdB wx rb (q+6)∧Fr (fun b=>b=rb) w wx)
  case first=>
   cases b3
   ·go_wp2_with fail
    go_meet
    exact⟨C3,⟨i,I3,z1,z2,z3,z4,z5,z6⟩,hr3.up (by omega),hw3⟩
   ·have H4:=zrd rb (q+4) 4 w3 hr3 (by omega) (by omega) (by omega)
    go_wp2_with (go_at_call 47;refine H4.mono ?_;rintro e w4 ⟨k3,hk3,rfl,hr4,hf4⟩;refine Hid.out ?_)
    refine Lib.hid ?_
    have C4:=C3.keepX hf4 (by omega)
    have I4:=I3.keepX hf4 (by omega)
    have hw4:=hw3.same hf4
    have i4l:=I4.lt
    have hr4l:=hr4.lt
    clear H4 C3 I3 hr3 hw3 hf4 hf3
    have hkk:k3=0∨k3=1∨k3=2∨k3=3:=by omega
    rcases hkk with rfl|rfl|rfl|rfl
    ·have H3:=fun W (hW:Fr (fun b=>b=w1.heap.size) w4 W)=>zrd rb (q+5) 3 W (hr4.far hW (fun b e=>by omega)) (by omega) (by omega) (by omega)
     go_wp2_with (go_at_call 47;refine(H3 _ (by first|exact Fr.refl _ _|exact(Fr.refl _ _).alloc _|exact(Fr.put1 _ _ _ _).alloc _)).mono ?_;rintro e w9 ⟨k9,hk9,rfl,hr9,hf9⟩;refine Hid.out ?_)
     refine Lib.hid ?_
     have N9:=(Bx.new w4 3 #[.int .i64 0,.int .i64 16,.int .i64 (-1)]).keepX hf9 (by skip;omega)
     obtain⟨x,hv,hx1,hx2⟩:=zsf (l:=(#[.int .i64 0,.int .i64 16,.int .i64 (-1)]:Array Value).toList) (by decide) hk9 rfl
     have cy:w9.cell? ⟨w4.heap.size,k9,none⟩=some (.int .i64 x):=by
      have:=N9.cell k9
      rw[<-hv]
      simpa using this
     have n9l:=N9.lt
     have hs9:=hf9.size
     have I9:=(I4.alloc (.cells #[.int .i64 0,.int .i64 16,.int .i64 (-1)] 3)).keepX hf9 (by omega)
     have C9:=(C4.alloc (.cells #[.int .i64 0,.int .i64 16,.int .i64 (-1)] 3)).keepX hf9 (by omega)
     have hw9:=(hw4.alloc (.cells #[.int .i64 0,.int .i64 16,.int .i64 (-1)] 3)).same hf9
     have i9l:=I9.lt
     have if9:=fun i=>I9.frozen i
     obtain⟨j0,j1,j2,j3⟩:=I9.c4
     clear H3 hv N9
     go_wp2_with fail
     go_meet
     exact⟨C9.keepX (Fr.put1 w1.heap.size 0 (.int .i64 x) w9) (by omega),⟨⟨x,i.a,i.name,i.member⟩,I9.set_ 0 (.int .i64 x),by first|exact hx1|assumption,by first|exact hx1|assumption,by first|exact hx1|assumption,by first|exact hx2|assumption,by first|exact hx1|assumption,by first|exact hx2|assumption⟩,(hr9.far (Fr.put1 w1.heap.size 0 (.int .i64 x) w9) (fun b e=>by omega)).up (by omega),hw9.trans (Fr.put1 w1.heap.size 0 (.int .i64 x) w9) (fun b hb e=>by omega)⟩
    ·have H3:=fun W (hW:Fr (fun b=>b=w1.heap.size) w4 W)=>zrd rb (q+5) 4 W (hr4.far hW (fun b e=>by omega)) (by omega) (by omega) (by omega)
     go_wp2_with (go_at_call 47;refine(H3 _ (by first|exact Fr.refl _ _|exact(Fr.refl _ _).alloc _|exact(Fr.put1 _ _ _ _).alloc _)).mono ?_;rintro e w9 ⟨k9,hk9,rfl,hr9,hf9⟩;refine Hid.out ?_)
     refine Lib.hid ?_
     have N9:=(Bx.new w4 3 #[.int .i64 10000,.int .i64 (-1),.int .i64 16,.int .i64 6]).keepX hf9 (by skip;omega)
     obtain⟨x,hv,hx1,hx2⟩:=zsf (l:=(#[.int .i64 10000,.int .i64 (-1),.int .i64 16,.int .i64 6]:Array Value).toList) (by decide) hk9 rfl
     have cy:w9.cell? ⟨w4.heap.size,k9,none⟩=some (.int .i64 x):=by
      have:=N9.cell k9
      rw[<-hv]
      simpa using this
     have n9l:=N9.lt
     have hs9:=hf9.size
     have I9:=(I4.alloc (.cells #[.int .i64 10000,.int .i64 (-1),.int .i64 16,.int .i64 6] 3)).keepX hf9 (by omega)
     have C9:=(C4.alloc (.cells #[.int .i64 10000,.int .i64 (-1),.int .i64 16,.int .i64 6] 3)).keepX hf9 (by omega)
     have hw9:=(hw4.alloc (.cells #[.int .i64 10000,.int .i64 (-1),.int .i64 16,.int .i64 6] 3)).same hf9
     have i9l:=I9.lt
     have if9:=fun i=>I9.frozen i
     obtain⟨j0,j1,j2,j3⟩:=I9.c4
     clear H3 hv N9
     go_wp2_with fail
     go_meet
     exact⟨C9.keepX (Fr.put1 w1.heap.size 1 (.int .i64 x) w9) (by omega),⟨⟨i.op,x,i.name,i.member⟩,I9.set_ 1 (.int .i64 x),by first|exact hx1|assumption,by first|exact hx1|assumption,by first|exact hx1|assumption,by first|exact hx2|assumption,by first|exact hx1|assumption,by first|exact hx2|assumption⟩,(hr9.far (Fr.put1 w1.heap.size 1 (.int .i64 x) w9) (fun b e=>by omega)).up (by omega),hw9.trans (Fr.put1 w1.heap.size 1 (.int .i64 x) w9) (fun b hb e=>by omega)⟩
    ·have H3:=fun W (hW:Fr (fun b=>b=w1.heap.size) w4 W)=>zrd rb (q+5) 3 W (hr4.far hW (fun b e=>by omega)) (by omega) (by omega) (by omega)
     go_wp2_with (go_at_call 47;refine(H3 _ (by first|exact Fr.refl _ _|exact(Fr.refl _ _).alloc _|exact(Fr.put1 _ _ _ _).alloc _)).mono ?_;rintro e w9 ⟨k9,hk9,rfl,hr9,hf9⟩;refine Hid.out ?_)
     refine Lib.hid ?_
     have N9:=(Bx.new w4 9 #[.string ⟨#[]⟩,.string ⟨#[65]⟩,.string ⟨#[116,111,112]⟩]).keepX hf9 (by skip;omega)
     obtain⟨x,hv,hx1⟩:=zse (l:=(#[.string ⟨#[]⟩,.string ⟨#[65]⟩,.string ⟨#[116,111,112]⟩]:Array Value).toList) (by decide) hk9 rfl
     have cy:w9.cell? ⟨w4.heap.size,k9,none⟩=some (.string x):=by
      have:=N9.cell k9
      rw[<-hv]
      simpa using this
     have n9l:=N9.lt
     have hs9:=hf9.size
     have I9:=(I4.alloc (.cells #[.string ⟨#[]⟩,.string ⟨#[65]⟩,.string ⟨#[116,111,112]⟩] 9)).keepX hf9 (by omega)
     have C9:=(C4.alloc (.cells #[.string ⟨#[]⟩,.string ⟨#[65]⟩,.string ⟨#[116,111,112]⟩] 9)).keepX hf9 (by omega)
     have hw9:=(hw4.alloc (.cells #[.string ⟨#[]⟩,.string ⟨#[65]⟩,.string ⟨#[116,111,112]⟩] 9)).same hf9
     have i9l:=I9.lt
     have if9:=fun i=>I9.frozen i
     obtain⟨j0,j1,j2,j3⟩:=I9.c4
     clear H3 hv N9
     go_wp2_with fail
     go_meet
     exact⟨C9.keepX (Fr.put1 w1.heap.size 2 (.string x) w9) (by omega),⟨⟨i.op,i.a,x,i.member⟩,I9.set_ 2 (.string x),by first|exact hx1|assumption,by first|exact hx1|assumption,by first|exact hx1|assumption,by first|exact hx2|assumption,by first|exact hx1|assumption,by first|exact hx2|assumption⟩,(hr9.far (Fr.put1 w1.heap.size 2 (.string x) w9) (fun b e=>by omega)).up (by omega),hw9.trans (Fr.put1 w1.heap.size 2 (.string x) w9) (fun b hb e=>by omega)⟩
    ·have H3:=fun W (hW:Fr (fun b=>b=w1.heap.size) w4 W)=>zrd rb (q+5) 3 W (hr4.far hW (fun b e=>by omega)) (by omega) (by omega) (by omega)
     go_wp2_with (go_at_call 47;refine(H3 _ (by first|exact Fr.refl _ _|exact(Fr.refl _ _).alloc _|exact(Fr.put1 _ _ _ _).alloc _)).mono ?_;rintro e w9 ⟨k9,hk9,rfl,hr9,hf9⟩;refine Hid.out ?_)
     refine Lib.hid ?_
     have N9:=(Bx.new w4 9 #[.string ⟨#[]⟩,.string ⟨#[65]⟩,.string ⟨#[118]⟩]).keepX hf9 (by skip;omega)
     obtain⟨x,hv,hx1⟩:=zse (l:=(#[.string ⟨#[]⟩,.string ⟨#[65]⟩,.string ⟨#[118]⟩]:Array Value).toList) (by decide) hk9 rfl
     have cy:w9.cell? ⟨w4.heap.size,k9,none⟩=some (.string x):=by
      have:=N9.cell k9
      rw[<-hv]
      simpa using this
     have n9l:=N9.lt
     have hs9:=hf9.size
     have I9:=(I4.alloc (.cells #[.string ⟨#[]⟩,.string ⟨#[65]⟩,.string ⟨#[118]⟩] 9)).keepX hf9 (by omega)
     have C9:=(C4.alloc (.cells #[.string ⟨#[]⟩,.string ⟨#[65]⟩,.string ⟨#[118]⟩] 9)).keepX hf9 (by omega)
     have hw9:=(hw4.alloc (.cells #[.string ⟨#[]⟩,.string ⟨#[65]⟩,.string ⟨#[118]⟩] 9)).same hf9
     have i9l:=I9.lt
     have if9:=fun i=>I9.frozen i
     obtain⟨j0,j1,j2,j3⟩:=I9.c4
     clear H3 hv N9
     go_wp2_with fail
     go_meet
     exact⟨C9.keepX (Fr.put1 w1.heap.size 3 (.string x) w9) (by omega),⟨⟨i.op,i.a,i.name,x⟩,I9.set_ 3 (.string x),by first|exact hx1|assumption,by first|exact hx1|assumption,by first|exact hx1|assumption,by first|exact hx2|assumption,by first|exact hx1|assumption,by first|exact hx2|assumption⟩,(hr9.far (Fr.put1 w1.heap.size 3 (.string x) w9) (fun b e=>by omega)).up (by omega),hw9.trans (Fr.put1 w1.heap.size 3 (.string x) w9) (fun b hb e=>by omega)⟩
  case rest=>
   obtain⟨C5,⟨j,I5,y1,y2,y3,y4,y5,y6⟩,hr5,hw5⟩:=hcut
   obtain⟨j0,j1,j2,j3⟩:=I5.c4
   have jl:=I5.lt
   obtain⟨p0,p1,p2,p3⟩:=C5.c4
   have pl:=C5.lt
   have pf:=fun i=>C5.frozen i
   go_wp2_with fail
   refine bodyPost_ret (v:=.agg #[.int .i64 j.op,.int .i64 j.a,.string j.name,.string j.member]) (by simp[results,Tryz.results92,go_sem, *]) rfl ?_
   have hf9:∀(W0 W:World),Fr (fun b=>b=rb) w W0->RdB W0 rb (q+6)->Fr (fun b=>b=w.heap.size) W0 W->InsP rb q w (.returned (.agg #[.int .i64 j.op,.int .i64 j.a,.string j.name,.string j.member])) W:=fun W0 W h1 h2 h3=>⟨j,rfl,y1,y2,y3,y4,y5,y6,h2.far h3 (fun b e=>by omega),h1.trans h3 (fun b hb e=>by omega)⟩
   exact hf9 _ _ hw5 hr5 ((((Fr.put1 _ _ _ _).same (Fr.put1 _ _ _ _)).same (Fr.put1 _ _ _ _)).same (Fr.put1 _ _ _ _))
end Go.Proofs.YtmeaibjmnjcdfaaGreat
