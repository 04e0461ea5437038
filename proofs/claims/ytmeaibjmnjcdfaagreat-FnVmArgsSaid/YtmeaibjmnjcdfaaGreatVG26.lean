/- The reader that draws: pick, odd, open. -/
import Derived.Test.YtmeaibjmnjcdfaaGreatVG25
set_option maxHeartbeats 8000000
set_option maxRecDepth 100000
namespace Go.Proofs.YtmeaibjmnjcdfaaGreat
open Go.RowKit
def BytC (cs:List Value) (n:Int):Prop:=cs=[.int .u8 n]∧0≤n∧n<256
theorem Sl.byt {X:Nat->Prop} {w:World} {A:Option Addr} {n cap:Nat} {xs:List Int} (h:Sl X w 1 BytC (.slice A n cap) xs) {k:Nat} (hk:k<xs.length):
  ∃b off,A=some ⟨b,off,none⟩∧¬X b∧w.cell? ⟨b,off+k,none⟩=some (.int .u8 xs[k])∧0≤xs[k]∧xs[k]<256:=by
 obtain⟨b,off,cs,hA,hX,⟨rfl,h1,h2⟩,hc⟩:=h.cells hk
 refine⟨b,off,hA,hX,?_,h1,h2⟩
 have:=hc 0 _ (by decide) rfl
 simpa using this
def RdB (w:World) (rb q:Nat):Prop:=∃(v:Value) (bs:List Int) (p:Nat),Bx w rb 96 #[v,.int .i64 p]∧Sl (fun b=>rb≤b) w 1 BytC v bs∧p≤q
theorem RdB.keep {w w':World} {rb q:Nat} (h:RdB w rb q) (hf:Fr No w w'):RdB w' rb q:=by
 obtain⟨v,bs,p,h1,h2,h3⟩:=h
 exact⟨v,bs,p,h1.keep hf,h2.k0 hf,h3⟩
theorem RdB.far {X:Nat->Prop} {w w':World} {rb q:Nat} (h:RdB w rb q) (hf:Fr X w w') (hX:∀b,X b->rb<b):RdB w' rb q:=by
 obtain⟨v,bs,p,h1,h2,h3⟩:=h
 exact⟨v,bs,p,h1.keepX hf (fun e=>by have:=hX _ e;omega),h2.keep hf (fun b e=>Nat.le_of_lt (hX b e)) (fun _ _ _ h=>h),h3⟩
theorem RdB.lt {w:World} {rb q:Nat} (h:RdB w rb q):rb<w.heap.size:=by
 obtain⟨v,bs,p,h1,h2,h3⟩:=h
 exact h1.lt
theorem RdB.up {w:World} {rb q q':Nat} (h:RdB w rb q) (hq:q≤q'):RdB w rb q':=by
 obtain⟨v,bs,p,h1,h2,h3⟩:=h
 exact⟨v,bs,p,h1,h2,by omega⟩
def zrb (rb q n:Nat) (w:World) (e:Ending) (w':World):Prop:=∃k:Nat,k<n∧e=.returned (.int .i64 k)∧RdB w' rb (q+1)∧Fr (fun b=>b=rb) w w'
theorem zrc (x y:Int) (hx:0≤x) (hx2:x<4611686018427387904) (hy:0≤y) (hy2:y<4611686018427387904):0≤bits .xor .i64 x y∧bits .xor .i64 x y<4611686018427387904:=by
 obtain⟨a,rfl⟩:=Int.eq_ofNat_of_zero_le hx
 obtain⟨b,rfl⟩:=Int.eq_ofNat_of_zero_le hy
 have h1:bits .xor .i64 (a:Int) (b:Int)=IntKind.i64.wrap ((a ^^^ b:Nat):Int):=by
  unfold bits
  dsimp only
  congr 1
  rw[BitVec.toNat_xor]
  congr 1
  simp only[IntKind.bits]
  rw[BitVec.toNat_ofInt,BitVec.toNat_ofInt]
  congr 1<;>omega
 have h2:a ^^^ b<2 ^ 62:=Nat.xor_lt_two_pow (by omega) (by omega)
 rw[h1,IntWalk.i64_in _ (by omega)]
 omega
theorem zrd (rb q n:Nat) (w:World) (h:RdB w rb q) (hn:1≤n) (hn2:n≤1000000) (hq:q≤1000000):
  Calls Tryz.prog 47 #[.pointer (some ⟨rb,0,none⟩),.int .i64 n] w (zrb rb q n w):=by
 obtain⟨v,bs,p,hB,hS,hp⟩:=h
 obtain⟨A,cap,rfl,hc1,hc2⟩:=hS.form
 unfold maxLen at hc2
 obtain⟨b0,b1⟩:=hB.c2
 have bl:=hB.lt
 have bf:=fun i=>hB.frozen i
 have hn0:decide ((n:Int)<1)=false:=decide_eq_false (by omega)
 have e1:IntKind.i64.wrap ((p:Int)+1)=(p:Int)+1:=IntWalk.i64_in _ (by omega)
 have e2:IntKind.i64.wrap ((p:Int)+1-1)=(p:Int):=by rw[IntWalk.i64_in _ (by omega)];omega
 obtain⟨wS,hwS⟩:∃wS,wS=w.setCell ⟨rb,1,none⟩ (.int .i64 ((p:Int)+1)):=⟨_,rfl⟩
 have hfS:Fr (fun b=>b=rb) w wS:=hwS▸Fr.put1 _ _ _ _
 have BS:Bx wS rb 96 #[.slice A bs.length cap,.int .i64 ((p:Int)+1)]:=hwS▸hB.set_ 1 (.int .i64 ((p:Int)+1))
 have hSS:=hS.keep hfS (fun b (e:b=rb)=>Nat.le_of_eq e.symm) (fun _ _ _ h=>h)
 have hfin:∀(W:World) (k:Nat),Fr No wS W->k<n->zrb rb q n w (.returned (.int .i64 k)) W:=fun W k hW hk=>
  ⟨k,hk,rfl,⟨_,bs,p+1,BS.keep hW,hSS.k0 hW,by omega⟩,hfS.trans0 hW⟩
 replace hfin:=Lib.hid hfin
 by_cases h0:bs.length=0
 ·have h0i:(bs.length:Int)=0:=by omega
  clear hc1 hc2 hS hSS BS
  go_enter Tryz.func47,Tryz.ntmps47
  go_wp2_with fail
  refine bodyPost_ret (results_tmp rfl _ _ _) rfl ?_
  rw[<-hwS]
  exact hfin.out _ 0 (Fr.refl _ _) (by omega)
 ·have h0i:((bs.length:Int) == 0)=false:=beq_eq_false_iff_ne.2 (by omega)
  by_cases hlt:p<bs.length
  ·have hlti:decide ((p:Int)<(bs.length:Int))=true:=decide_eq_true (by omega)
   obtain⟨b,off,rfl,hX,o1,p1,p2⟩:=hS.byt hlt
   have hbl:=lt_of_cell o1
   have hbr:¬rb=b:=fun e=>hX (Nat.le_of_eq e)
   have hbr':¬b=rb:=fun e=>hX (Nat.le_of_eq e.symm)
   obtain⟨x,hx⟩:=Int.eq_ofNat_of_zero_le p1
   rw[hx] at o1 p2
   have ex:IntKind.i64.wrap (x:Int)=(x:Int):=IntWalk.i64_in _ (by omega)
   have et:Int.tmod (x:Int) (n:Int)=((x % n:Nat):Int):=rfl
   have hk:=Nat.mod_lt x (show 0<n by omega)
   have hn9:((n:Int) == 0)=false:=beq_eq_false_iff_ne.2 (by omega)
   clear hS hx p1 hSS BS
   go_enter Tryz.func47,Tryz.ntmps47
   go_wp2_with fail
   rw[<-hwS]
   refine bodyPost_ret (results_tmp rfl _ _ _) rfl ?_
   exact hfin.out _ _ (Fr.refl _ _) hk
  ·have hlti:decide ((p:Int)<(bs.length:Int))=false:=decide_eq_false (by omega)
   have hi:=Nat.mod_lt p (show 0<bs.length by omega)
   have hj:=Nat.mod_lt (p * 7+3) (show 0<bs.length by omega)
   obtain⟨b,off,rfl,hX,o1,p1,p2⟩:=hSS.byt hi
   obtain⟨b',off',hb',_,o2,p3,p4⟩:=hSS.byt hj
   cases hb'
   have hbl:=lt_of_cell o1
   have hbr:¬rb=b:=fun e=>hX (Nat.le_of_eq e)
   have hbr':¬b=rb:=fun e=>hX (Nat.le_of_eq e.symm)
   have ei:Int.tmod (p:Int) (bs.length:Int)=((p % bs.length:Nat):Int):=rfl
   have ej:Int.tmod ((p:Int) * 7+3) (bs.length:Int)=(((p * 7+3) % bs.length:Nat):Int):=by rw[show(p:Int) * 7+3=((p * 7+3:Nat):Int) by omega];rfl
   have ed:Int.tdiv (p:Int) (bs.length:Int)=((p / bs.length:Nat):Int):=rfl
   have hd:p / bs.length≤p:=Nat.div_le_self _ _
   generalize bs[p % bs.length]=x at *
   generalize bs[(p * 7+3) % bs.length]=y at *
   generalize p % bs.length=i at *
   generalize(p * 7+3) % bs.length=j at *
   generalize p / bs.length=d at *
   have g1:IntKind.i64.wrap x=x:=IntWalk.i64_in _ (by omega)
   have g2:IntKind.i64.wrap (x * 131)=x * 131:=IntWalk.i64_in _ (by omega)
   have g3:IntKind.i64.wrap ((p:Int) * 7)=(p:Int) * 7:=IntWalk.i64_in _ (by omega)
   have g4:IntKind.i64.wrap ((p:Int) * 7+3)=(p:Int) * 7+3:=IntWalk.i64_in _ (by omega)
   have g5:IntKind.i64.wrap y=y:=IntWalk.i64_in _ (by omega)
   have g6:IntKind.i64.wrap (y * 1117)=y * 1117:=IntWalk.i64_in _ (by omega)
   have g7:IntKind.i64.wrap (x * 131+y * 1117)=x * 131+y * 1117:=IntWalk.i64_in _ (by omega)
   have g8:IntKind.i64.wrap ((p:Int) * 29)=(p:Int) * 29:=IntWalk.i64_in _ (by omega)
   have g9:IntKind.i64.wrap (x * 131+y * 1117+(p:Int) * 29)=x * 131+y * 1117+(p:Int) * 29:=IntWalk.i64_in _ (by omega)
   have gd:IntKind.i64.wrap (d:Int)=(d:Int):=IntWalk.i64_in _ (by omega)
   have g10:IntKind.i64.wrap ((d:Int) * 53)=(d:Int) * 53:=IntWalk.i64_in _ (by omega)
   have g11:IntKind.i64.wrap (x * 131+y * 1117+(p:Int) * 29+(d:Int) * 53)=x * 131+y * 1117+(p:Int) * 29+(d:Int) * 53:=IntWalk.i64_in _ (by omega)
   obtain⟨z,hz⟩:=Int.eq_ofNat_of_zero_le (show 0≤x * 131+y * 1117+(p:Int) * 29+(d:Int) * 53 by omega)
   have hz2:z<4611686018427387904:=by omega
   rw[hz] at g11
   have gq:Int.tdiv (z:Int) 64=((z / 64:Nat):Int):=rfl
   have hz3:z / 64≤z:=Nat.div_le_self _ _
   obtain⟨u1,u2⟩:=zrc (z:Int) ((z / 64:Nat):Int) (by omega) (by omega) (by omega) (by omega)
   obtain⟨u,hu⟩:=Int.eq_ofNat_of_zero_le u1
   have et:Int.tmod (u:Int) (n:Int)=((u % n:Nat):Int):=rfl
   have hk:=Nat.mod_lt u (show 0<n by omega)
   have hn9:((n:Int) == 0)=false:=beq_eq_false_iff_ne.2 (by omega)
   rw[show((z / 64:Nat):Int)=(z:Int) / 64 by omega] at hu
   have e0:=fun W (h:Fr No wS W)=>(BS.keep h).c2.1
   have e9:=fun W (h:Fr No wS W)=>(BS.keep h).c2.2
   have q0:=kp o1
   have q9:=kp o2
   clear hS u1 u2 p3 p4 p1 p2 hd hSS BS
   go_enter Tryz.func47,Tryz.ntmps47
   go_wp2_with fail
   rw[<-hwS]
   replace hwS:=Lib.hid hwS
   (refine zgc (X:=No) (by kernel_rfl) (by kernel_rfl) ?_)
   (repeat((first|go_big_quiet_skip|(go_big_quiet_want;(apply Exists.intro;refine⟨fun W hW=>?_,?_⟩);(focus (exact fqc));go_big_quiet_on));(try simp only[Act.put,lz0,lz1,lz2])));refine wpQuiet_nil ?_
   intro w1 hf1
   clear e0 e9 q0 q9
   try simp only[hz,g11]
   have gz:IntKind.i64.wrap ((z / 64:Nat):Int)=((z / 64:Nat):Int):=IntWalk.i64_in _ (by omega)
   go_wp2_with fail
   refine bodyPost_ret (results_tmp rfl _ _ _) rfl ?_
   dsimp only
   exact hfin.out _ _ hf1 hk
end Go.Proofs.YtmeaibjmnjcdfaaGreat
