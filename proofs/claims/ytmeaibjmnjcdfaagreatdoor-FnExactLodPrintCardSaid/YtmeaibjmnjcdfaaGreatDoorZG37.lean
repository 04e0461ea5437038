/- The text that a mark is: m, and the number in digits (the laws' markText). -/
import Derived.Test.YtmeaibjmnjcdfaaGreatDoorZG36
import Derived.Test.YtmeaibjmnjcdfaaGreatDoorZG12
import Derived.Laws.IdiomStrings
import Derived.WalkSpells
import Derived.WalkLawsBesides
set_option maxHeartbeats 1000000
set_option maxRecDepth 100000
namespace Go.Proofs.YtmeaibjmnjcdfaaGreatDoor
open Go.RowKit
theorem zoJ (W:World) (b:Nat) (d:UInt8) (hc:W.cell? ⟨b,0,none⟩=some (.int .u8 (d.toNat:Int))):
  (convert 41 9 (.slice (some ⟨b,0,none⟩) 1 1)).run Tryz.prog W=.ok (.string ⟨#[d]⟩) W:=by
 have:=run_convert_bytes_back (P:=Tryz.prog) W 41 9 5 ⟨b,0,none⟩ 1 [d] Tryz.underlying41 Tryz.underlying5 Tryz.underlying9 (fun j hj=>by
  simp only[List.length_cons,List.length_nil] at hj
  obtain rfl:j=0:=by omega
  exact hc)
 exact this
def dig1 (k:Nat):Str:=⟨#[UInt8.ofNat (48+k % 10)]⟩
def zoK (k:Nat) (o:Str):Str:=if _h:k=0 then o else zoK (k / 10) (dig1 k ++ o)
termination_by k
decreasing_by exact Nat.div_lt_self (Nat.pos_of_ne_zero _h) (by decide)
def zoL (k:Int):Str:=if k≤0 then ⟨#[109,48]⟩ else (⟨#[109]⟩:Str) ++ zoK k.toNat ⟨#[]⟩
theorem zoM (k:Int) (w:World) (h1:k≤1000000000):Calls Tryz.prog 36 #[.int .i64 k] w (Gives (.string (zoL k)) w):=by
 by_cases h0:k≤0
 ·have hV:Hid (zoL k=⟨#[109,48]⟩):=if_pos h0
  go_enter Tryz.func36,Tryz.ntmps36
  go_wp2
  go_ret
  exact .mk (by rw[hV.out];rfl) (by exact frc)
 ·have hV:Hid (zoL k=(⟨#[109]⟩:Str) ++ zoK k.toNat ⟨#[]⟩):=if_neg h0
  obtain⟨n,rfl⟩:=Int.eq_ofNat_of_zero_le (show 0≤k by omega)
  go_enter Tryz.func36,Tryz.ntmps36
  go_wp2
  go_loopw [0,3] (fun i o wr=>∃(m:Nat) (s:Str),s.size+m≤n∧i=.int .i64 m∧o=.string s∧Hid (zoK n ⟨#[]⟩=zoK m s)∧Fr No w wr) (fun i _ _=>(intOf i).toNat)
  case atStart=>exact⟨n,_,by show 0+n≤n;omega,rfl,rfl,rfl,Fr.refl _ _⟩
  case round=>
   obtain⟨m,s,hm,rfl,rfl,hd,hf⟩:=hrel
   by_cases hlt:0<m
   ·have hx:(UInt8.ofNat (48+m % 10)).toNat=48+m % 10:=by
     rw[UInt8.toNat_ofNat']
     omega
    have hc2:∀W b,W.cell? ⟨b,0,none⟩=some (.int .u8 (48+(m:Int) % 10))->(convert 41 9 (.slice (some ⟨b,0,none⟩) 1 1)).run Tryz.prog W=.ok (.string (dig1 m)) W:=fun W b h=>zoJ W b _ (by rw[h,hx];simp)
    have hz:(dig1 m).size=1:=rfl
    go_wp2
    go_roundw
    case rel=>
     refine⟨m / 10,_,?_,by go_num,rfl,?_,by exact frc⟩
     ·have:(dig1 m ++ s).size=(dig1 m).size+s.size:=ByteArray.size_append
      omega
     ·show _=_
      rw[hd.out,zoK,dif_neg (by omega)]
    case measure=>simp[intOf];omega
   ·obtain rfl:m=0:=by omega
    have hv:zoK n ⟨#[]⟩=s:=by rw[hd.out,zoK,dif_pos rfl]
    have hz:(⟨#[109]⟩:Str).size=1:=rfl
    go_wp2
    go_ret
    exact .mk (by rw[hV.out,<-hv];rfl) (by exact frc)
theorem zdP {P:Program} {f:FuncId} {args:Array Value} {w:World} {Q:Ending->World->Prop} (R:World->Prop) (h:R w) (k:∀W,R W->Calls P f args W Q):Calls P f args w Q:=k w h
def zzo (k:Int) (i:Nat):Value:=if i % 5=1∨i % 5=4 then .string (zoL (k+i)) else .int .i64 (k+i)
theorem mcI {k x:Int} {i:Nat} (h:¬(i % 5=1∨i % 5=4)) (hx:x=k+i):Value.int .i64 x=zzo k i:=by rw[zzo,if_neg h,hx]
theorem mcS {k x:Int} {i:Nat} (h:i % 5=1∨i % 5=4) (hx:x=k+i):Value.string (zoL x)=zzo k i:=by rw[zzo,if_pos h,hx]
structure Mk5 (g off:Nat) (k:Int) (w:World) (m:Nat) (W:World):Prop where
 tw:Tw (fun b=>b=g) w W
 cells:∀i,i<m->W.cell? ⟨g,off+i,none⟩=some (zzo k i)
section
variable {g off m a:Nat} {k x:Int} {w W W':World}
theorem Mk5.of0 (h:Mk5 g off k w m W) (hf:Fr No W W'):Mk5 g off k w m W':=⟨h.tw.trans (.of0 hf),fun i hi=>hf.keep0 (h.cells i hi)⟩
theorem Mk5.step {u v:Value} (h:Mk5 g off k w m W) (ha:a=off+m) (hu:u=zzo k m) (hc:W.cell? ⟨g,a,none⟩=some v) (hl:LkV v u):Mk5 g off k w (m+1) (W.setCell ⟨g,a,none⟩ u):=by
 subst ha
 refine⟨h.tw.trans (.set hc hl rfl),fun i hi=>?_⟩
 by_cases he:i=m
 ·subst he;rw[World.cell?_setCell_same _ _ _ hc,hu]
 ·rw[World.cell?_setCell_other W ⟨g,off+m,none⟩ ⟨g,off+i,none⟩ u (fun e=>he (by injection e with _ h2 _;omega))]
  exact h.cells i (by omega)
theorem Mk5.stepI (h:Mk5 g off k w m W) (hc:∀W,Tw (fun b=>b=g) w W->∃x,W.cell? ⟨g,a,none⟩=some (.int .i64 x)) (ha:a=off+m) (hr:¬(m % 5=1∨m % 5=4)) (hx:x=k+m):Mk5 g off k w (m+1) (W.setCell ⟨g,a,none⟩ (.int .i64 x)):=
 let ⟨_,hv⟩:=hc W h.tw;h.step ha (mcI hr hx) hv (.inr (.inl ⟨_,_,rfl,rfl⟩))
theorem Mk5.stepS (h:Mk5 g off k w m W) (hc:∀W,Tw (fun b=>b=g) w W->∃x,W.cell? ⟨g,a,none⟩=some (.string x)) (ha:a=off+m) (hr:m % 5=1∨m % 5=4) (hx:x=k+m):Mk5 g off k w (m+1) (W.setCell ⟨g,a,none⟩ (.string (zoL x))):=
 let ⟨_,hv⟩:=hc W h.tw;h.step ha (mcS hr hx) hv (.inr (.inr ⟨_,_,rfl,rfl⟩))
end
end Go.Proofs.YtmeaibjmnjcdfaaGreatDoor
