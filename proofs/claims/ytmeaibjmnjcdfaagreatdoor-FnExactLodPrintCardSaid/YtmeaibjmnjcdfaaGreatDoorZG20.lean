/- The classes' lines that the reference draws from, and what they are read as. No program is named here. -/
import Derived.Test.YtmeaibjmnjcdfaaGreatDoorZG19
namespace Go.Proofs.YtmeaibjmnjcdfaaGreatDoor
open Go.RowKit
def blk0:List Str:=[zbl [99,108,97,115,115,32,116,111,112,32,45],zbl [102,105,101,108,100,32,118,32,35],zbl [109,101,116,104,111,100,32,103,101,116,32,49,32,49,32,35],zbl [116,97,107,101,32,48],zbl [103,101,116,32,116,111,112,32,118],zbl [114,101,116],zbl [109,101,116,104,111,100,32,98,117,109,112,32,50,32,51,32,35,32,35],zbl [116,97,107,101,32,48],zbl [116,97,107,101,32,48],zbl [103,101,116,32,116,111,112,32,118],zbl [116,97,107,101,32,49],zbl [97,100,100],zbl [115,101,116,32,116,111,112,32,118],zbl [116,97,107,101,32,48],zbl [103,101,116,32,116,111,112,32,118],zbl [114,101,116]]
def blk1:List Str:=[zbl [99,108,97,115,115,32,99,101,108,108,32,116,111,112],zbl [102,105,101,108,100,32,110,101,120,116,32,116,111,112],zbl [109,101,116,104,111,100,32,103,101,116,32,49,32,50,32,35],zbl [102,114,97,109,101,32,55,32,99,101,108,108,32,47],zbl [116,97,107,101,32,48],zbl [103,101,116,32,99,101,108,108,32,110,101,120,116],zbl [110,105,108,32,55],zbl [116,97,107,101,32,48],zbl [103,101,116,32,99,101,108,108,32,110,101,120,116],zbl [99,97,108,108,32,116,111,112,32,103,101,116],zbl [114,101,116],zbl [110,117,109,32,45,49],zbl [114,101,116],zbl [109,101,116,104,111,100,32,108,105,110,107,32,50,32,50,32,35,32,116,111,112],zbl [116,97,107,101,32,48],zbl [116,97,107,101,32,49],zbl [115,101,116,32,99,101,108,108,32,110,101,120,116],zbl [110,117,109,32,49],zbl [114,101,116]]
def blk2:List Str:=[zbl [99,108,97,115,115,32,109,97,105,110,32,45],zbl [109,101,116,104,111,100,32,114,117,110,32,51,32,52,32,35,32,35],zbl [110,101,119,32,116,111,112],zbl [112,117,116,32,50],zbl [116,97,107,101,32,50],zbl [116,97,107,101,32,49],zbl [99,97,108,108,32,116,111,112,32,98,117,109,112],zbl [111,117,116],zbl [116,97,107,101,32,50],zbl [99,97,108,108,32,116,111,112,32,103,101,116],zbl [114,101,116],zbl [109,101,116,104,111,100,32,115,117,109,32,51,32,51,32,35,32,35],zbl [102,114,97,109,101,32,50,32,109,97,105,110,32,35,32,35,32,47],zbl [102,114,97,109,101,32,49,51,32,109,97,105,110,32,35,32,35,32,47],zbl [110,117,109,32,48],zbl [112,117,116,32,50],zbl [116,97,107,101,32,49],zbl [122,101,114,111,32,49,51],zbl [116,97,107,101,32,50],zbl [116,97,107,101,32,49],zbl [97,100,100],zbl [112,117,116,32,50],zbl [116,97,107,101,32,49],zbl [110,117,109,32,45,49],zbl [97,100,100],zbl [112,117,116,32,49],zbl [103,111,32,50],zbl [116,97,107,101,32,50],zbl [114,101,116]]
def blk3:List Str:=[zbl [99,108,97,115,115,32,109,97,105,110,32,45],zbl [109,101,116,104,111,100,32,114,117,110,32,52,32,51,32,35,32,35],zbl [110,101,119,32,99,101,108,108],zbl [112,117,116,32,50],zbl [110,101,119,32,116,111,112],zbl [112,117,116,32,51],zbl [116,97,107,101,32,51],zbl [116,97,107,101,32,49],zbl [99,97,108,108,32,116,111,112,32,98,117,109,112],zbl [111,117,116],zbl [116,97,107,101,32,50],zbl [116,97,107,101,32,51],zbl [99,97,108,108,32,99,101,108,108,32,108,105,110,107],zbl [111,117,116],zbl [116,97,107,101,32,50],zbl [99,97,108,108,32,116,111,112,32,103,101,116],zbl [114,101,116],zbl [109,101,116,104,111,100,32,99,97,115,116,32,50,32,50,32,35,32,35],zbl [110,101,119,32,116,111,112],zbl [99,97,115,116,32,99,101,108,108],zbl [99,97,108,108,32,99,101,108,108,32,103,101,116],zbl [114,101,116]]
def blk4:List Str:=[zbl [99,108,97,115,115,32,109,97,105,110,32,45],zbl [102,105,101,108,100,32,119,32,109,97,105,110],zbl [109,101,116,104,111,100,32,114,117,110,32,50,32,51,32,35,32,35],zbl [102,114,97,109,101,32,55,32,109,97,105,110,32,35,32,47],zbl [116,97,107,101,32,49],zbl [122,101,114,111,32,55],zbl [116,97,107,101,32,48],zbl [116,97,107,101,32,49],zbl [110,117,109,32,45,49],zbl [97,100,100],zbl [99,97,108,108,32,109,97,105,110,32,114,117,110],zbl [116,97,107,101,32,49],zbl [114,101,116]]
def blk5:List Str:=[zbl [99,108,97,115,115,32,109,97,105,110,32,116,111,112],zbl [109,101,116,104,111,100,32,114,117,110,32,51,32,51,32,35,32,35],zbl [110,117,108,108],zbl [112,117,116,32,50],zbl [116,97,107,101,32,50],zbl [99,97,108,108,32,99,101,108,108,32,103,101,116],zbl [114,101,116],zbl [109,101,116,104,111,100,32,103,101,116,32,49,32,50,32,35],zbl [110,117,109,32,53],zbl [114,101,116]]
def blk6:List Str:=[zbl [99,108,97,115,115,32,109,97,105,110,32,45],zbl [102,105,101,108,100,32,119,32,99,101,108,108],zbl [109,101,116,104,111,100,32,114,117,110,32,50,32,51,32,35,32,35],zbl [116,97,107,101,32,48],zbl [110,101,119,32,99,101,108,108],zbl [115,101,116,32,109,97,105,110,32,119],zbl [116,97,107,101,32,48],zbl [103,101,116,32,109,97,105,110,32,119],zbl [99,97,108,108,32,116,111,112,32,103,101,116],zbl [111,117,116],zbl [110,117,109,32,48],zbl [114,101,116]]
def blk7:List Str:=[zbl [99,108,97,115,115,32,116,111,112,32,45],zbl [102,105,101,108,100,32,118,32,116,111,112],zbl [109,101,116,104,111,100,32,103,101,116,32,49,32,49,32,35],zbl [110,117,109,32,56],zbl [114,101,116]]
def blk8:List Str:=[zbl [99,108,97,115,115,32,99,101,108,108,32,116,111,112],zbl [109,101,116,104,111,100,32,103,101,116,32,50,32,49,32,35,32,35],zbl [110,117,109,32,51],zbl [114,101,116]]
def blk9:List Str:=[zbl [99,108,97,115,115,32,109,97,105,110,32,45],zbl [109,101,116,104,111,100,32,114,117,110,32,50,32,50,32,35,32,35],zbl [116,97,107,101,32,49],zbl [99,97,108,108,32,109,97,105,110,32,114,117,110],zbl [114,101,116]]
def zss:List Str:=[zbl [99,108,97,115,115,32,109,97,105,110,32,45],zbl [109,101,116,104,111,100,32,114,117,110,32,50,32,50,32,35,32,35],zbl [116,97,107,101,32,48],zbl [111,117,116],zbl [110,117,109,32,49],zbl [114,101,116]]
def zst (k:Nat):List Str:=([blk0,blk1,blk2,blk3,blk4,blk5,blk6,blk7,blk8,blk9,zss]:List (List Str)).getD k []
def rowS (ls:List Str):Array Value:=(ls.map Value.string).toArray
theorem Sl.ofBx {X:Nat->Prop} {w:World} {b n:Nat} {E:TypeId} {ls:List Str} (h:Bx w b E (rowS ls)) (hX:¬X b) (hn:n=ls.length) (hm:ls.length≤1000) (hs:∀s∈ls,s.size≤1000):Sl X w 1 StrC (.slice (some ⟨b,0,none⟩) n n) ls:=by
 subst hn
 refine⟨_,_,rfl,Nat.le_refl _,by unfold maxLen;omega,fun h0=>⟨b,0,rfl,hX,fun k hk=>⟨[.string ls[k]],⟨rfl,?_⟩,rfl,fun j hj=>?_⟩⟩⟩
 ·have:=hs ls[k] (List.getElem_mem hk)
  unfold maxLen;omega
 ·obtain rfl:j=0:=by omega
  rw[h.cell]
  simp[rowS]
def ztc:List (List Str):=[blk0,blk1,blk2,blk3,blk4,blk5,blk6,blk7,blk8,blk9,zss]
theorem ztd:∀ls∈ztc,ls.length≤1000∧∀s∈ls,s.size≤1000:=by
 have h:(ztc.all fun ls=>decide (ls.length≤1000)&&ls.all fun s=>decide (s.size≤1000))=true:=by decide +kernel
 intro ls hl
 have:=List.all_eq_true.1 h ls hl
 rw[lz5,decide_eq_true_eq,List.all_eq_true] at this
 exact⟨this.1,fun s hs=>of_decide_eq_true (this.2 s hs)⟩
def outS (n:Nat):List Value:=[.slice (some ⟨n,0,none⟩) blk0.length blk0.length,.slice (some ⟨n+1,0,none⟩) blk1.length blk1.length,.slice (some ⟨n+2,0,none⟩) blk2.length blk2.length,.slice (some ⟨n+3,0,none⟩) blk3.length blk3.length,.slice (some ⟨n+4,0,none⟩) blk4.length blk4.length,.slice (some ⟨n+5,0,none⟩) blk5.length blk5.length,.slice (some ⟨n+6,0,none⟩) blk6.length blk6.length,.slice (some ⟨n+7,0,none⟩) blk7.length blk7.length,.slice (some ⟨n+8,0,none⟩) blk8.length blk8.length,.slice (some ⟨n+9,0,none⟩) blk9.length blk9.length,.slice (some ⟨n+10,0,none⟩) zss.length zss.length]
theorem ztf (n:Nat):∀k (hk:k<ztc.length),(outS n)[k]? =some (.slice (some ⟨n+k,0,none⟩) ztc[k].length ztc[k].length):=by
 intro k hk
 have hk:k<11:=hk
 have:k=0∨k=1∨k=2∨k=3∨k=4∨k=5∨k=6∨k=7∨k=8∨k=9∨k=10:=by omega
 rcases this with rfl|rfl|rfl|rfl|rfl|rfl|rfl|rfl|rfl|rfl|rfl<;>rfl
def ztg (n:Nat) (w:World):Prop:=Bx w (n+11) 26 (outS n).toArray∧∀k (hk:k<ztc.length),Bx w (n+k) 9 (rowS ztc[k])
theorem ztg.keep {X:Nat->Prop} {n:Nat} {w w':World} (h:ztg n w) (hf:Fr X w w') (hX:∀b,n≤b->b≤n+11->¬X b):ztg n w':=
 ⟨h.1.keepX hf (hX _ (by omega) (by omega)),fun k hk=>(h.2 k hk).keepX hf (hX _ (by omega) (by have:k<11:=hk;omega))⟩
theorem ztg.cell {n:Nat} {w:World} (h:ztg n w) (k:Nat) (hk:k<11):w.cell? ⟨n+11,k,none⟩=some (.slice (some ⟨n+k,0,none⟩) (zst k).length (zst k).length):=by
 rw[h.1.cell,List.getElem?_toArray,ztf n k hk]
 have e:ztc[k]'hk=zst k:=by
  unfold zst
  rw[List.getD_eq_getElem?_getD]
  show _=((ztc)[k]?).getD []
  rw[lz8 hk]
  rfl
 rw[e]
theorem ztg.sl {X:Nat->Prop} {n:Nat} {w:World} (h:ztg n w) (k:Nat) (hk:k<11) (hX:¬X (n+k)):Sl X w 1 StrC (.slice (some ⟨n+k,0,none⟩) (zst k).length (zst k).length) (zst k):=by
 have e:ztc[k]'hk=zst k:=by
  unfold zst
  rw[List.getD_eq_getElem?_getD]
  show _=((ztc)[k]?).getD []
  rw[lz8 hk]
  rfl
 have hB:=h.2 k hk
 rw[e] at hB
 obtain⟨q1,q2⟩:=ztd (zst k) (by rw[<-e];exact List.getElem_mem hk)
 exact Sl.ofBx hB hX rfl q1 q2
theorem Sl.strRaws {X:Nat->Prop} {w:World} {v:Value} {xs:List Str} (h:Sl X w 1 StrC v xs):Sl X w 1 RawC v (xs.map zqT):=by
 obtain⟨A,cap,rfl,h1,h2,h3⟩:=h
 refine⟨A,cap,by rw[List.length_map],by rw[List.length_map];exact h1,by rw[List.length_map];exact h2,fun h0=>?_⟩
 rw[List.length_map] at h0
 obtain⟨b,off,rfl,hX,hc⟩:=h3 h0
 refine⟨b,off,rfl,hX,fun k hk=>?_⟩
 rw[List.length_map] at hk
 obtain⟨cs,⟨rfl,_⟩,hl,hcs⟩:=hc k hk
 exact⟨_,by rw[List.getElem_map];rfl,hl,hcs⟩
theorem zqY.keepX {X:Nat->Prop} {w w':World} {n:Nat} {v:Value} {xs:List Str} (h:zqY w n v xs) (hf:Fr X w w') (hX:∀q,n≤q->¬X q):zqY w' n v xs:=
 ⟨h.1.keep hf (fun q hq=>hX q (h.2 q hq)),h.2⟩
theorem zqY.keep {w w':World} {n:Nat} {v:Value} {xs:List Str} (h:zqY w n v xs) (hf:Fr No w w'):zqY w' n v xs:=h.keepX hf (fun _ _ h=>h)
theorem ztk:∀xs:List Str,rawL (xs.map zqT)=xs.map Value.string
 | []=>rfl
 | x :: xs=>by
  have:=ztk xs
  unfold rawL at this ⊢
  rw[List.map_cons,List.flatMap_cons,this]
  rfl
theorem zqY.lit (w:World) (xs:List Str) (hm:xs.length≤1000):zqY (w.alloc (.cells (rowS xs) 9)) w.heap.size (.slice (some ⟨w.heap.size,0,none⟩) xs.length xs.length) xs:=by
 refine⟨.inl ⟨by rw[ztk];simp,.inr ⟨w.heap.size,xs.length,rowS xs,rfl,Nat.zero_le _,Bx.new w _ _,Nat.le_refl _,by unfold maxLen;omega,by simp[rowS],by rw[ztk];simp only[rowS,Nat.mul_one];exact List.take_of_length_le (by simp)⟩⟩,fun q hq=>?_⟩
 rw[zcQ] at hq
 split at hq
 ·cases hq
 ·cases hq;exact Nat.le_refl _
section
variable {w:World} {a:Act} {o:Oper} {ops:Array Oper} {Q:Exit->Act->World->Prop} {rest:List Oper}
end
end Go.Proofs.YtmeaibjmnjcdfaaGreatDoor
