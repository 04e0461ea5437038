/- Where a field, a method stands (the reference's search), and whether a class is nothing. -/
import Derived.Test.YtmeaibjmnjcdfaaGreatDoorZG2
set_option maxHeartbeats 400000
namespace Go.Proofs.YtmeaibjmnjcdfaaGreatDoor
open Go.RowKit
def ixOf {α:Type} (p:α->Bool) (xs:List α):Int:=if xs.all (fun x=>!p x) then -1 else (xs.findIdx p:Nat)
theorem zeP {α:Type} {p:α->Bool} {xs:List α} (h:xs.all (fun x=>!p x)=true):ixOf p xs=-1:=by unfold ixOf;rw[h];rfl
theorem zeQ {α:Type} {p:α->Bool} {xs:List α} {k:Nat} (hk:k<xs.length) (ha:(xs.take k).all (fun x=>!p x)=true) (hp:p xs[k]=true):ixOf p xs=(k:Nat):=by
 have h1:xs.all (fun x=>!p x)=false:=zfq _ xs k hk (by rw[hp];rfl)
 have h2:xs.findIdx p=k:=(List.findIdx_eq hk).2 ⟨hp,fun j hj=>by
  rw[List.all_eq_true] at ha
  have:=ha xs[j] (List.mem_take_iff_getElem.2 ⟨j,by omega,rfl⟩)
  simpa using this⟩
 unfold ixOf
 rw[h1,h2];rfl
theorem zeR {α:Type} (p:α->Bool) (xs:List α):decide (0≤ixOf p xs)=!xs.all (fun x=>!p x):=by
 unfold ixOf
 cases xs.all (fun x=>!p x)<;>simp
theorem zeS {α:Type} (p:α->Bool) (xs:List α):ixOf p xs=-1∨(0≤ixOf p xs∧ixOf p xs<xs.length):=by
 unfold ixOf
 by_cases h:xs.all (fun x=>!p x)=true
 ·rw[if_pos h];exact .inl rfl
 ·rw[if_neg h]
  refine .inr ⟨by omega,?_⟩
  rw[List.all_eq_true] at h
  have:∃x∈xs,p x:=by
   apply Classical.byContradiction
   intro hn
   exact h fun x hx=>by
    cases hp:p x
    ·rfl
    ·exact absurd ⟨x,hx,hp⟩ hn
  have:=List.findIdx_lt_length.2 this
  omega
def zeT (s:Str) (g:Fld):Bool:=g.name.toList == s.toList
def zeU (s:Str) (g:Mth):Bool:=g.name.toList == s.toList
def zeV (n:Int) (w:World) (e:Ending) (w':World):Prop:=e=.returned (.int .i64 n)∧Fr No w w'
theorem zeV.mk {n m:Int} {w w':World} (h:n=m) (hf:Fr No w w'):zeV m w (.returned (.int .i64 n)) w':=⟨by rw[h],hf⟩
theorem zeW (X:Nat->Prop) (v:Value) (xs:List Fld) (s:Str) (w:World) (h:Sl X w 3 FldC v xs) (_hs:s.size≤maxLen):
  Calls Tryz.prog 124 #[v,.string s] w (zeV (ixOf (zeT s) xs) w):=by
 obtain⟨A,cap,rfl,hcap,hlen⟩:=h.form
 unfold maxLen at hlen
 go_enter Tryz.func124,Tryz.ntmps124
 go_wp2
 go_loopw [5,4] (fun i r wr=>∃k:Nat,k≤xs.length∧i=.int .i64 k∧r=.int .i64 0∧Hid ((xs.take k).all (fun x=>!zeT s x)=true)∧Fr No w wr) (fun i _ _=>xs.length-(intOf i).toNat)
 case atStart=>exact⟨0,Nat.zero_le _,rfl,rfl,by simp[Hid],Fr.refl _ _⟩
 case round=>
  obtain⟨k,hk,rfl,rfl,ha,hf⟩:=hrel
  by_cases hlt:k<xs.length
  ·obtain⟨b,off,rfl,hX,c0,c1,c2,_,_⟩:=(h.k0 hf).fld hlt
   clear h
   have HS:zeT s xs[k]=false->Hid ((xs.take (k+1)).all (fun x=>!zeT s x)=true):=fun h=>by
    have:=zfp (fun x=>!zeT s x) xs k hlt
    rw[ha.out,h] at this;exact this
   have HN:zeT s xs[k]=true->Hid (ixOf (zeT s) xs=(k:Nat)):=fun h=>zeQ hlt ha.out h
   have HS:=Lib.hid HS
   have HN:=Lib.hid HN
   unfold zeT at HS HN
   clear ha
   generalize xs[k]=f at *
   cases hq:(f.name.toList == s.toList)
   ·have HS:=HS.out hq
    clear HN
    go_wp2
    go_roundw
    case rel=>exact⟨k+1,by omega,by go_num,rfl,HS,by exact frc⟩
    case measure=>simp[intOf];omega
   ·have HN:=HN.out hq
    clear HS
    go_wp2
    go_ret
    exact .mk HN.out.symm (by exact frc)
  ·have HS:=Lib.hid (zeP (zfr _ xs k (by omega) ha.out))
   clear h ha
   go_wp2
   go_ret
   exact .mk HS.out.symm (by exact frc)
theorem zeX (X:Nat->Prop) (v:Value) (xs:List Mth) (s:Str) (w:World) (h:Sl X w 8 (MthC X w) v xs) (_hs:s.size≤maxLen):
  Calls Tryz.prog 126 #[v,.string s] w (zeV (ixOf (zeU s) xs) w):=by
 obtain⟨A,cap,rfl,hcap,hlen⟩:=h.form
 unfold maxLen at hlen
 go_enter Tryz.func126,Tryz.ntmps126
 go_wp2
 go_loopw [5,4] (fun i r wr=>∃k:Nat,k≤xs.length∧i=.int .i64 k∧r=.int .i64 0∧Hid ((xs.take k).all (fun x=>!zeU s x)=true)∧Fr No w wr) (fun i _ _=>xs.length-(intOf i).toNat)
 case atStart=>exact⟨0,Nat.zero_le _,rfl,rfl,by simp[Hid],Fr.refl _ _⟩
 case round=>
  obtain⟨k,hk,rfl,rfl,ha,hf⟩:=hrel
  by_cases hlt:k<xs.length
  ·obtain⟨b,off,Aa,ca,Ac,cc,Ax,cx,rfl,hX,c0,c1,c2,c3,c4,c5,c6,c7,_,_,_,_,_,_,_,_,_,_,_⟩:=(h.keep hf zN (fun _ _ _ h=>h.keep hf zN)).mth hlt
   clear h
   have HS:zeU s xs[k]=false->Hid ((xs.take (k+1)).all (fun x=>!zeU s x)=true):=fun h=>by
    have:=zfp (fun x=>!zeU s x) xs k hlt
    rw[ha.out,h] at this;exact this
   have HN:zeU s xs[k]=true->Hid (ixOf (zeU s) xs=(k:Nat)):=fun h=>zeQ hlt ha.out h
   have HS:=Lib.hid HS
   have HN:=Lib.hid HN
   unfold zeU at HS HN
   clear ha
   generalize xs[k]=f at *
   cases hq:(f.name.toList == s.toList)
   ·have HS:=HS.out hq
    clear HN
    go_wp2
    go_roundw
    case rel=>exact⟨k+1,by omega,by go_num,rfl,HS,by exact frc⟩
    case measure=>simp[intOf];omega
   ·have HN:=HN.out hq
    clear HS
    go_wp2
    go_ret
    exact .mk HN.out.symm (by exact frc)
  ·have HS:=Lib.hid (zeP (zfr _ xs k (by omega) ha.out))
   clear h ha
   go_wp2
   go_ret
   exact .mk HS.out.symm (by exact frc)
end Go.Proofs.YtmeaibjmnjcdfaaGreatDoor
