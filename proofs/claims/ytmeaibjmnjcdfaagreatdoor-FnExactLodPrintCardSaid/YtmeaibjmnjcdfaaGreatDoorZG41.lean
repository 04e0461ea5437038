/- The program's own climb from a class to those above it. -/
import Derived.Test.YtmeaibjmnjcdfaaGreatDoorZG31
import Derived.Test.YtmeaibjmnjcdfaaGreatDoorZG14
import Derived.Shelf.RegionOpen
import Derived.Deep.RegionHeld3
import Derived.OwnWalk
namespace Go.Proofs.YtmeaibjmnjcdfaaGreatDoor
open Go.RowKit Go.Shelf
attribute [local go_sem] Oper.semAt_some
def zmo (r:Ref):List Value:=[.int .i64 r.keeper,.string r.name]
def zmp (cc:Nat) (w:World):Nat:=sliceLen ((w.cell? ⟨cc,0,none⟩).getD undef)
theorem zmq {w:World} {base sz n:Nat} {e:TypeId} {v:Value} {xs:List Value} (h:w.ownsRow base e sz v n xs):sliceLen v=n:=by
 obtain⟨_,⟨rfl,rfl⟩ | ⟨g,cap,cur,rfl,_⟩⟩:=h<;>rfl
theorem zms {w w':World} {X:Nat->Prop} {base sz n:Nat} {e:TypeId} {v:Value} {xs:List Value} (h:w.ownsRow base e sz v n xs) (hf:Fr X w w') (hX:∀b,X b->b<base):w'.ownsRow base e sz v n xs:=by
 obtain⟨hl,h | ⟨g,cap,cur,rfl,hg,hb,h1,h2,h3,h4⟩⟩:=h
 ·exact⟨hl,.inl h⟩
 ·have hb':Bx w g e cur:=hb
  exact⟨hl,.inr ⟨g,cap,cur,rfl,hg,hb'.keepX hf (fun hx=>by have:=hX g hx;omega),h1,h2,h3,h4⟩⟩
attribute [local go_sem] Oper.semAt_some
def zmD (p:Plan) (k:Int) (s:Str):Ref×Int:=
 if (zbf p k s).2=1 then (if (chainOf p (zbf p k s).1).isSome then ((zbf p k s).1,1) else (zbH,4)) else (zbH,(zbf p k s).2)
def zmF (p:Plan) (r:Ref):List Ref:=if (zmD p r.keeper r.name).2=1∧(zmD p r.keeper r.name).1.keeper=r.keeper then (chainOf p r).getD [] else []
def zmG (xs:List Ref) (w:World) (e:Ending) (w':World):Prop:=∃v,e=.returned v∧Sl No w' 2 RefC v xs∧Fr No w w'
theorem zmG.nil {w w':World} {xs:List Ref} (h:xs=[]) (hf:Fr No w w'):zmG xs w (.returned (.slice none 0 0)) w':=by subst h;exact⟨_,rfl,Sl.nil _ _ _ _,hf⟩
def zmJ (p:Plan) (a b:Int) (k:Knd):Bool:=
 if k.kind=1 then true else
 if (zmD p a k.name).2=1 then (if (zmD p b k.name).2=1 then decide ((zmD p a k.name).1.keeper=(zmD p b k.name).1.keeper) else false)
 else decide ((zmD p b k.name).2≠1)
def zgM (p:Plan) (a b:Int) (m:Mth):Bool:=m.args.all (zmJ p a b)&&zmJ p a b m.ret
def kEq (a b:Knd):Bool:=(a.kind == b.kind)&&(a.name.toList == b.name.toList)
def ksEq:List Knd->List Knd->Bool
 | [],[]=>true
 | a :: as',b :: bs=>kEq a b&&ksEq as' bs
 | _,_=>false
theorem zgW:∀(seen fs:List Cls),zbt seen fs=true->∀c∈fs,clsB c=true
 | _,[],_,_,h=>by cases h
 | seen,f :: fs,h,c,hc=>by
  rw[zbt] at h
  simp only[lz5] at h
  rcases List.mem_cons.1 hc with rfl|hc
  ·exact h.1.1
  ·exact zgW _ fs h.2 c hc
theorem zg3 {p:Plan} (hp:lodB p=true) {k:Nat} (hk:k<p.keepers.length):∀c∈(zbC p (k:Int)).owns,clsB c=true:=by
 have h:=zbL hp hk
 rw[zbN hk]
 unfold kprB at h
 simp only[lz5] at h
 exact zgW _ _ h.1.2
theorem Here.clsB {p:Plan} (hp:lodB p=true) {r:Ref} {k i:Nat} (h:Here p r k i):Go.Proofs.YtmeaibjmnjcdfaaGreatDoor.clsB (zbG p r)=true:=by
 rw[h.cls]
 exact zg3 hp h.2.1 _ (List.getElem_mem _)
def zhb (p:Plan) (rs:List Ref):Prop:=∀r∈rs,r.name.size≤maxLen∧∃k i:Nat,Here p r k i
def zhl (p:Plan) (a b:Int) (up:Cls) (m:Mth):Bool:=
 if ixOf (zeU m.name) up.methods<0 then true else
  kEq m.ret (up.methods.getD (ixOf (zeU m.name) up.methods).toNat ⟨⟨#[]⟩,[],⟨0,⟨#[]⟩⟩,0,0,[],[]⟩).ret&&ksEq m.args (up.methods.getD (ixOf (zeU m.name) up.methods).toNat ⟨⟨#[]⟩,[],⟨0,⟨#[]⟩⟩,0,0,[],[]⟩).args&&zgM p a b m
def zhm (p:Plan) (low high:Ref):Bool:=
 (zbG p low).fields.all (fun f=>decide (ixOf (zeT f.name) (zbG p high).fields<0))&&(zbG p low).methods.all (zhl p low.keeper high.keeper (zbG p high))
def zhn (p:Plan):List Ref->Bool
 | []=>true
 | r :: rs=>rs.all (zhm p r)&&zhn p rs
def canB (p:Plan) (r:Ref):Bool:=!(zmF p r).isEmpty&&zhn p (zmF p r)
def zaV (o:Option (List Ref)) (w:World) (e:Ending) (w':World):Prop:=
 ∃v,e=.returned (.tuple #[v,.bool o.isSome])∧Sl No w' 2 RefC v (o.getD [])∧Fr No w w'
theorem Sl.none_ {α:Type} {X:Nat->Prop} {w:World} {sz:Nat} {R:List Value->α->Prop} (A:Option Addr) (c:Nat):Sl X w sz R (.slice A 0 c) []:=
 ⟨A,c,rfl,Nat.zero_le _,Nat.zero_le _,fun h=>absurd h (by simp)⟩
theorem zaV.no {o:Option (List Ref)} {w w':World} {A:Option Addr} {c:Nat} (h:o=none) (hf:Fr No w w'):zaV o w (.returned (.tuple #[.slice A 0 c,.bool false])) w':=by
 subst h;exact⟨_,rfl,Sl.none_ A c,hf⟩
theorem zaV.yes {o:Option (List Ref)} {w w':World} {v:Value} {xs:List Ref} (h:o=some xs) (hs:Sl No w' 2 RefC v xs) (hf:Fr No w w'):zaV o w (.returned (.tuple #[v,.bool true])) w':=by
 subst h;exact⟨_,rfl,hs,hf⟩
theorem zmG.none_ {w w':World} {xs:List Ref} {A:Option Addr} {c:Nat} (h:xs=[]) (hf:Fr No w w'):zmG xs w (.returned (.slice A 0 c)) w':=by subst h;exact⟨_,rfl,Sl.none_ A c,hf⟩
theorem Sl.drop {α:Type} {X:Nat->Prop} {w:World} {sz:Nat} {R:List Value->α->Prop} {b off n cap k:Nat} {xs:List α} (h:Sl X w sz R (.slice (some ⟨b,off,none⟩) n cap) xs) (hk:k<xs.length):
  Sl X w sz R (.slice (some ⟨b,off+k * sz,none⟩) (n-k) (cap-k)) (xs.drop k):=by
 obtain⟨A',cap',he,h1,h2,h3⟩:=h
 simp only[Value.slice.injEq] at he
 obtain⟨rfl,rfl,rfl⟩:=he
 refine⟨_,_,by rw[List.length_drop],by rw[List.length_drop];omega,by rw[List.length_drop];omega,fun _=>?_⟩
 obtain⟨b',off',he,hX,hc⟩:=h3 (by omega)
 simp only[Option.some.injEq,Addr.mk.injEq,and_true] at he
 obtain⟨rfl,rfl⟩:=he
 refine⟨b,off+k * sz,rfl,hX,fun j hj=>?_⟩
 rw[List.length_drop] at hj
 obtain⟨cs,hR,hl,hcs⟩:=hc (k+j) (by omega)
 refine⟨cs,by rw[List.getElem_drop];exact hR,hl,fun i hi=>?_⟩
 rw[<-hcs i hi,Nat.add_mul,Nat.add_assoc off]
theorem zhb.drop {p:Plan} {rs:List Ref} (h:zhb p rs) (k:Nat):zhb p (rs.drop k):=fun r hr=>h r (List.mem_of_mem_drop hr)
def zku:Option (Ref×Int)->Value
 | none=>.tuple #[.agg #[.int .i64 0,.string ⟨#[]⟩,.int .i64 0],.bool false]
 | some (r,i)=>.tuple #[.agg #[.int .i64 r.keeper,.string r.name,.int .i64 i],.bool true]
theorem Gives.toFr {X:Nat->Prop} {v:Value} {a W w':World} {e:Ending} (h:Gives v W e w') (hW:Fr X a W):e=.returned v∧Fr X a w':=⟨h.1,hW.trans0 h.2⟩
end Go.Proofs.YtmeaibjmnjcdfaaGreatDoor
