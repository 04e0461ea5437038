/- Where a field, a method stands (the reference's search), and whether a class is nothing. -/
import Derived.Test.YtpghfhjhjlmljaaGreatPG7
import Derived.Test.YtpghfhjhjlmljaaGreatPG4
import Derived.Laws.IdiomStrings
set_option maxHeartbeats 400000
namespace Go.Proofs.YtpghfhjhjlmljaaGreat
open Go.RowKit
def ixOf {α:Type} (p:α->Bool) (xs:List α):Int:=if xs.all (fun x=>!p x) then -1 else (xs.findIdx p:Nat)
theorem zeP {α:Type} {p:α->Bool} {xs:List α} (h:xs.all (fun x=>!p x)=true):ixOf p xs=-1:=by unfold ixOf;rw[h];rfl
theorem zeQ {α:Type} {p:α->Bool} {xs:List α} {k:Nat} (hk:k<xs.length) (ha:(xs.take k).all (fun x=>!p x)=true) (hp:p xs[k]=true):ixOf p xs=(k:Nat):=by
 have h1:xs.all (fun x=>!p x)=false:=zfq _ xs k hk (by rw[hp];rfl)
 have h2:xs.findIdx p=k:=(List.findIdx_eq hk).2 ⟨hp,fun j hj=>by
  rw[List.all_eq_true] at ha
  have:=ha xs[j] (List.mem_take_iff_getElem.2 ⟨j,by omega,rfl⟩)
  simpa using this⟩
 unfold ixOf
 rw[h1,h2];rfl
theorem zeR {α:Type} (p:α->Bool) (xs:List α):decide (0≤ixOf p xs)=!xs.all (fun x=>!p x):=by
 unfold ixOf
 cases xs.all (fun x=>!p x)<;>simp
theorem zeS {α:Type} (p:α->Bool) (xs:List α):ixOf p xs=-1∨(0≤ixOf p xs∧ixOf p xs<xs.length):=by
 unfold ixOf
 by_cases h:xs.all (fun x=>!p x)=true
 ·rw[if_pos h];exact .inl rfl
 ·rw[if_neg h]
  refine .inr ⟨by omega,?_⟩
  rw[List.all_eq_true] at h
  have:∃x∈xs,p x:=by
   apply Classical.byContradiction
   intro hn
   exact h fun x hx=>by
    cases hp:p x
    ·rfl
    ·exact absurd ⟨x,hx,hp⟩ hn
  have:=List.findIdx_lt_length.2 this
  omega
def zeT (s:Str) (g:Fld):Bool:=g.name.toList == s.toList
def zeU (s:Str) (g:Mth):Bool:=g.name.toList == s.toList
def zeV (n:Int) (w:World) (e:Ending) (w':World):Prop:=e=.returned (.int .i64 n)∧Fr No w w'
theorem zeV.mk {n m:Int} {w w':World} (h:n=m) (hf:Fr No w w'):zeV m w (.returned (.int .i64 n)) w':=⟨by rw[h],hf⟩
theorem zeW (X:Nat->Prop) (v:Value) (xs:List Fld) (s:Str) (w:World) (h:Sl X w 3 FldC v xs) (_hs:s.size≤maxLen):
  Calls Tryz.prog 68 #[v,.string s] w (zeV (ixOf (zeT s) xs) w):=by
 obtain⟨A,cap,rfl,hcap,hlen⟩:=h.form
 unfold maxLen at hlen
 go_enter Tryz.func68,Tryz.ntmps68
 go_wp2
 go_loopw [5,4] (fun i r wr=>∃k:Nat,k≤xs.length∧i=.int .i64 k∧r=.int .i64 0∧Hid ((xs.take k).all (fun x=>!zeT s x)=true)∧Fr No w wr) (fun i _ _=>xs.length-(intOf i).toNat)
 case atStart=>exact⟨0,Nat.zero_le _,rfl,rfl,by simp[Hid],Fr.refl _ _⟩
 case round=>
  obtain⟨k,hk,rfl,rfl,ha,hf⟩:=hrel
  by_cases hlt:k<xs.length
  ·obtain⟨b,off,rfl,hX,c0,c1,c2,_,_⟩:=(h.k0 hf).fld hlt
   clear h
   have HS:zeT s xs[k]=false->Hid ((xs.take (k+1)).all (fun x=>!zeT s x)=true):=fun h=>by
    have:=zfp (fun x=>!zeT s x) xs k hlt
    rw[ha.out,h] at this;exact this
   have HN:zeT s xs[k]=true->Hid (ixOf (zeT s) xs=(k:Nat)):=fun h=>zeQ hlt ha.out h
   have HS:=Lib.hid HS
   have HN:=Lib.hid HN
   unfold zeT at HS HN
   clear ha
   generalize xs[k]=f at *
   cases hq:(f.name.toList == s.toList)
   ·have HS:=HS.out hq
    clear HN
    go_wp2
    go_roundw
    case rel=>exact⟨k+1,by omega,by go_num,rfl,HS,by exact frc⟩
    case measure=>simp[intOf];omega
   ·have HN:=HN.out hq
    clear HS
    go_wp2
    go_ret
    exact .mk HN.out.symm (by exact frc)
  ·have HS:=Lib.hid (zeP (zfr _ xs k (by omega) ha.out))
   clear h ha
   go_wp2
   go_ret
   exact .mk HS.out.symm (by exact frc)
theorem zeX (X:Nat->Prop) (v:Value) (xs:List Mth) (s:Str) (w:World) (h:Sl X w 8 (MthC X w) v xs) (_hs:s.size≤maxLen):
  Calls Tryz.prog 70 #[v,.string s] w (zeV (ixOf (zeU s) xs) w):=by
 obtain⟨A,cap,rfl,hcap,hlen⟩:=h.form
 unfold maxLen at hlen
 go_enter Tryz.func70,Tryz.ntmps70
 go_wp2
 go_loopw [5,4] (fun i r wr=>∃k:Nat,k≤xs.length∧i=.int .i64 k∧r=.int .i64 0∧Hid ((xs.take k).all (fun x=>!zeU s x)=true)∧Fr No w wr) (fun i _ _=>xs.length-(intOf i).toNat)
 case atStart=>exact⟨0,Nat.zero_le _,rfl,rfl,by simp[Hid],Fr.refl _ _⟩
 case round=>
  obtain⟨k,hk,rfl,rfl,ha,hf⟩:=hrel
  by_cases hlt:k<xs.length
  ·obtain⟨b,off,Aa,ca,Ac,cc,Ax,cx,rfl,hX,c0,c1,c2,c3,c4,c5,c6,c7,_,_,_,_,_,_,_,_,_,_,_⟩:=(h.keep hf zN (fun _ _ _ h=>h.keep hf zN)).mth hlt
   clear h
   have HS:zeU s xs[k]=false->Hid ((xs.take (k+1)).all (fun x=>!zeU s x)=true):=fun h=>by
    have:=zfp (fun x=>!zeU s x) xs k hlt
    rw[ha.out,h] at this;exact this
   have HN:zeU s xs[k]=true->Hid (ixOf (zeU s) xs=(k:Nat)):=fun h=>zeQ hlt ha.out h
   have HS:=Lib.hid HS
   have HN:=Lib.hid HN
   unfold zeU at HS HN
   clear ha
   generalize xs[k]=f at *
   cases hq:(f.name.toList == s.toList)
   ·have HS:=HS.out hq
    clear HN
    go_wp2
    go_roundw
    case rel=>exact⟨k+1,by omega,by go_num,rfl,HS,by exact frc⟩
    case measure=>simp[intOf];omega
   ·have HN:=HN.out hq
    clear HS
    go_wp2
    go_ret
    exact .mk HN.out.symm (by exact frc)
  ·have HS:=Lib.hid (zeP (zfr _ xs k (by omega) ha.out))
   clear h ha
   go_wp2
   go_ret
   exact .mk HS.out.symm (by exact frc)
theorem zbo (bs:Str) (i:Nat) (r:List UInt8):ByteArray.toList.loop bs i r=r.reverse ++ bs.data.toList.drop i:=by
 fun_induction ByteArray.toList.loop bs i r with
 | case1 i r h ih=>
  rw[ih]
  have hl:i<bs.data.toList.length:=by simpa using h
  rw[List.drop_eq_getElem_cons hl]
  have e:bs.get! i=bs.data.toList[i]:=by
   have:bs.get! i=bs.data[i]!:=rfl
   rw[this,getElem!_pos bs.data i (by simpa using h)]
   simp
  simp[e]
 | case2 i r h=>
  rw[List.drop_of_length_le (by simpa using h)]
  simp
theorem toList_data (s:Str):s.toList=s.data.toList:=by
 show ByteArray.toList.loop s 0 []=_
 rw[zbo];simp
theorem str_eq {s t:Str} (h:s.toList=t.toList):s=t:=by
 rw[toList_data,toList_data] at h
 exact ByteArray.ext (Array.toList_inj.1 h)
def zbp (s:Str) (c:Cls):Bool:=c.name.toList == s.toList
def zbq (s:Str) (a:Ask):Bool:=a.name.toList == s.toList
theorem zbr {s:Str} {c:Cls}:zbp s c=true↔c.name=s:=by
 unfold zbp;rw[beq_iff_eq];exact⟨str_eq,fun h=>by rw[h]⟩
theorem zbs {s:Str} {a:Ask}:zbq s a=true↔a.name=s:=by
 unfold zbq;rw[beq_iff_eq];exact⟨str_eq,fun h=>by rw[h]⟩
def zbt:List Cls->List Cls->Bool
 | _,[]=>true
 | seen,c :: cs=>clsB c&&seen.all (fun g=>!zbp c.name g)&&zbt (seen ++ [c]) cs
def zbu (many:Int):List Ask->List Ask->Bool
 | _,[]=>true
 | seen,a :: rest=>namB a.name&&(decide (0≤a.keeper)&&decide (a.keeper<many))&&seen.all (fun g=>!zbq a.name g)&&zbu many (seen ++ [a]) rest
def kprB (many:Int) (k:Kpr):Bool:=decide (k.owns.length≤5)&&decide (k.asks.length≤4)&&zbt [] k.owns&&zbu many [] k.asks
def lodB (p:Plan):Bool:=decide (1≤p.keepers.length)&&decide (p.keepers.length≤3)&&p.keepers.all (kprB p.keepers.length)
theorem zbv {fs:List Cls} {k:Nat} (hk:k<fs.length) (h:zbt [] fs=zbt (fs.take k) (fs.drop k)):
  zbt [] fs=(clsB fs[k]&&(fs.take k).all (fun g=>!zbp fs[k].name g)&&zbt (fs.take (k+1)) (fs.drop (k+1))):=by
 rw[h,List.drop_eq_getElem_cons hk,zbt,List.take_succ_eq_append_getElem hk]
theorem zbw {many:Int} {fs:List Ask} {k:Nat} (hk:k<fs.length) (h:zbu many [] fs=zbu many (fs.take k) (fs.drop k)):
  zbu many [] fs=(namB fs[k].name&&(decide (0≤fs[k].keeper)&&decide (fs[k].keeper<many))&&(fs.take k).all (fun g=>!zbq fs[k].name g)&&zbu many (fs.take (k+1)) (fs.drop (k+1))):=by
 rw[h,List.drop_eq_getElem_cons hk,zbu,List.take_succ_eq_append_getElem hk]
def zbx {α:Type} (p:α->Bool) (xs:List α):Option Int:=if ixOf p xs<0 then none else some (ixOf p xs)
theorem zby {α:Type} (p:α->Bool) (xs:List α) (c:α):ixOf p (xs ++ [c])=if 0≤ixOf p xs then ixOf p xs else if p c then (xs.length:Nat) else -1:=by
 have hn:=zeR p xs
 by_cases ha:xs.all (fun x=>!p x)=true
 ·have h0:=zeP ha
  rw[h0,if_neg (by omega)]
  by_cases hc:p c=true
  ·rw[if_pos hc]
   exact zeQ (k:=xs.length) (by simp) (by simpa using ha) (by simpa using hc)
  ·rw[if_neg hc]
   exact zeP (by rw[List.all_append,ha];simpa using hc)
 ·rw[Bool.not_eq_true] at ha
  rw[ha] at hn
  simp at hn
  rw[if_pos hn]
  unfold ixOf
  rw[List.all_append,ha]
  simp only[Bool.false_and,Bool.false_eq_true,if_false]
  rw[List.findIdx_append,if_pos]
  rw[<-Bool.not_eq_true,List.all_eq_true] at ha
  apply List.findIdx_lt_length.2
  apply Classical.byContradiction
  intro hx
  exact ha fun x hm=>by
   cases hp:p x
   ·rfl
   ·exact absurd ⟨x,hm,hp⟩ hx
theorem zbz {α:Type} (p:α->Bool) (xs:List α) (c:α):zbx p (xs ++ [c])=if (zbx p xs).isSome then zbx p xs else if p c then some (xs.length:Nat) else none:=by
 unfold zbx
 rw[zby]
 by_cases h:0≤ixOf p xs
 ·rw[if_pos h,if_neg (show ¬ixOf p xs<0 by omega)];rfl
 ·rw[if_neg h,if_pos (show ixOf p xs<0 by omega)]
  by_cases hc:p c=true
  ·rw[if_pos hc,if_pos hc,if_neg (by omega)];rfl
  ·rw[if_neg hc,if_neg hc,if_pos (by omega)];rfl
theorem zbA {α:Type} {p:α->Bool} {xs:List α}:zbx p xs=none↔xs.all (fun x=>!p x)=true:=by
 have hn:=zeR p xs
 unfold zbx
 cases h:xs.all (fun x=>!p x)
 ·rw[h] at hn;simp at hn;simp;omega
 ·rw[zeP h];simp
def zbB:Cls:=⟨⟨#[]⟩,⟨#[]⟩,[],[]⟩
def zbC (p:Plan) (k:Int):Kpr:=p.keepers.getD k.toNat ⟨[],[]⟩
def hasK (p:Plan) (k:Int):Bool:=decide (0≤k)&&decide (k<p.keepers.length)
def zbD (p:Plan) (k:Int) (s:Str):Int:=ixOf (zbp s) (zbC p k).owns
def zbE (xs:List Ask) (s:Str):Option Int:=(xs.find? (zbq s)).map (·.keeper)
def zbF (p:Plan) (k:Int) (s:Str):Int:=(zbE (zbC p k).asks s).getD (-1)
def zbG (p:Plan) (r:Ref):Cls:=(zbC p r.keeper).owns.getD (zbD p r.keeper r.name).toNat zbB
def zbH:Ref:=⟨0,⟨#[]⟩⟩
def zbI (p:Plan) (s:Str):Nat->Int->Ref×Int
 | 0,_=>(zbH,3)
 | n+1,k=>if zbF p k s<0 then (if zbD p k s<0 then (zbH,2) else (⟨k,s⟩,1)) else zbI p s n (zbF p k s)
def whose (p:Plan) (k:Int) (s:Str):Ref×Int:=zbI p s 4 k
def upGo (p:Plan):Nat->Ref->Option (List Ref)
 | 0,_=>none
 | n+1,r=>if (zbG p r).super.toList.isEmpty then some [r] else
   if (whose p r.keeper (zbG p r).super).2=1 then (upGo p n (whose p r.keeper (zbG p r).super).1).map (r :: ·) else none
def chainOf (p:Plan) (r:Ref):Option (List Ref):=upGo p 6 r
theorem zbJ {many:Int}:∀(seen fs:List Ask),zbu many seen fs=true->∀a∈fs,0≤a.keeper∧a.keeper<many
 | _,[],_,a,h=>by cases h
 | seen,f :: fs,h,a,ha=>by
  rw[zbu] at h
  simp only[lz5,decide_eq_true_eq] at h
  rcases List.mem_cons.1 ha with rfl|ha
  ·exact h.1.1.2
  ·exact zbJ _ fs h.2 a ha
theorem zbK {xs:List Ask} {s:Str} {v:Int} (h:zbE xs s=some v):∃a∈xs,a.keeper=v:=by
 unfold zbE at h
 rw[Option.map_eq_some_iff] at h
 obtain⟨a,ha,hv⟩:=h
 exact⟨a,List.mem_of_find?_eq_some ha,hv⟩
theorem zbL {p:Plan} (h:lodB p=true) {k:Nat} (hk:k<p.keepers.length):kprB p.keepers.length p.keepers[k]=true:=by
 unfold lodB at h
 rw[lz5,List.all_eq_true] at h
 exact h.2 _ (List.getElem_mem hk)
theorem zbM {p:Plan} (h:lodB p=true):1≤p.keepers.length∧p.keepers.length≤3:=by
 unfold lodB at h
 rw[lz5,lz5,decide_eq_true_eq,decide_eq_true_eq] at h
 exact h.1
theorem zbN {p:Plan} {k:Nat} (hk:k<p.keepers.length):zbC p (k:Int)=p.keepers[k]:=by
 unfold zbC
 simp[List.getD,lz8 hk]
theorem zbO {p:Plan} (h:lodB p=true) {k:Int} (h0:0≤k) (hk:k<p.keepers.length) {s:Str} {v:Int} (hv:zbE (zbC p k).asks s=some v):0≤v∧v<p.keepers.length:=by
 obtain⟨m,rfl⟩:=Int.eq_ofNat_of_zero_le h0
 have hm:m<p.keepers.length:=by omega
 rw[zbN hm] at hv
 have hb:=zbL h hm
 unfold kprB at hb
 rw[lz5] at hb
 obtain⟨a,ha,rfl⟩:=zbK hv
 exact zbJ _ _ hb.2 a ha
structure zbP (p:Plan) (s:Str) (k0:Int) (ys:List Int) (kc:Int):Prop where
 nodup:(ys ++ [kc]).Nodup
 range:∀x∈ys ++ [kc],0≤x∧x<p.keepers.length
 next:∀y∈ys,∃z∈ys ++ [kc],zbE (zbC p y).asks s=some z
 whose:whose p k0 s=zbI p s (4-ys.length) kc
theorem zbP.start {p:Plan} {s:Str} {k0:Int} (h0:0≤k0) (h1:k0<p.keepers.length):zbP p s k0 [] k0:=
 ⟨by simp,by simpa using⟨h0,h1⟩,by simp,rfl⟩
theorem zbQ {xs:List Int} {n:Nat} (hn:n≤3) (hd:xs.Nodup) (hr:∀x∈xs,0≤x∧x<(n:Int)):xs.length≤3:=by
 match xs,hd,hr with
 | [],_,_=>simp
 | [_],_,_=>simp
 | [_,_],_,_=>simp
 | [_,_,_],_,_=>simp
 | a :: b :: c :: d :: r,hd,hr=>
  exfalso
  simp only[List.nodup_cons,List.mem_cons,not_or] at hd
  have ha:=hr a (by simp)
  have hb:=hr b (by simp)
  have hc:=hr c (by simp)
  have hd':=hr d (by simp)
  omega
theorem zbP.len {p:Plan} {s:Str} {k0 kc:Int} {ys:List Int} (h:zbP p s k0 ys kc) (hp:lodB p=true):ys.length≤2:=by
 have:=zbQ (zbM hp).2 h.nodup h.range
 simp at this
 omega
theorem zbR {p:Plan} {k v:Int} {s:Str} (h:zbE (zbC p k).asks s=some v):zbF p k s=v:=by unfold zbF;rw[h];rfl
theorem zbS {p:Plan} {k:Int} {s:Str} (h:zbE (zbC p k).asks s=none):zbF p k s=-1:=by unfold zbF;rw[h];rfl
theorem zbP.step {p:Plan} {s:Str} {k0 kc nx:Int} {ys:List Int} (h:zbP p s k0 ys kc) (hp:lodB p=true) (he:zbE (zbC p kc).asks s=some nx) (hm:nx∉ys ++ [kc]):zbP p s k0 (ys ++ [kc]) nx:=by
 have hkc:=h.range kc (by simp)
 have hnx:=zbO hp hkc.1 hkc.2 he
 refine⟨?_,fun x hx=>?_,fun y hy=>?_,?_⟩
 ·rw[List.nodup_append]
  exact⟨h.nodup,by simp,fun a ha b hb=>by simp at hb;subst hb;intro e;subst e;exact hm ha⟩
 ·rcases List.mem_append.1 hx with hx|hx
  ·exact h.range x hx
  ·obtain rfl:x=nx:=by simpa using hx
   exact hnx
 ·rcases List.mem_append.1 hy with hy|hy
  ·obtain⟨z,hz,hz'⟩:=h.next y hy
   exact⟨z,List.mem_append_left _ hz,hz'⟩
  ·obtain rfl:y=kc:=by simpa using hy
   exact⟨nx,by simp,he⟩
 ·have hl:=h.len hp
  rw[h.whose,List.length_append]
  obtain⟨m,hm'⟩:∃m,4-ys.length=m+1:=⟨3-ys.length,by omega⟩
  have hm2:4-(ys.length+[kc].length)=m:=by simp;omega
  rw[hm',hm2,zbI,zbR he,if_neg (by omega)]
theorem zbP.done {p:Plan} {s:Str} {k0 kc:Int} {ys:List Int} (h:zbP p s k0 ys kc) (hp:lodB p=true) (he:zbE (zbC p kc).asks s=none):Go.Proofs.YtpghfhjhjlmljaaGreat.whose p k0 s=if zbD p kc s<0 then (zbH,2) else (⟨kc,s⟩,1):=by
 have hl:=h.len hp
 obtain⟨m,hm'⟩:∃m,4-ys.length=m+1:=⟨3-ys.length,by omega⟩
 rw[h.whose,hm',zbI,zbS he,if_pos (by omega)]
theorem zbU {α:Type} {p:α->Bool} {xs:List α} {i:Int} (h:zbx p xs=some i):∃n:Nat,i=n∧n<xs.length∧ixOf p xs=i:=by
 unfold zbx at h
 by_cases h0:ixOf p xs<0
 ·rw[if_pos h0] at h;cases h
 ·rw[if_neg h0] at h
  simp only[Option.some.injEq] at h
  have:=zeS p xs
  exact⟨(ixOf p xs).toNat,by omega,by omega,h⟩
def Here (p:Plan) (r:Ref) (k i:Nat):Prop:=r.keeper=(k:Int)∧k<p.keepers.length∧i<(zbC p k).owns.length∧zbx (zbp r.name) (zbC p k).owns=some (i:Int)
theorem Here.cls {p:Plan} {r:Ref} {k i:Nat} (h:Here p r k i):zbG p r=(zbC p k).owns[i]'h.2.2.1:=by
 obtain⟨rk,rn⟩:=r
 obtain⟨h1,h2,h3,h4⟩:=h
 dsimp only at h1 h4
 subst h1
 obtain⟨n,hn,_,ho⟩:=zbU h4
 unfold zbG zbD
 dsimp only
 rw[ho]
 simp[List.getD,lz8 h3]
def Up (p:Plan) (r0:Ref) (pre:List Ref) (q:Ref):Prop:=pre.length≤6∧chainOf p r0=(upGo p (6-pre.length) q).map (pre ++ ·)
theorem Up.start (p:Plan) (r0:Ref):Up p r0 [] r0:=⟨by simp,by unfold chainOf;simp⟩
theorem Up.step {p:Plan} {r0 q:Ref} {pre:List Ref} (h:Up p r0 pre q) (hl:pre.length<6) (hs:(zbG p q).super.toList.isEmpty=false) (hw:(whose p q.keeper (zbG p q).super).2=1):Up p r0 (pre ++ [q]) (whose p q.keeper (zbG p q).super).1:=by
 obtain⟨m,hm⟩:∃m,6-pre.length=m+1:=⟨5-pre.length,by omega⟩
 refine⟨by simp;omega,?_⟩
 have hm2:6-(pre ++ [q]).length=m:=by simp;omega
 rw[h.2,hm,hm2,upGo,if_neg (by rw[hs];simp),if_pos hw,Option.map_map]
 congr 1
 funext xs
 simp
abbrev Bs:=List UInt8
def Str.l (s:Str):Bs:=s.data.toList
def noSp:Str:=⟨#[]⟩
def zp1 (n:Nat):UInt8:=UInt8.ofNat (48+n)
def zp2:Nat->Nat->Bs->Bs
 | 0,n,o=>zp1 n :: o
 | f+1,n,o=>if 9<n then zp2 f (n / 10) (zp1 (n % 10) :: o) else zp1 n :: o
def zp3 (n:Nat):Bs:=zp2 n n []
def numL (n:Int):Bs:=if n<0 then 45 :: zp3 n.natAbs else zp3 n.natAbs
def zp8:Bs->Nat->Option Nat
 | [],n=>some n
 | c :: cs,n=>if c.toNat<48∨57<c.toNat then none else zp8 cs (n * 10+(c.toNat-48))
def zp9 (l:Bs):Nat:=if l.head? =some 45 then 1 else 0
def signed (a n:Nat):Int:=if a=1 then -(n:Int) else n
def zqa (l:Bs):Int×Bool:=
 if l.length=zp9 l∨zp9 l+4<l.length then (0,false)
 else match zp8 (l.drop (zp9 l)) 0 with
  | none=>(0,false)
  | some n=>(signed (zp9 l) n,numL (signed (zp9 l) n) == l)
def zqb (s:Str):Int×Bool:=zqa (Str.l s)
def zqt (op:Nat) (ws:List Str):Ins:=match ws with
 | _ :: a :: rest=>⟨op,if (zqb a).2 then (zqb a).1 else 0,if (zqb a).2 then noSp else a,rest.headD noSp⟩
 | _=>⟨op,0,noSp,noSp⟩
def StrC (cs:List Value) (s:Str):Prop:=cs=[.string s]∧s.size≤maxLen
end Go.Proofs.YtpghfhjhjlmljaaGreat
