/- What the reference reads out of lines, as data. No program is named here. -/
import Derived.Test.YtmeaibjmnjcdfaaGreatDoorZG5
namespace Go.Proofs.YtmeaibjmnjcdfaaGreatDoor
open Go.RowKit
abbrev Bs:=List UInt8
def zbl (l:Bs):Str:=⟨l.toArray⟩
def Str.l (s:Str):Bs:=s.data.toList
theorem zi1 (l:Bs):Str.l (zbl l)=l:=rfl
theorem zkb (s:Str):(Str.l s).length=s.size:=rfl
theorem zpT (l:Bs):(zbl l).size=l.length:=rfl
def noSp:Str:=⟨#[]⟩
def zp1 (n:Nat):UInt8:=UInt8.ofNat (48+n)
def zp2:Nat->Nat->Bs->Bs
 | 0,n,o=>zp1 n :: o
 | f+1,n,o=>if 9<n then zp2 f (n / 10) (zp1 (n % 10) :: o) else zp1 n :: o
def zp3 (n:Nat):Bs:=zp2 n n []
def numL (n:Int):Bs:=if n<0 then 45 :: zp3 n.natAbs else zp3 n.natAbs
theorem zp4 (f:Nat):∀(g n:Nat) (o:Bs),n≤f->n≤g->zp2 f n o=zp2 g n o:=by
 induction f with
 | zero=>
  intro g n o h1 h2
  obtain rfl:n=0:=by omega
  cases g with
  | zero=>rfl
  | succ g=>simp[zp2]
 | succ f ih=>
  intro g n o h1 h2
  cases g with
  | zero=>
   obtain rfl:n=0:=by omega
   simp[zp2]
  | succ g=>
   rw[zp2,zp2]
   split
   ·exact ih g _ _ (by omega) (by omega)
   ·rfl
theorem zp5 {n:Nat} (h:9<n) (o:Bs):zp2 n n o=zp2 (n / 10) (n / 10) (zp1 (n % 10) :: o):=by
 obtain⟨f,rfl⟩:∃f,n=f+1:=⟨n-1,by omega⟩
 rw[zp2,if_pos h]
 exact zp4 _ _ _ _ (by omega) (Nat.le_refl _)
theorem zp6 {n:Nat} (h:¬9<n) (o:Bs):zp2 n n o=zp1 n :: o:=by
 cases n with
 | zero=>rfl
 | succ f=>rw[zp2,if_neg h]
theorem zp7 {n:Nat} (h:n<100000):(zp3 n).length≤6:=by
 unfold zp3
 have E:=fun(m:Nat) (o:Bs)=>@zp6 m
 by_cases h1:9<n
 ·rw[zp5 h1]
  by_cases h2:9<n / 10
  ·rw[zp5 h2]
   by_cases h3:9<n / 10 / 10
   ·rw[zp5 h3]
    by_cases h4:9<n / 10 / 10 / 10
    ·rw[zp5 h4,zp6 (by omega)];simp
    ·rw[zp6 h4];simp
   ·rw[zp6 h3];simp
  ·rw[zp6 h2];simp
 ·rw[zp6 h1];simp
def zp8:Bs->Nat->Option Nat
 | [],n=>some n
 | c :: cs,n=>if c.toNat<48∨57<c.toNat then none else zp8 cs (n * 10+(c.toNat-48))
def zp9 (l:Bs):Nat:=if l.head? =some 45 then 1 else 0
def signed (a n:Nat):Int:=if a=1 then -(n:Int) else n
def zqa (l:Bs):Int×Bool:=
 if l.length=zp9 l∨zp9 l+4<l.length then (0,false)
 else match zp8 (l.drop (zp9 l)) 0 with
  | none=>(0,false)
  | some n=>(signed (zp9 l) n,numL (signed (zp9 l) n) == l)
def zqb (s:Str):Int×Bool:=zqa (Str.l s)
theorem zqc:∀(l:Bs) (n m:Nat),zp8 l n=some m->m<(n+1) * 10 ^ l.length:=by
 intro l
 induction l with
 | nil=>intro n m h;simp[zp8] at h;subst h;simp
 | cons c cs ih=>
  intro n m h
  rw[zp8] at h
  split at h
  ·cases h
  ·have:=ih _ _ h
   have hc:c.toNat-48≤9:=by omega
   have h2:(n * 10+(c.toNat-48)+1) * 10 ^ cs.length≤((n+1) * 10) * 10 ^ cs.length:=Nat.mul_le_mul_right _ (by omega)
   have h3:(n+1) * 10 ^ (c :: cs).length=((n+1) * 10) * 10 ^ cs.length:=by
    rw[List.length_cons,Nat.pow_succ,Nat.mul_assoc,Nat.mul_comm 10]
   omega
theorem zqd (s:Str):-10000<(zqb s).1∧(zqb s).1<10000:=by
 unfold zqb zqa
 split
 ·simp
 ·rename_i h
  split
  ·simp
  ·rename_i n hn
   have h1:=zqc _ _ _ hn
   have hl:(List.drop (zp9 (Str.l s)) (Str.l s)).length≤4:=by rw[List.length_drop];omega
   have h2:10 ^ (List.drop (zp9 (Str.l s)) (Str.l s)).length≤10 ^ 4:=Nat.pow_le_pow_right (by decide) hl
   have h3:n<10000:=by
    have h4:(0+1) * 10 ^ (List.drop (zp9 (Str.l s)) (Str.l s)).length≤10000:=by simpa using h2
    omega
   dsimp only
   unfold signed
   split<;>omega
def zqj:Mth:=⟨noSp,[],⟨0,noSp⟩,0,0,[],[]⟩
def zqk (ws:List Str):Ask×Bool:=match ws with
 | [_,a,b]=>(⟨a,(zqb b).1⟩,(zqb b).2&&decide (0≤(zqb b).1)&&namB a)
 | _=>(⟨noSp,0⟩,false)
def noMp:Mp:=⟨0,[],[]⟩
def insW (op:Nat):Bs:=([[],[110,117,109],[116,97,107,101],[112,117,116],[97,100,100],[110,117,108,108],[110,101,119],[103,101,116],[115,101,116],[99,97,108,108],[114,101,116],[122,101,114,111],[110,105,108],[103,111],[111,117,116],[99,97,115,116]]:List Bs).getD op []
def zqr (i:Ins):Bs:=
 if insB i then
  (if i.op=1∨i.op=2∨i.op=3∨i.op=11∨i.op=12∨i.op=13 then insW i.op.toNat ++ 32 :: numL i.a
   else if i.op=6∨i.op=15 then insW i.op.toNat ++ 32 :: Str.l i.name
   else if i.op=7∨i.op=8∨i.op=9 then insW i.op.toNat ++ 32 :: (Str.l i.name ++ 32 :: Str.l i.member)
   else insW i.op.toNat)
 else []
def zqt (op:Nat) (ws:List Str):Ins:=match ws with
 | _ :: a :: rest=>⟨op,if (zqb a).2 then (zqb a).1 else 0,if (zqb a).2 then noSp else a,rest.headD noSp⟩
 | _=>⟨op,0,noSp,noSp⟩
def kndT (k:Knd):Bs:=if kndB k then (if k.kind=1 then [35] else Str.l k.name) else []
def tagT (t:Tag):Bs:=if tagB t then (if t.kind=0 then [63] else if t.kind=1 then [35] else if t.kind=3 then [33] else Str.l t.name) else []
def zxU:List Knd->Bs
 | []=>[]
 | k :: ks=>32 :: (kndT k ++ zxU ks)
def zxV:List Tag->Bs
 | []=>[]
 | t :: ts=>32 :: (tagT t ++ zxV ts)
def zxW:Bs:=[109,101,116,104,111,100,32]
def zxX:Bs:=[102,114,97,109,101,32]
def zxY:Bs:=[99,108,97,115,115,32]
def zxZ:Bs:=[102,105,101,108,100,32]
def zx0:Bs:=[97,115,107,115,32]
def zx1:Bs:=[107,101,101,112,101,114]
def zx2 (m:Mth):Bs:=zxW ++ Str.l m.name ++ [32] ++ numL m.locals ++ [32] ++ numL m.stack ++ [32] ++ kndT m.ret
def zx3 (m:Mth):Bs:=zx2 m ++ zxU m.args
def mapT (x:Mp):Bs:=zxX ++ numL x.at_ ++ zxV x.locals ++ [32,47] ++ zxV x.stack
def mthT (m:Mth):List Str:=(zbl (zx3 m) :: m.maps.map fun x=>zbl (mapT x)) ++ m.code.map fun i=>zbl (zqr i)
def zx4 (s:Str):Bs:=if s.toList.isEmpty then [45] else Str.l s
def fldT (f:Fld):Bs:=zxZ ++ Str.l f.name ++ [32] ++ kndT f.kind
def zx5 (c:Cls):Bs:=zxY ++ Str.l c.name ++ [32] ++ zx4 c.super
def clsT (c:Cls):List Str:=(zbl (zx5 c) :: c.fields.map fun f=>zbl (fldT f)) ++ c.methods.flatMap mthT
def askT (a:Ask):Bs:=zx0 ++ Str.l a.name ++ [32] ++ numL a.keeper
def kprT (k:Kpr):List Str:=(zbl zx1 :: k.asks.map fun a=>zbl (askT a)) ++ k.owns.flatMap clsT
def zx6 (p:Plan):List Str:=if lodB p then p.keepers.flatMap kprT else []
theorem zx7:∀(ks:List Knd) (k:Knd),zxU (ks ++ [k])=zxU ks ++ 32 :: kndT k
 | [],k=>by simp[zxU]
 | x :: ks,k=>by rw[List.cons_append,zxU,zxU,zx7 ks k];simp
theorem zx8:∀(ks:List Tag) (k:Tag),zxV (ks ++ [k])=zxV ks ++ 32 :: tagT k
 | [],k=>by simp[zxV]
 | x :: ks,k=>by rw[List.cons_append,zxV,zxV,zx8 ks k];simp
theorem zx9 {s:Str} (h:namB s=true):(Str.l s).length≤6:=by
 unfold namB at h
 simp at h
 rw[zkb]
 omega
theorem zya (k:Knd):(kndT k).length≤6:=by
 unfold kndT
 split
 ·rename_i h
  split
  ·simp
  ·rename_i h1
   unfold kndB at h
   simp only[Bool.or_eq_true,lz5,beq_iff_eq] at h
   rcases h with h|h
   ·exact absurd h.1 h1
   ·exact zx9 h.2
 ·simp
theorem zyb (t:Tag):(tagT t).length≤6:=by
 unfold tagT
 split
 ·rename_i h
  split
  ·simp
  ·split
   ·simp
   ·split
    ·simp
    ·rename_i h0 h1 h3
     unfold tagB at h
     rw[if_neg (by simp[h0,h1,h3])] at h
     simp only[lz5,beq_iff_eq] at h
     exact zx9 h.2
 ·simp
theorem zyc:∀ks:List Knd,(zxU ks).length≤7 * ks.length
 | []=>by simp[zxU]
 | k :: ks=>by
  have h1:=zya k
  have h2:=zyc ks
  rw[zxU]
  simp
  omega
theorem zyd:∀ks:List Tag,(zxV ks).length≤7 * ks.length
 | []=>by simp[zxV]
 | k :: ks=>by
  have h1:=zyb k
  have h2:=zyd ks
  rw[zxV]
  simp
  omega
end Go.Proofs.YtmeaibjmnjcdfaaGreatDoor
