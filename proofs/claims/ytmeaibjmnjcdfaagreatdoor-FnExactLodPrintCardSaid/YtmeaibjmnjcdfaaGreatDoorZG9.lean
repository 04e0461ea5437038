/- Tables in memory of one's own: rows of elements, each of which may hold blocks of its own. No program is named here. -/
import Derived.Test.YtmeaibjmnjcdfaaGreatDoorZG8
import Derived.Test.YtmeaibjmnjcdfaaGreatDoorZG2
namespace Go.Proofs.YtmeaibjmnjcdfaaGreatDoor
open Go.RowKit
structure El (κ β:Type) where
 e:TypeId
 sz:Nat
 C:κ->List Value
 B:κ->List Nat
 R:World->κ->β->Prop
 len:∀k,(C k).length=sz
 keep:∀{X:Nat->Prop} {W W':World} {k:κ} {x:β},R W k x->Fr X W W'->(∀b∈B k,¬X b)->R W' k x
 lt:∀{W:World} {k:κ} {x:β} {b:Nat},R W k x->b∈B k->b<W.heap.size
def Els {κ β:Type} (L:El κ β) (W:World):List κ->List β->Prop
 | [],[]=>True
 | k :: ks,x :: xs=>L.R W k x∧Els L W ks xs
 | _,_=>False
section
variable {κ β:Type} {L:El κ β} {X:Nat->Prop} {W W':World}
theorem Els.length:∀{ks:List κ} {xs:List β},Els L W ks xs->ks.length=xs.length
 | [],[],_=>rfl
 | _ :: ks,_ :: xs,h=>by simp[Els.length (ks:=ks) (xs:=xs) h.2]
 | [],_ :: _,h=>h.elim
 | _ :: _,[],h=>h.elim
theorem Els.keep:∀{ks:List κ} {xs:List β},Els L W ks xs->Fr X W W'->(∀b∈ks.flatMap L.B,¬X b)->Els L W' ks xs
 | [],[],_,_,_=>trivial
 | k :: ks,x :: xs,h,hf,hb=>⟨L.keep h.1 hf (fun b hb'=>hb b (by simp[hb'])),Els.keep h.2 hf (fun b hb'=>hb b (by rw[List.flatMap_cons];exact List.mem_append_right _ hb'))⟩
 | [],_ :: _,h,_,_=>h.elim
 | _ :: _,[],h,_,_=>h.elim
theorem Els.lt:∀{ks:List κ} {xs:List β},Els L W ks xs->∀b∈ks.flatMap L.B,b<W.heap.size
 | [],[],_,b,hb=>by simp at hb
 | k :: ks,x :: xs,h,b,hb=>by
  rw[List.flatMap_cons,List.mem_append] at hb
  rcases hb with hb|hb
  ·exact L.lt h.1 hb
  ·exact Els.lt h.2 b hb
 | [],_ :: _,h,_,_=>h.elim
 | _ :: _,[],h,_,_=>h.elim
theorem Els.append:∀{ks ls:List κ} {xs ys:List β},Els L W ks xs->Els L W ls ys->Els L W (ks ++ ls) (xs ++ ys)
 | [],_,[],_,_,h=>h
 | _ :: _,_,_ :: _,_,h,g=>⟨h.1,Els.append h.2 g⟩
 | [],_,_ :: _,_,h,_=>h.elim
 | _ :: _,_,[],_,h,_=>h.elim
theorem Els.last:∀{ks:List κ} {xs:List β} {x:β},Els L W ks (xs ++ [x])->∃ls k,ks=ls ++ [k]∧Els L W ls xs∧L.R W k x
 | [k],[],x,h=>⟨[],k,rfl,trivial,h.1⟩
 | k :: l :: ks,[],x,h=>h.2.elim
 | k :: ks,y :: xs,x,h=>by
  obtain⟨ls,j,rfl,h1,h2⟩:=Els.last (ks:=ks) (xs:=xs) h.2
  exact⟨k :: ls,j,rfl,⟨h.1,h1⟩,h2⟩
 | [],[],_,h=>h.elim
 | [],_ :: _,_,h=>h.elim
end
section
variable {κ:Type} {C:κ->List Value} {sz:Nat}
theorem zqA (hC:∀k,(C k).length=sz):∀ks:List κ,(ks.flatMap C).length=ks.length * sz
 | []=>by simp
 | k :: ks=>by rw[List.flatMap_cons,List.length_append,zqA hC ks,hC,List.length_cons,Nat.add_mul];omega
theorem zqB (hC:∀k,(C k).length=sz):∀(ks:List κ) (i:Nat) (hi:i<ks.length) (j:Nat),j<sz->(ks.flatMap C)[i * sz+j]? =(C ks[i])[j]?
 | k :: ks,0,_,j,hj=>by
  rw[List.flatMap_cons,List.getElem?_append_left (by rw[hC];omega)]
  simp
 | k :: ks,i+1,hi,j,hj=>by
  rw[List.flatMap_cons,List.getElem?_append_right (by rw[hC,Nat.add_mul];omega)]
  have e:(i+1) * sz+j-(C k).length=i * sz+j:=by rw[hC,Nat.add_mul];omega
  rw[e,zqB hC ks i (by simpa using hi) j hj]
  simp
end
theorem RowV.slW {κ β:Type} {X:Nat->Prop} {w:World} {e:TypeId} {sz:Nat} {v:Value} {C:κ->List Value} {ks:List κ} {xs:List β} {R:List Value->β->Prop} (hC:∀k,(C k).length=sz)
  (h:RowV w e sz v xs.length (ks.flatMap C)) (hl:ks.length=xs.length) (hR:∀i (h1:i<ks.length) (h2:i<xs.length),R (C ks[i]) xs[i]) (hX:∀q,zcP v=some q->¬X q):Sl X w sz R v xs:=by
 obtain⟨A,c,rfl,h1,h2⟩:=h.form
 refine⟨A,c,rfl,h1,by omega,fun h0=>?_⟩
 obtain⟨g,c',cur,he,_,_,hb,h3,h4,hq⟩:=h.at_ h0
 cases he
 refine⟨g,0,rfl,hX g hq,fun k hk=>⟨C (ks[k]'(by omega)),hR k (by omega) hk,hC _,fun j hj=>?_⟩⟩
 have hle:k * sz+j<xs.length * sz:=by
  have:(k+1) * sz≤xs.length * sz:=Nat.mul_le_mul_right _ hk
  rw[Nat.add_mul] at this
  omega
 rw[Nat.zero_add,h.cell rfl hle,zqB hC ks k (by omega) j hj]
theorem zqC {g n c:Nat} (hc:0<c):zcP (.slice (some ⟨g,0,none⟩) n c)=some g:=by rw[zcQ,if_neg (by omega)]
abbrev Raw (sz:Nat):={cs:List Value // cs.length=sz}
def RawC {sz:Nat} (cs:List Value) (k:Raw sz):Prop:=cs=k.1
def rawL {sz:Nat} (ks:List (Raw sz)):List Value:=ks.flatMap (·.1)
theorem zqD {sz:Nat} (ks:List (Raw sz)):(rawL ks).length=ks.length * sz:=zqA (C:=fun k:Raw sz=>k.1) (fun k=>k.2) ks
theorem Sl.raw {α:Type} {X:Nat->Prop} {w:World} {sz:Nat} {R:List Value->α->Prop} {v:Value} {xs:List α} (h:Sl X w sz R v xs):
  ∃ks:List (Raw sz),ks.length=xs.length∧(∀i (h1:i<ks.length) (h2:i<xs.length),R ks[i].1 xs[i])∧Sl X w sz RawC v ks:=by
 obtain⟨A,cap,rfl,h1,h2,h3⟩:=h
 rcases Nat.eq_zero_or_pos xs.length with h0|h0
 ·exact⟨[],h0.symm,fun i h=>absurd h (by simp),A,cap,by rw[h0];rfl,Nat.zero_le _,Nat.zero_le _,fun h=>absurd h (by simp)⟩
 ·obtain⟨b,off,rfl,hX,hc⟩:=h3 h0
  refine⟨(List.finRange xs.length).map fun k=>⟨(hc k.1 k.2).choose,(hc k.1 k.2).choose_spec.2.1⟩,by simp,fun i g1 g2=>?_,⟨some ⟨b,off,none⟩,cap,by simp,by simpa using h1,by simpa using h2,fun _=>⟨b,off,rfl,hX,fun k hk=>?_⟩⟩⟩
  ·rw[List.getElem_map]
   have e:(List.finRange xs.length)[i]'(by simpa using g1)=⟨i,g2⟩:=by simp
   rw[e]
   exact(hc i g2).choose_spec.1
  ·have g2:k<xs.length:=by simpa using hk
   refine⟨(hc k g2).choose,?_,(hc k g2).choose_spec.2.1,(hc k g2).choose_spec.2.2⟩
   unfold RawC
   rw[List.getElem_map]
   have e:(List.finRange xs.length)[k]'(by simpa using hk)=⟨k,g2⟩:=by simp
   rw[e]
theorem zqE (b off j:Nat):(⟨b,off,none⟩:Addr).add j=⟨b,off+j,none⟩:=by
 unfold Addr.add
 by_cases hj:j=0
 ·subst hj;rfl
 ·rw[if_neg hj]
theorem Sl.rawNews {X:Nat->Prop} {w:World} {b off n cap sz:Nat} {ks:List (Raw sz)} (h:Sl X w sz RawC (.slice (some ⟨b,off,none⟩) n cap) ks) (hsz:0<sz):
  ∀j u,(rawL ks)[j]? =some u->w.cell? ((⟨b,off,none⟩:Addr).add j)=some u:=by
 intro j u hu
 have hj:j<ks.length * sz:=by
  have:=(List.getElem?_eq_some_iff.1 hu).1
  rwa [zqD] at this
 have hk:j / sz<ks.length:=Nat.div_lt_of_lt_mul (by rw[Nat.mul_comm];exact hj)
 have hm:j % sz<sz:=Nat.mod_lt _ hsz
 obtain⟨b',off',cs,hA,_,hRc,hc⟩:=h.cells hk
 simp only[Option.some.injEq,Addr.mk.injEq,and_true] at hA
 obtain⟨rfl,rfl⟩:=hA
 have h2:=zqB (C:=fun k:Raw sz=>k.1) (fun k=>k.2) ks (j / sz) hk (j % sz) hm
 have hdm:j / sz * sz+j % sz=j:=by rw[Nat.mul_comm];exact Nat.div_add_mod j sz
 rw[hdm] at h2
 unfold rawL at hu
 rw[h2,<-hRc] at hu
 rw[zqE]
 have:=hc (j % sz) u hm hu
 rw[<-this]
 congr 2
 omega
theorem RowV.rawSl {α:Type} {X:Nat->Prop} {w:World} {e:TypeId} {sz:Nat} {v:Value} {ks:List (Raw sz)} {xs:List α} {R:List Value->α->Prop} (h:RowV w e sz v xs.length (rawL ks)) (hl:ks.length=xs.length) (hR:∀i (h1:i<ks.length) (h2:i<xs.length),R ks[i].1 xs[i]) (hX:∀q,zcP v=some q->¬X q):Sl X w sz R v xs:=
 RowV.slW (C:=fun k:Raw sz=>k.1) (fun k=>k.2) h hl hR hX
structure ElT (S E:TypeId) (sz bytes:Nat):Prop where
 und:Tryz.prog.underlying S=some (.slice E)
 info:∃i z,Tryz.prog.info? E=some i∧i.zero=some z∧i.size=sz∧i.bytes=bytes∧z.cells.size=sz
 pos:0<sz
 small:bytes≤1000
def OneC {sz:Nat} (ks:List (Raw sz)):Prop:=∀u∈rawL ks,u.oneCell'=true
section
variable {w:World} {ops:Array Oper} {rest:List Oper} {o:Oper} {a:Act} {Q:Exit->Act->World->Prop} {S E:TypeId} {sz bytes:Nat}
end
end Go.Proofs.YtmeaibjmnjcdfaaGreatDoor
