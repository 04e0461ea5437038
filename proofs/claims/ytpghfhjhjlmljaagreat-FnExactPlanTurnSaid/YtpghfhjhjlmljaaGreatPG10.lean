/- Any slice as its raw structs; a clone of structs that own nothing is a tree. -/
import Derived.Test.YtpghfhjhjlmljaaGreatPG9
namespace Go.Proofs.YtpghfhjhjlmljaaGreat
open Go.RowKit
theorem Sl.raws {α:Type} {X:Nat->Prop} {w:World} {sz:Nat} {R:List Value->α->Prop} {v:Value} {xs:List α} (h:Sl X w sz R v xs):
  ∃ks:List (Raw sz),ks.length=xs.length∧(∀i (h1:i<ks.length) (h2:i<xs.length),R ks[i].1 xs[i])∧Sl X w sz RawC v ks:=by
 obtain⟨A,cap,rfl,h1,h2,h3⟩:=h
 rcases Nat.eq_zero_or_pos xs.length with h0|h0
 ·refine⟨[],h0.symm,fun i h=>absurd h (by simp),A,cap,by rw[h0];rfl,Nat.zero_le _,Nat.zero_le _,fun h=>absurd h (by simp)⟩
 ·obtain⟨b,off,rfl,hX,hc⟩:=h3 h0
  let f:Fin xs.length->Raw sz:=fun i=>⟨(hc i.1 i.2).choose,(hc i.1 i.2).choose_spec.2.1⟩
  have hl:(List.ofFn f).length=xs.length:=List.length_ofFn
  refine⟨List.ofFn f,hl,fun i a b=>?_,some ⟨b,off,none⟩,cap,by rw[hl],by rw[hl];exact h1,by rw[hl];exact h2,fun _=>⟨b,off,rfl,hX,fun k hk=>?_⟩⟩
  ·rw[List.getElem_ofFn]
   exact(hc i b).choose_spec.1
  ·have hk':k<xs.length:=by rw[<-hl];exact hk
   refine⟨(hc k hk').choose,?_,(hc k hk').choose_spec.2.1,(hc k hk').choose_spec.2.2⟩
   show _=_
   rw[List.getElem_ofFn]
theorem OneC.of {α:Type} {sz:Nat} {R:List Value->α->Prop} {ks:List (Raw sz)} {xs:List α} (hl:ks.length=xs.length) (hR:∀i (h1:i<ks.length) (h2:i<xs.length),R ks[i].1 xs[i]) (h1:∀cs x,R cs x->∀u∈cs,u.oneCell'=true):OneC ks:=by
 intro u hu
 obtain⟨k,hk,hu⟩:=List.mem_flatMap.1 hu
 obtain⟨i,hi,rfl⟩:=List.getElem_of_mem hk
 exact h1 _ _ (hR i hi (by omega)) u hu
theorem zzR.leaf {α:Type} {E:TypeId} {sz:Nat} {C:List Value->α->Prop} {ks:List (Raw sz)} {xs:List α} {w w':World} {e:Ending} (hl:ks.length=xs.length) (hC:∀i (h1:i<ks.length) (h2:i<xs.length),C ks[i].1 xs[i]) (h:zzR E sz ks w e w'):
  ∃A c,e=.returned (.slice A xs.length c)∧OwnL E sz (zzC C) w' (fun b=>w.heap.size≤b) (.slice A xs.length c) xs∧Fr No w w':=by
 obtain⟨A,c,rfl,hrow,hq,hf⟩:=h
 rw[hl] at hrow hq ⊢
 exact⟨A,c,rfl,⟨ks,fun _ _=>False,hl,hrow,hq,(fun _ _ _ h=>h.elim),(fun _ _ _ _ _ _ h=>h.elim),fun i h1 h2=>hC i h1 h2⟩,hf⟩
theorem zuz:∀cs x,KndC cs x->∀u∈cs,u.oneCell'=true:=by
 rintro _ x ⟨rfl,_⟩ u hu
 simp only[List.mem_cons,List.not_mem_nil,or_false] at hu
 rcases hu with rfl|rfl<;>rfl
theorem zAj:∀cs x,TagC cs x->∀u∈cs,u.oneCell'=true:=by
 rintro _ x ⟨rfl,_⟩ u hu
 simp only[List.mem_cons,List.not_mem_nil,or_false] at hu
 rcases hu with rfl|rfl<;>rfl
theorem zrO:∀cs x,InsC cs x->∀u∈cs,u.oneCell'=true:=by
 rintro _ x ⟨rfl,_⟩ u hu
 simp only[List.mem_cons,List.not_mem_nil,or_false] at hu
 rcases hu with rfl|rfl|rfl|rfl<;>rfl
theorem zrP:∀cs x,FldC cs x->∀u∈cs,u.oneCell'=true:=by
 rintro _ x ⟨rfl,_⟩ u hu
 simp only[List.mem_cons,List.not_mem_nil,or_false] at hu
 rcases hu with rfl|rfl|rfl<;>rfl
theorem zrQ:∀cs x,AskC cs x->∀u∈cs,u.oneCell'=true:=by
 rintro _ x ⟨rfl,_⟩ u hu
 simp only[List.mem_cons,List.not_mem_nil,or_false] at hu
 rcases hu with rfl|rfl<;>rfl
end Go.Proofs.YtpghfhjhjlmljaaGreat
