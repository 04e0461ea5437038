/- The same by rows: 0: the writing operation waits for it; 1: it waits for that; 2: it may come up at any time; 3: it writes. -/
import Derived.Test.YtmeaibjmnjcdfaaGreatDoorZG20
namespace Go.Proofs.YtmeaibjmnjcdfaaGreatDoor
open Go.RowKit
def HopQ (c:Nat->Bool) (K:Oper->MR->Prop):List Nat->List Oper->List MR->Prop
 | q :: qs,o :: l,r :: R=>(c q=true->K o r)∧HopQ c K qs l R
 | [],_,_=>True
 | _ :: _,[],_=>True
 | _ :: _,_ :: _,[]=>True
theorem HopQ.at {c:Nat->Bool} {K:Oper->MR->Prop}:∀{qs:List Nat} {l:List Oper} {R:List MR},HopQ c K qs l R->∀(k:Nat) (q:Nat) (o:Oper) (r:MR),qs[k]? =some q->l[k]? =some o->R[k]? =some r->c q=true->K o r
 | q :: qs,o :: l,r :: R,h,0,q',o',r',h0,h1,h2,hc=>by
  rw[lz3] at h0 h1 h2
  cases h0;cases h1;cases h2
  exact h.1 hc
 | q :: qs,o :: l,r :: R,h,k+1,q',o',r',h0,h1,h2,hc=>HopQ.at h.2 k q' o' r' (by simpa using h0) (by simpa using h1) (by simpa using h2) hc
 | [],_,_,_,_,_,_,_,h0,_,_,_=>by simp at h0
 | _ :: _,[],_,_,_,_,_,_,_,h1,_,_=>by simp at h1
 | _ :: _,_ :: _,[],_,_,_,_,_,_,_,h2,_=>by simp at h2
def Hop3 (K:Nat->MR->MR->Prop):List Nat->List MR->List MR->Prop
 | q :: qs,r :: R,s :: S=>K q r s∧Hop3 K qs R S
 | [],_,_=>True
 | _ :: _,[],_=>True
 | _ :: _,_ :: _,[]=>True
theorem Hop3.at {K:Nat->MR->MR->Prop}:∀{qs:List Nat} {R S:List MR},Hop3 K qs R S->∀(k q:Nat) (r s:MR),qs[k]? =some q->R[k]? =some r->S[k]? =some s->K q r s
 | q :: qs,r :: R,s :: S,h,0,q',r',s',h0,h1,h2=>by
  rw[lz3] at h0 h1 h2
  cases h0;cases h1;cases h2
  exact h.1
 | q :: qs,r :: R,s :: S,h,k+1,q',r',s',h0,h1,h2=>Hop3.at h.2 k q' r' s' (by simpa using h0) (by simpa using h1) (by simpa using h2)
 | [],_,_,_,_,_,_,_,h0,_,_=>by simp at h0
 | _ :: _,[],_,_,_,_,_,_,_,h1,_=>by simp at h1
 | _ :: _,_ :: _,[],_,_,_,_,_,_,_,h2=>by simp at h2
section
variable {P:Program} {l:List Oper} {Q:Exit->Act->World->Prop} {a:Act} {w:World} {id:Nat}
end
section
variable {P:Program} (w:World)
theorem zty (t ty e:TypeId) (i:TypeInfo) (ht:P.underlying t=some (.slice e)) (hi:P.info? e=some i) (A B:Option Addr) (n c cb:Nat) (hle:n≤c):
  (Builtin.append_ #[t,t] ty #[.slice A n c,.slice B 0 cb]).run P w=.ok (.slice A n c) w:=by
 have hl:∀b:Addr,(loadCells b 0).run P w=.ok #[] w:=fun b=>by simp[loadCells,loadCellsFrom]
 cases A<;>cases B<;>simp[Builtin.append_,run_underlying ht,sizeOf,typeInfo,hi,Builtin.lenOf,Builtin.firstCells,hl,storeCells,hle]
end
theorem zqY.form {w:World} {n:Nat} {v:Value} {xs:List Str} (h:zqY w n v xs):∃A c,v=.slice A xs.length c∧xs.length≤c:=by
 obtain⟨A,c,h1,h2,_⟩:=h.1.form
 exact⟨A,c,h1,h2⟩
theorem zqY.empty (w:World) (n:Nat) (A:Addr):zqY w n (.slice (some A) 0 0) []:=⟨.inr ⟨rfl,rfl,_,rfl⟩,fun q hq=>by rw[zcQ,if_pos rfl] at hq;cases hq⟩
theorem ztz (n:Nat) (v:Value) (xs:List Str) (w:World) (ty:TypeId) (hrow:zqY w n v xs) (hxl:xs.length≤50000) (X:Nat->Prop) (u:Value) (ys:List Str) (hu:Sl X w 1 StrC u ys) (hyl:ys.length≤50000) (hn:n≤w.heap.size):
  ∃v' w',(Builtin.append_ #[26,26] ty #[v,u]).run Tryz.prog w=.ok v' w'∧zqY w' n v' (xs ++ ys)∧Fr (fun b=>n≤b) w w':=by
 obtain⟨i0,z,hi,hz0,hz1,hz2,hz3⟩:=zqX.info
 obtain⟨A,c,rfl,hc⟩:=hrow.form
 obtain⟨B,cb,rfl,_,_⟩:=hu.form
 rcases Nat.eq_zero_or_pos ys.length with h0|h0
 ·obtain rfl:=List.eq_nil_of_length_eq_zero h0
  exact⟨_,w,zty w _ ty _ i0 zqX.und hi A B xs.length c cb hc,by simpa using hrow,Fr.refl _ _⟩
 ·obtain⟨b,off,cs,rfl,_,_,_⟩:=hu.cells h0
  have hraw:=hu.strRaws
  have hl9:(ys.map zqT).length=ys.length:=List.length_map ..
  rw[<-hl9] at hraw ⊢
  obtain⟨g,c',w',hr,h1,h2,h3,h4⟩:=zcR (P:=Tryz.prog) w 26 ty 9 i0 z 1 16 zqX.und hi hz0 hz1 hz2 hz3 (by decide) _ xs.length (rawL (xs.map zqT)) hrow.1 ⟨b,off,none⟩ (ys.map zqT).length cb (rawL (ys.map zqT)) (zqD _) (hraw.rawNews (by decide)) (zqU ys) (by omega) (by unfold maxLen;omega) (by omega)
  have hg:n≤g:=h4.elim (fun h=>hrow.2 g h) (fun h=>by omega)
  refine⟨_,w',hr,⟨?_,fun q hq=>?_⟩,h3.mono (fun b _ hb=>hrow.2 b hb)⟩
  ·rw[List.length_append,List.map_append]
   rw[hl9] at h1 ⊢
   unfold rawL at h1 ⊢
   rw[List.flatMap_append]
   exact h1
  ·rw[zcQ] at hq
   split at hq
   ·cases hq
   ·cases hq;exact hg
section
variable {w:World} {a:Act} {o:Oper} {ops:Array Oper} {Q:Exit->Act->World->Prop} {rest:List Oper}
theorem ztA (hgd:o.guard=none) (s x:Operand) (ho:o.op=.call { callee:=.builtin .append,args:=#[s,x],argTypes:=#[26,26] })
  (n:Nat) (v:Value) (xs:List Str) (hs:a.eval s=v) (hrow:zqY w n v xs) (hxl:xs.length≤50000) (X:Nat->Prop) (u:Value) (ys:List Str) (hx:a.eval x=u) (hu:Sl X w 1 StrC u ys) (hyl:ys.length≤50000) (hn:n≤w.heap.size)
  (k:∀v' w',zqY w' n v' (xs ++ ys)->Fr (fun b=>n≤b) w w'->wpList Tryz.prog ops Q rest (a.put o.dst v') w'):wpList Tryz.prog ops Q (o :: rest) a w:=by
 refine wpList_plain hgd fun K hK=>?_
 obtain⟨v',w',hr,h1,h2⟩:=ztz n v xs w o.type hrow hxl X u ys hu hyl hn
 unfold Oper.wp execOp
 simp only[ho,resolve,invoke,builtin,Sem.run_bind,Sem.run_pure,Result.andThen_ok,List.map_toArray,List.map_cons,List.map_nil,hs,hx,hr]
 exact hK _ _ (k v' w' h1 h2)
end
def ztE (n:Nat) (xs:List Str):Value->World->Prop:=fun v W=>∃A m c,v=.slice A m c∧zqY W n (.slice A m c) xs
theorem ztE.of {n:Nat} {xs:List Str} {v:Value} {W:World} (h:zqY W n v xs):ztE n xs v W:=by
 obtain⟨A,c,rfl,_⟩:=h.form
 exact⟨A,_,c,rfl,h⟩
theorem Sl.oneS {X:Nat->Prop} {w:World} {b:Nat} {E:TypeId} {s:Str} (h:Bx w b E (rowS [s])) (hX:¬X b) (hs:s.size≤maxLen):Sl X w 1 StrC (.slice (some ⟨b,0,none⟩) 1 1) [s]:=by
 refine⟨_,_,rfl,Nat.le_refl _,by unfold maxLen;simp,fun h0=>⟨b,0,rfl,hX,fun k hk=>⟨[.string s],?_,rfl,fun j hj=>?_⟩⟩⟩
 ·have hk0:k=0:=by simpa using hk
  subst hk0
  exact⟨rfl,hs⟩
 ·have hk0:k=0:=by simpa using hk
  obtain rfl:j=0:=by omega
  subst hk0
  rw[h.cell]
  rfl
end Go.Proofs.YtmeaibjmnjcdfaaGreatDoor
