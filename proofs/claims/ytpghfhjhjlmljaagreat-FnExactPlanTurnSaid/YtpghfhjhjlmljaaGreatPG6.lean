/- A struct is stored whole to its place in a row. -/
import Derived.Test.YtpghfhjhjlmljaaGreatPG5
namespace Go.Proofs.YtpghfhjhjlmljaaGreat
open Go.RowKit
theorem zzO {κ:Type} {C:κ->List Value} {sz:Nat} (hC:∀k,(C k).length=sz) (k':κ):∀(ks:List κ) (i:Nat),i<ks.length->(ks.flatMap C).take (i * sz) ++ C k' ++ (ks.flatMap C).drop (i * sz+sz)=(ks.set i k').flatMap C
 | k :: ks,0,_=>by
  have e:sz=(C k).length:=(hC k).symm
  simp only[List.flatMap_cons,Nat.zero_mul,List.take_zero,List.nil_append,Nat.zero_add,lz1]
  rw[e,List.drop_left]
 | k :: ks,i+1,h=>by
  have ih:=zzO hC k' ks i (by simpa using h)
  have e:(i+1) * sz=(C k).length+i * sz:=by rw[hC,Nat.add_mul];omega
  simp only[List.flatMap_cons,lz2]
  rw[e,List.take_length_add_append,Nat.add_assoc,List.drop_length_add_append,List.append_assoc,List.append_assoc,<-ih]
  simp only[List.append_assoc]
theorem wpList_store_row {P:Program} {w:World} {ops:Array Oper} {rest:List Oper} {o:Oper} {a:Act} {Q:Exit->Act->World->Prop} (hgd:o.guard=none) (t:TypeId) (x y:Operand) (ho:o.op=.store t x y) (sz:Nat) (hsz:(P.info? t).map (·.size)=some sz)
  (g n c i:Nat) (E:TypeId) (rows:List (Raw sz)) (cs:List Value) (hp:a.eval x=.pointer (some ⟨g,i * sz,none⟩)) (hv:a.eval y=.agg cs.toArray) (hrow:RowV w E sz (.slice (some ⟨g,0,none⟩) n c) n (rawL rows)) (hn:rows.length=n) (hi:i<rows.length) (hl:cs.length=sz) (h1:∀v∈cs,v.oneCell'=true)
  (h:∀w',RowV w' E sz (.slice (some ⟨g,0,none⟩) n c) n (rawL (rows.set i ⟨cs,hl⟩))->Fr (fun b=>b=g) w w'->wpList P ops Q rest (a.put o.dst undef) w'):wpList P ops Q (o :: rest) a w:=by
 refine wpList_plain hgd fun K hK=>?_
 obtain⟨g',c',cur,he,hc1,hc2,hB,hcs,htk,_⟩:=hrow.at_ (by omega)
 cases he
 have hle:i * sz+sz≤n * sz:=by
  have:(i+1) * sz≤n * sz:=Nat.mul_le_mul_right _ (by omega)
  rw[Nat.add_mul] at this
  omega
 have hle2:n * sz≤c * sz:=Nat.mul_le_mul_right _ hc1
 have hst:=run_storeCells_at P g (i * sz) E cs 0 cur w hB (by omega) h1
 simp only[Nat.add_zero] at hst
 have hrun:(Instr.storeAt t (.pointer (some ⟨g,i * sz,none⟩)) (.agg cs.toArray)).run P w=.ok () (w.setRow g (cur.toList.take (i * sz) ++ cs ++ cur.toList.drop (i * sz+cs.length)).toArray):=by
  cases hq:P.info? t with
  | none=>simp[hq] at hsz
  | some i'=>
   have hi:i'.size=sz:=by simpa[hq] using hsz
   simp[Instr.storeAt,Instr.sureAddr,storeVar,sizeOf,typeInfo,hq,hi,Value.cells,hl,hst]
 have hB2:Bx (w.setRow g (cur.toList.take (i * sz) ++ cs ++ cur.toList.drop (i * sz+cs.length)).toArray) g E (cur.toList.take (i * sz) ++ cs ++ cur.toList.drop (i * sz+cs.length)).toArray:=setRow_heap w g cur _ E (0,0) hB
 unfold Oper.wp
 simp only[execOp,ho,hp,hv,Sem.run_bind,hrun,Result.andThen_ok,Sem.run_pure]
 refine hK _ _ (h _ (.inl ⟨by rw[zqD,List.length_set,hn],.inr ⟨g,c,_,rfl,Nat.zero_le _,hB2,hc1,hc2,?_,?_⟩⟩) ⟨rfl,rfl,rfl,by simp[World.setRow],fun k hk hn=>setRow_other w g k _ (fun e=>hn e)⟩)
 ·simp only[List.size_toArray,List.length_append,List.length_take,List.length_drop,Array.length_toList]
  omega
 ·have e2:cur.toList=rawL rows ++ cur.toList.drop (n * sz):=by rw[<-htk,List.take_append_drop]
  have hrl:(rawL rows).length=n * sz:=by rw[zqD,hn]
  have e3:=zzO (C:=fun k:Raw sz=>k.1) (fun k=>k.2) ⟨cs,hl⟩ rows i hi
  simp only at e3
  have e4:cur.toList.take (i * sz)=(rawL rows).take (i * sz):=by rw[e2,List.take_append_of_le_length (by omega)]
  have e5:cur.toList.drop (i * sz+sz)=(rawL rows).drop (i * sz+sz) ++ cur.toList.drop (n * sz):=by
   have:=congrArg (List.drop (i * sz+sz)) e2
   rwa [List.drop_append_of_le_length (by omega)] at this
  rw[hl,e4,e5,<-List.append_assoc]
  unfold rawL at hrl ⊢
  rw[e3,List.take_append_of_le_length (by rw[zqA (C:=fun k:Raw sz=>k.1) (fun k=>k.2),List.length_set,hn];exact Nat.le_refl _)]
  refine List.take_of_length_le ?_
  rw[zqA (C:=fun k:Raw sz=>k.1) (fun k=>k.2),List.length_set,hn]
  exact Nat.le_refl _
abbrev Tri (α:Type) (sz:Nat):=Raw sz×(Nat->Prop)×α
structure OwnQ {α:Type} (sz:Nat) (R:OwnR α) (ts:List (Tri α sz)) (w:World) (Y:Nat->Prop) (v:Value):Prop where
 own:∀q,zcP v=some q->Y q
 sub:∀t∈ts,∀b,t.2.1 b->Y b∧b<w.heap.size∧zcP v≠some b
 apart:ts.Pairwise fun t u=>∀b,t.2.1 b->¬u.2.1 b
 el:∀t∈ts,R w t.2.1 t.1.1 t.2.2
section
variable {α:Type} {E:TypeId} {sz:Nat} {R:OwnR α} {rows:List (Raw sz)} {Ys:Nat->Nat->Prop} {w w':World} {X Y:Nat->Prop} {v v':Value} {xs:List α} {ts:List (Tri α sz)}
theorem OwnL.tri (h:OwnL E sz R w Y v xs):∃ts:List (Tri α sz),ts.map (·.2.2)=xs∧RowV w E sz v xs.length (rawL (ts.map (·.1)))∧OwnQ sz R ts w Y v:=by
 obtain⟨rows,Ys,h⟩:=h
 let f:Fin xs.length->Tri α sz:=fun i=>(rows[i.1]'(by rw[h.len];exact i.2),Ys i.1,xs[i.1])
 have hm:∀t∈List.ofFn f,∃i:Fin xs.length,t=f i:=fun t ht=>by
  obtain⟨i,rfl⟩:=List.mem_ofFn.1 ht
  exact⟨i,rfl⟩
 have e1:(List.ofFn f).map (·.1)=rows:=List.ext_getElem (by simp[h.len]) (fun i h1 h2=>by simp[f])
 refine⟨List.ofFn f,List.ext_getElem (by simp) (fun i h1 h2=>by simp[f]),by rw[e1];exact h.row,h.own,fun t ht b hb=>?_,?_,fun t ht=>?_⟩
 ·obtain⟨i,rfl⟩:=hm t ht
  exact h.sub i.1 b i.2 hb
 ·rw[List.pairwise_iff_getElem]
  intro i j h1 h2 hij b hb
  simp only[List.getElem_ofFn,f] at hb ⊢
  exact h.apart i j b (by simpa using h1) (by simpa using h2) (by omega) hb
 ·obtain⟨i,rfl⟩:=hm t ht
  exact h.el i.1 (by rw[h.len];exact i.2) i.2
theorem OwnQ.ownL (h:OwnQ sz R ts w Y v) (hr:RowV w E sz v ts.length (rawL (ts.map (·.1)))):OwnL E sz R w Y v (ts.map (·.2.2)):=by
 refine⟨ts.map (·.1),fun i b=>∃h:i<ts.length,ts[i].2.1 b,by simp,by rw[List.length_map];exact hr,h.own,fun i b _ hb=>?_,fun i j b _ _ hij hb hc=>?_,fun i h1 h2=>?_⟩
 ·obtain⟨hi,hb⟩:=hb
  exact h.sub _ (List.getElem_mem hi) b hb
 ·obtain⟨hi,hb⟩:=hb
  obtain⟨hj,hc⟩:=hc
  have hp:=List.pairwise_iff_getElem.1 h.apart
  rcases Nat.lt_or_gt_of_ne hij with h9|h9
  ·exact hp i j hi hj h9 b hb hc
  ·exact hp j i hj hi h9 b hc hb
 ·have hi:i<ts.length:=by simpa using h2
  have e:(fun b=>∃h:i<ts.length,ts[i].2.1 b)=ts[i].2.1:=funext fun b=>propext ⟨fun⟨_,h⟩=>h,fun h=>⟨hi,h⟩⟩
  rw[e,List.getElem_map,List.getElem_map]
  exact h.el _ (List.getElem_mem hi)
theorem OwnQ.keep (hR:zzF R) (h:OwnQ sz R ts w Y v) (hf:Fr (fun b=>zcP v=some b) w w'):OwnQ sz R ts w' Y v:=
 ⟨h.own,fun t ht b hb=>let ⟨h1,h2,h3⟩:=h.sub t ht b hb;⟨h1,Nat.lt_of_lt_of_le h2 hf.size,h3⟩,h.apart,fun t ht=>hR _ _ _ _ _ _ (h.el t ht) hf (fun b hb _ e=>(h.sub t ht b hb).2.2 e)⟩
theorem OwnQ.keep0 (hR:zzF R) (h:OwnQ sz R ts w Y v) (hf:Fr No w w'):OwnQ sz R ts w' Y v:=h.keep hR hf.of0
theorem OwnQ.filter (h:OwnQ sz R ts w Y v) (K:Tri α sz->Bool) (hv:∀q,zcP v'=some q->zcP v=some q):OwnQ sz R (ts.filter K) w Y v':=
 ⟨fun q hq=>h.own q (hv q hq),fun t ht b hb=>let ⟨h1,h2,h3⟩:=h.sub t (List.mem_filter.1 ht).1 b hb;⟨h1,h2,fun e=>h3 (hv b e)⟩,h.apart.filter _,fun t ht=>h.el t (List.mem_filter.1 ht).1⟩
end
structure Kept {α:Type} {sz:Nat} (K:Tri α sz->Bool) (ts:List (Tri α sz)) (i j:Nat) (rows:List (Raw sz)):Prop where
 len:rows.length=ts.length
 pre:rows.take i=((ts.take j).filter K).map (·.1)
 num:i=((ts.take j).filter K).length
 post:rows.drop j=(ts.drop j).map (·.1)
section
variable {α:Type} {sz:Nat} {K:Tri α sz->Bool} {ts:List (Tri α sz)} {i j:Nat} {rows:List (Raw sz)}
theorem Kept.le (h:Kept K ts i j rows) (hj:j≤ts.length):i≤j:=by
 have:=List.length_filter_le K (ts.take j)
 rw[List.length_take] at this
 have:=h.num
 omega
theorem Kept.at_ (h:Kept K ts i j rows) (hj:j<ts.length):rows[j]'(by rw[h.len];exact hj)=ts[j].1:=by
 have e:=h.post
 rw[List.drop_eq_getElem_cons (by rw[h.len];exact hj),List.drop_eq_getElem_cons hj,List.map_cons] at e
 exact(List.cons.inj e).1
theorem Kept.drop (h:Kept K ts i j rows) (hj:j<ts.length) (hK:K ts[j]=false):Kept K ts i (j+1) rows:=by
 have e:=h.post
 rw[List.drop_eq_getElem_cons (by rw[h.len];exact hj),List.drop_eq_getElem_cons hj,List.map_cons] at e
 have e2:(ts.take (j+1)).filter K=(ts.take j).filter K:=by
  rw[List.take_succ_eq_append_getElem hj,List.filter_append,List.filter_cons_of_neg (by simp[hK]),List.filter_nil,List.append_nil]
 exact⟨h.len,by rw[e2];exact h.pre,by rw[e2];exact h.num,(List.cons.inj e).2⟩
theorem Kept.move (h:Kept K ts i j rows) (hj:j<ts.length) (hK:K ts[j]=true):Kept K ts (i+1) (j+1) (rows.set i ts[j].1):=by
 have hle:=h.le (by omega)
 have e:=h.post
 rw[List.drop_eq_getElem_cons (by rw[h.len];exact hj),List.drop_eq_getElem_cons hj,List.map_cons] at e
 have e2:(ts.take (j+1)).filter K=(ts.take j).filter K ++ [ts[j]]:=by
  rw[List.take_succ_eq_append_getElem hj,List.filter_append,List.filter_cons_of_pos (by simp[hK]),List.filter_nil]
 have hir:i<rows.length:=by rw[h.len];omega
 refine⟨by rw[List.length_set];exact h.len,?_,by rw[e2,List.length_append,List.length_singleton,<-h.num],?_⟩
 ·rw[e2,List.map_append,<-h.pre,List.take_succ_eq_append_getElem (by rw[List.length_set];exact hir),List.getElem_set_self]
  congr 1
  rw[List.take_set_of_le (Nat.le_refl _)]
 ·rw[List.drop_set_of_lt (by omega)]
  exact(List.cons.inj e).2
theorem Kept.start (hi:i<ts.length) (hA:∀t∈ts.take i,K t=true) (hK:K ts[i]=false):Kept K ts i (i+1) (ts.map (·.1)):=by
 have e:(ts.take (i+1)).filter K=ts.take i:=by
  rw[List.take_succ_eq_append_getElem hi,List.filter_append,List.filter_cons_of_neg (by simp[hK]),List.filter_nil,List.append_nil]
  exact List.filter_eq_self.2 hA
 exact⟨by simp,by rw[e,List.map_take],by rw[e,List.length_take];omega,by rw[List.map_drop]⟩
theorem Kept.all (h:Kept K ts i ts.length rows):rows.take i=(ts.filter K).map (·.1)∧i=(ts.filter K).length:=by
 have h1:=h.pre
 have h2:=h.num
 rw[List.take_length] at h1 h2
 exact⟨h1,h2⟩
end
theorem zzP {z:Array Value} (hz:∀u∈z.toList,u.oneCell'=true) (h0:0<z.size) (n:Nat):∀u∈(Builtin.zeroCells z n).toList,u.oneCell'=true:=by
 intro u hu
 unfold Builtin.zeroCells at hu
 rw[Array.toList_map,List.mem_map] at hu
 obtain⟨k,_,rfl⟩:=hu
 have hk:k % z.size<z.size:=Nat.mod_lt _ h0
 rw[getElem!_pos z (k % z.size) hk]
 exact hz _ (by simp)
theorem zzQ {P:Program} {w:World} {ops:Array Oper} {rest:List Oper} {o:Oper} {a:Act} {Q:Exit->Act->World->Prop} (hgd:o.guard=none) (S E:TypeId) (hu:P.underlying S=some (.slice E)) (s:Operand) (ho:o.op=.call { callee:=.builtin .clear,args:=#[s],argTypes:=#[S] })
  (sz g n c c' i m:Nat) (rows:List (Raw sz)) (hs:a.eval s=.slice (some ⟨g,i * sz,none⟩) m c') (hm:i+m=n) (hm0:0<m) (hrow:RowV w E sz (.slice (some ⟨g,0,none⟩) n c) n (rawL rows)) (hn:rows.length=n)
  (z:Value) (hz:∀w,(zeroValue E).run P w=.ok z w) (hzs:z.cells.size=sz) (h0:0<sz) (hz1:∀u∈z.cells.toList,u.oneCell'=true)
  (h:∀w',RowV w' E sz (.slice (some ⟨g,0,none⟩) i c) i (rawL (rows.take i))->Fr (fun b=>b=g) w w'->wpList P ops Q rest (a.put o.dst (.tuple #[])) w'):wpList P ops Q (o :: rest) a w:=by
 refine wpList_plain hgd fun K hK=>?_
 obtain⟨g',c9,cur,he,hc1,hc2,hB,hcs,htk,_⟩:=hrow.at_ (by omega)
 cases he
 have hle:i * sz+m * sz=n * sz:=by rw[<-Nat.add_mul,hm]
 have hle2:n * sz≤c * sz:=Nat.mul_le_mul_right _ hc1
 have hzl:(Builtin.zeroCells z.cells m).toList.length=m * sz:=by rw[Array.length_toList,size_zeroCells,hzs]
 have hst:=run_storeCells_at P g (i * sz) E (Builtin.zeroCells z.cells m).toList 0 cur w hB (by omega) (zzP hz1 (by omega) m)
 simp only[Nat.add_zero] at hst
 obtain⟨m1,rfl⟩:∃m1,m=m1+1:=⟨m-1,by omega⟩
 have hrun:(Builtin.clear_ #[S] o.type #[.slice (some ⟨g,i * sz,none⟩) (m1+1) c']).run P w=.ok (.tuple #[]) (w.setRow g (cur.toList.take (i * sz) ++ (Builtin.zeroCells z.cells (m1+1)).toList ++ cur.toList.drop (i * sz+(Builtin.zeroCells z.cells (m1+1)).toList.length)).toArray):=by
  simp[Builtin.clear_,run_underlying hu,hz,hst]
 have hB2:=setRow_heap w g cur (cur.toList.take (i * sz) ++ (Builtin.zeroCells z.cells (m1+1)).toList ++ cur.toList.drop (i * sz+(Builtin.zeroCells z.cells (m1+1)).toList.length)).toArray E (0,0) hB
 unfold Oper.wp
 simp only[execOp,ho,resolve,invoke,builtin,Sem.run_bind,Sem.run_pure,Result.andThen_ok,List.map_toArray,List.map_cons,List.map_nil,hs,hrun]
 refine hK _ _ (h _ (.inl ⟨by rw[zqD,List.length_take];congr 1;omega,.inr ⟨g,c,_,rfl,Nat.zero_le _,hB2,by omega,hc2,?_,?_⟩⟩) ⟨rfl,rfl,rfl,by simp[World.setRow],fun k hk hn=>setRow_other w g k _ (fun e=>hn e)⟩)
 ·simp only[List.size_toArray,List.length_append,List.length_take,List.length_drop,Array.length_toList] at hzl ⊢
  omega
 ·have e4:cur.toList.take (i * sz)=rawL (rows.take i):=by
   have h1:cur.toList.take (i * sz)=(cur.toList.take (n * sz)).take (i * sz):=by rw[List.take_take];congr 1;omega
   rw[h1,htk]
   have h2:rawL rows=rawL (rows.take i) ++ rawL (rows.drop i):=by
    unfold rawL
    rw[<-List.flatMap_append,List.take_append_drop]
   have h3:(rawL (rows.take i)).length=i * sz:=by rw[zqD,List.length_take];congr 1;omega
   rw[h2,<-h3,List.take_left]
  have h3:(rawL (rows.take i)).length=i * sz:=by rw[zqD,List.length_take];congr 1;omega
  rw[e4,List.append_assoc,<-h3,List.take_left]
end Go.Proofs.YtpghfhjhjlmljaaGreat
