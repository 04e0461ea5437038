/- Appends of texts, whatever is appended; the size of an instruction's text. -/
import Derived.Test.YtmeaibjmnjcdfaaGreatVG35
import Derived.Test.YtmeaibjmnjcdfaaGreatVG36
namespace Go.Proofs.YtmeaibjmnjcdfaaGreat
open Go.RowKit
section
variable {P:Program} (w:World)
theorem zty (t ty e:TypeId) (i:TypeInfo) (ht:P.underlying t=some (.slice e)) (hi:P.info? e=some i) (A B:Option Addr) (n c cb:Nat) (hle:n≤c):
  (Builtin.append_ #[t,t] ty #[.slice A n c,.slice B 0 cb]).run P w=.ok (.slice A n c) w:=by
 have hl:∀b:Addr,(loadCells b 0).run P w=.ok #[] w:=fun b=>by simp[loadCells,loadCellsFrom]
 cases A<;>cases B<;>simp[Builtin.append_,run_underlying ht,sizeOf,typeInfo,hi,Builtin.lenOf,Builtin.firstCells,hl,storeCells,hle]
end
theorem zqY.form {w:World} {n:Nat} {v:Value} {xs:List Str} (h:zqY w n v xs):∃A c,v=.slice A xs.length c∧xs.length≤c:=by
 obtain⟨A,c,h1,h2,_⟩:=h.1.form
 exact⟨A,c,h1,h2⟩
theorem zqY.empty (w:World) (n:Nat) (A:Addr):zqY w n (.slice (some A) 0 0) []:=⟨.inr ⟨rfl,rfl,_,rfl⟩,fun q hq=>by rw[zcQ,if_pos rfl] at hq;cases hq⟩
theorem ztz (n:Nat) (v:Value) (xs:List Str) (w:World) (ty:TypeId) (hrow:zqY w n v xs) (hxl:xs.length≤50000) (X:Nat->Prop) (u:Value) (ys:List Str) (hu:Sl X w 1 StrC u ys) (hyl:ys.length≤50000) (hn:n≤w.heap.size):
  ∃v' w',(Builtin.append_ #[97,97] ty #[v,u]).run Tryz.prog w=.ok v' w'∧zqY w' n v' (xs ++ ys)∧Fr (fun b=>n≤b) w w':=by
 obtain⟨i0,z,hi,hz0,hz1,hz2,hz3⟩:=zqX.info
 obtain⟨A,c,rfl,hc⟩:=hrow.form
 obtain⟨B,cb,rfl,_,_⟩:=hu.form
 rcases Nat.eq_zero_or_pos ys.length with h0|h0
 ·obtain rfl:=List.eq_nil_of_length_eq_zero h0
  exact⟨_,w,zty w _ ty _ i0 zqX.und hi A B xs.length c cb hc,by simpa using hrow,Fr.refl _ _⟩
 ·obtain⟨b,off,cs,rfl,_,_,_⟩:=hu.cells h0
  have hraw:=hu.strRaws
  have hl9:(ys.map zqT).length=ys.length:=List.length_map ..
  rw[<-hl9] at hraw ⊢
  obtain⟨g,c',w',hr,h1,h2,h3,h4⟩:=zcR (P:=Tryz.prog) w 97 ty 9 i0 z 1 16 zqX.und hi hz0 hz1 hz2 hz3 (by decide) _ xs.length (rawL (xs.map zqT)) hrow.1 ⟨b,off,none⟩ (ys.map zqT).length cb (rawL (ys.map zqT)) (zqD _) (hraw.rawNews (by decide)) (zqU ys) (by omega) (by unfold maxLen;omega) (by omega)
  have hg:n≤g:=h4.elim (fun h=>hrow.2 g h) (fun h=>by omega)
  refine⟨_,w',hr,⟨?_,fun q hq=>?_⟩,h3.mono (fun b _ hb=>hrow.2 b hb)⟩
  ·rw[List.length_append,List.map_append]
   rw[hl9] at h1 ⊢
   unfold rawL at h1 ⊢
   rw[List.flatMap_append]
   exact h1
  ·rw[zcQ] at hq
   split at hq
   ·cases hq
   ·cases hq;exact hg
section
variable {w:World} {a:Act} {o:Oper} {ops:Array Oper} {Q:Exit->Act->World->Prop} {rest:List Oper}
theorem ztA (hgd:o.guard=none) (s x:Operand) (ho:o.op=.call { callee:=.builtin .append,args:=#[s,x],argTypes:=#[97,97] })
  (n:Nat) (v:Value) (xs:List Str) (hs:a.eval s=v) (hrow:zqY w n v xs) (hxl:xs.length≤50000) (X:Nat->Prop) (u:Value) (ys:List Str) (hx:a.eval x=u) (hu:Sl X w 1 StrC u ys) (hyl:ys.length≤50000) (hn:n≤w.heap.size)
  (k:∀v' w',zqY w' n v' (xs ++ ys)->Fr (fun b=>n≤b) w w'->wpList Tryz.prog ops Q rest (a.put o.dst v') w'):wpList Tryz.prog ops Q (o :: rest) a w:=by
 refine wpList_plain hgd fun K hK=>?_
 obtain⟨v',w',hr,h1,h2⟩:=ztz n v xs w o.type hrow hxl X u ys hu hyl hn
 unfold Oper.wp execOp
 simp only[ho,resolve,invoke,builtin,Sem.run_bind,Sem.run_pure,Result.andThen_ok,List.map_toArray,List.map_cons,List.map_nil,hs,hx,hr]
 exact hK _ _ (k v' w' h1 h2)
end
theorem ztB {W:World} {a':Act} {o:Oper} {s x:Operand} {N:List PanicEntry->World->Prop} {R:Value->World->Prop} (ho:o.op=.call { callee:=.builtin .append,args:=#[s,x],argTypes:=#[97,97] })
  (n:Nat) (v:Value) (xs:List Str) (hs:a'.eval s=v) (hrow:zqY W n v xs) (hxl:xs.length≤50000) (X:Nat->Prop) (u:Value) (ys:List Str) (hx:a'.eval x=u) (hu:Sl X W 1 StrC u ys) (hyl:ys.length≤50000) (hn:n≤W.heap.size)
  (k:∀v' W',zqY W' n v' (xs ++ ys)->Fr (fun b=>n≤b) W W'->R v' W'):zlP Tryz.prog N R ((execOp a'.eval o).run Tryz.prog W):=by
 obtain⟨v',w',hr,h1,h2⟩:=ztz n v xs W o.type hrow hxl X u ys hu hyl hn
 unfold execOp
 simp only[ho,resolve,invoke,builtin,Sem.run_bind,Sem.run_pure,Result.andThen_ok,List.map_toArray,List.map_cons,List.map_nil,hs,hx,hr,zlP]
 exact k v' w' h1 h2
def litE:Value->World->Prop:=fun v _=>∃b,v=.slice (some ⟨b,0,none⟩) 0 0
theorem ztC:MonP litE:=fun _ _ _ h _=>h
def oneE (s:Str):Value->World->Prop:=fun v W=>∃b,v=.slice (some ⟨b,0,none⟩) 1 1∧Bx W b 9 (rowS [s])
theorem ztD (s:Str):MonP (oneE s):=fun _ _ _ ⟨b,h1,h2⟩ hf=>⟨b,h1,h2.keep hf⟩
def ztE (n:Nat) (xs:List Str):Value->World->Prop:=fun v W=>∃A m c,v=.slice A m c∧zqY W n (.slice A m c) xs
theorem ztF (n:Nat) (xs:List Str):MonP (ztE n xs):=fun _ _ _ ⟨A,m,c,h1,h2⟩ hf=>⟨A,m,c,h1,h2.keep hf⟩
theorem ztE.of {n:Nat} {xs:List Str} {v:Value} {W:World} (h:zqY W n v xs):ztE n xs v W:=by
 obtain⟨A,c,rfl,_⟩:=h.form
 exact⟨A,_,c,rfl,h⟩
theorem zqY.cp {n m c:Nat} {A:Option Addr} {xs:List Str} {ks:List (Raw 1)} {W:World} (hk:ks=xs.map zqT) (hm:m=ks.length) (h:RowV W 9 1 (.slice A m c) m (rawL ks)) (hq:∀q,zcP (.slice A m c)=some q->n≤q):zqY W n (.slice A m c) xs:=by
 subst hk
 rw[List.length_map] at hm
 subst hm
 exact⟨h,hq⟩
theorem Sl.oneS {X:Nat->Prop} {w:World} {b:Nat} {E:TypeId} {s:Str} (h:Bx w b E (rowS [s])) (hX:¬X b) (hs:s.size≤maxLen):Sl X w 1 StrC (.slice (some ⟨b,0,none⟩) 1 1) [s]:=by
 refine⟨_,_,rfl,Nat.le_refl _,by unfold maxLen;simp,fun h0=>⟨b,0,rfl,hX,fun k hk=>⟨[.string s],?_,rfl,fun j hj=>?_⟩⟩⟩
 ·have hk0:k=0:=by simpa using hk
  subst hk0
  exact⟨rfl,hs⟩
 ·have hk0:k=0:=by simpa using hk
  obtain rfl:j=0:=by omega
  subst hk0
  rw[h.cell]
  rfl
theorem ztG (i:Ins) (h1:-100000≤i.a) (h2:i.a≤100000) (h3:i.name.size≤10) (h4:i.member.size≤10):(zqr i).length≤100:=by
 have hw:=zrz i.op.toNat
 have hn:insB i=true->(i.op=1∨i.op=2∨i.op=3∨i.op=11∨i.op=12∨i.op=13)->(numL i.a).length≤20:=fun hb ho=>by
  have h9:-10000<i.a∧i.a<10000:=by
   rcases zrA hb with h|h|h|h
   ·exact h.2
   ·omega
   ·omega
   ·omega
  unfold numL
  have:=zp7 (n:=i.a.natAbs) (by omega)
  split
  ·rw[List.length_cons];omega
  ·omega
 have e1:(Str.l i.name).length=i.name.size:=zkb _
 have e2:(Str.l i.member).length=i.member.size:=zkb _
 unfold zqr
 split
 ·rename_i hb
  split
  ·rename_i ho
   have:=hn hb ho
   simp only[List.length_append,List.length_cons];omega
  ·split
   ·simp only[List.length_append,List.length_cons];omega
   ·split
    ·simp only[List.length_append,List.length_cons];omega
    ·omega
 ·simp
end Go.Proofs.YtmeaibjmnjcdfaaGreat
