/- A map from references (a keeper's number, a name) to numbers, as a function. -/
import Derived.Test.YtmeaibjmnjcdfaaGreatDoorZG1
import Derived.Test.YtmeaibjmnjcdfaaGreatDoorRows
import Derived.Maps.OwnSet
import Derived.Maps.Views
import Derived.DeepKeys5
import Derived.KernelRfl
namespace Go.Proofs.YtmeaibjmnjcdfaaGreatDoor
open Go.RowKit Go.Maps
theorem zbW:laidOutB Tryz.prog=true:=by kernel_rfl
theorem zbX:Keyed Tryz.prog 183:=
 Keyed.of_law (deep_law_gate zbW (of_decide_eq_true (by kernel_rfl)) (of_decide_eq_true (by kernel_rfl)) (by kernel_rfl) (by kernel_rfl))
def zbY (k:Int) (s:Str):Lit:=.string (keyBytes [.int .i64 k,.string s.data.toList])
theorem zbZ {k:Int} {s:Str} (wk:(Lit.int .i64 k).wf=true) (hs:s.size≤maxLen):keyOf Tryz.prog 183 (.agg #[.int .i64 k,.string s])=some (zbY k s):=by
 have hkt:Tryz.prog.keyType 183=true:=by kernel_rfl
 have c2:Tryz.prog.cellsOf 183=2:=by kernel_rfl
 have c3:Tryz.prog.cellsOf 3=1:=by kernel_rfl
 have c9:Tryz.prog.cellsOf 9=1:=by kernel_rfl
 obtain⟨m,hm⟩:∃m,Tryz.prog.types.size=m+1:=⟨Tryz.prog.types.size-1,by
  have:0<Tryz.prog.types.size:=of_decide_eq_true (by kernel_rfl)
  omega⟩
 unfold keyOf
 simp only[Tryz.underlying183]
 rw[if_pos (by simp[hkt,Value.formed,Tryz.underlying183,c2]),hm]
 simp[Program.keyLits,Tryz.underlying183,Tryz.underlying3,Tryz.underlying9,c2,c3,c9,wk,hs,Value.cells,zbY]
theorem zb0 {k k':Int} {s s':Str} (wk:(Lit.int .i64 k).wf=true) (wk':(Lit.int .i64 k').wf=true) (hs:s.size≤maxLen) (hs':s'.size≤maxLen) (h:zbY k s=zbY k' s'):k=k'∧s=s':=by
 have h1:=zbZ wk hs
 have h2:=zbZ wk' hs'
 rw[<-h] at h2
 have:=zbX.inj h1 h2
 simpa using this
def MapF (w:World) (b n:Nat) (f:Int->Str->Option Int):Prop:=
 ∃D:DataW Unit,w.ownsMap Tryz.prog 183 (plainElem Tryz.prog 3) b n D∧IsMap D ∧
  ∀k s,(Lit.int .i64 k).wf=true->s.size≤maxLen->Maps.has D (zbY k s)=(f k s).isSome∧D.atKey (zbY k s) (.lit (.int .i64 0))=.lit (.int .i64 ((f k s).getD 0))
def upd (f:Int->Str->Option Int) (k:Int) (s:Str) (v:Int):Int->Str->Option Int:=fun k' s'=>if k'=k∧s'=s then some v else f k' s'
section
variable {X:Nat->Prop} {w w':World} {b n:Nat} {f g:Int->Str->Option Int}
theorem MapF.lt (h:MapF w b n f):b<w.heap.size:=let ⟨_,h,_⟩:=h;h.lt
theorem MapF.keepX (h:MapF w b n f) (hf:Fr X w w') (hn:¬X b):MapF w' b n f:=by
 obtain⟨D,⟨es,clock,hb,h1,h2,h3⟩,hI,hv⟩:=h
 have hlt:b<w.heap.size:=(Array.getElem?_eq_some_iff.1 hb).1
 exact⟨D,⟨es,clock,(hf.block b hlt hn).trans hb,h1,h2,h3⟩,hI,hv⟩
theorem MapF.keep (h:MapF w b n f) (hf:Fr No w w'):MapF w' b n f:=h.keepX hf (fun h=>h)
theorem MapF.congr (h:MapF w b n f) (he:∀k s,f k s=g k s):MapF w b n g:=by
 obtain⟨D,h1,h2,h3⟩:=h
 exact⟨D,h1,h2,fun k s hk hs=>by rw[<-he];exact h3 k s hk hs⟩
theorem MapF.mono {m:Nat} (h:MapF w b n f) (hm:n≤m):MapF w b m f:=by
 obtain⟨D,h1,h2,h3⟩:=h
 exact⟨D,h1.mono hm,h2,h3⟩
theorem MapF.made (w:World):MapF (w.alloc (.map #[] 0)) w.heap.size 0 (fun _ _=>none):=
 ⟨.map [],World.ownsMap_made _ _ _ _,⟨[],rfl⟩,fun _ _ _ _=>⟨rfl,rfl⟩⟩
theorem zb1 (w:World):(zeroValue 3).run Tryz.prog w=.ok (.int .i64 0) w:=by kernel_rfl
theorem MapF.look_ok (h:MapF w b n f) {k:Int} {s:Str} (wk:(Lit.int .i64 k).wf=true) (hs:s.size≤maxLen):
  (Instr.lookup 129 (.map (some b)) (.agg #[.int .i64 k,.string s]) true).run Tryz.prog w=.ok (.tuple #[.int .i64 ((f k s).getD 0),.bool (f k s).isSome]) w:=by
 obtain⟨D,h1,_,h3⟩:=h
 obtain⟨v,ps,hrun,hv⟩:=h1.look_ok zbX Tryz.underlying129 (zb1 w) (plainElem_int Tryz.underlying3 (by decide)) (zbZ wk hs)
 obtain⟨e1,e2⟩:=h3 k s wk hs
 obtain⟨c,rfl,hc,_⟩:=plainElem_int_inv Tryz.underlying3 hv
 rw[e2] at hc
 simp only[Prod.mk.injEq,DataW.lit.injEq,Lit.int.injEq,true_and] at hc
 rw[hrun,e1,hc.1]
theorem MapF.put (h:MapF w b n f) (hn:n<maxLen) {k v:Int} {s:Str} (wk:(Lit.int .i64 k).wf=true) (hs:s.size≤maxLen) (wv:(Lit.int .i64 v).wf=true):
  ∃w',(Instr.mapUpdate 129 (.map (some b)) (.agg #[.int .i64 k,.string s]) (.int .i64 v)).run Tryz.prog w=.ok () w'∧MapF w' b (n+1) (upd f k s v)∧w.grownBy w' (some b):=by
 obtain⟨D,h1,hI,h3⟩:=h
 obtain⟨w',hrun,h4,h5⟩:=h1.update zbX Tryz.underlying129 hn (zbZ wk hs) (plainElem_int Tryz.underlying3 wv)
 have hkl:=zbX.key (zbZ wk hs)
 refine⟨w',hrun,⟨_,h4,?_,fun k' s' wk' hs'=>?_⟩,h5⟩
 ·obtain⟨es,rfl⟩:=hI
  exact⟨_,rfl⟩
 ·unfold upd
  by_cases he:k'=k∧s'=s
  ·obtain⟨rfl,rfl⟩:=he
   rw[if_pos ⟨rfl,rfl⟩]
   exact⟨has_put_same hI hkl _,atKey_put_same hI hkl _ _⟩
  ·rw[if_neg he]
   have hne:zbY k' s'≠zbY k s:=fun h=>he (zb0 wk' wk hs' hs h)
   rw[has_put_other hne,atKey_put_other hne]
   exact h3 k' s' wk' hs'
end
theorem zb2 {w:World} {ops:Array Oper} {rest:List Oper} {o:Oper} {a:Act} {Q:Exit->Act->World->Prop} {b n:Nat} {f:Int->Str->Option Int}
  (hg:o.guard=none) (m x v:Operand) (hop:o.op=Op.mapUpdate 129 m x v) (hm:a.eval m=.map (some b)) (h:MapF w b n f) (hn:n<maxLen) {k c:Int} {s:Str}
  (hx:a.eval x=.agg #[.int .i64 k,.string s]) (hv:a.eval v=.int .i64 c) (wk:(Lit.int .i64 k).wf=true) (hs:s.size≤maxLen) (wv:(Lit.int .i64 c).wf=true)
  (hK:∀w',MapF w' b (n+1) (upd f k s c)->w.grownBy w' (some b)->wpList Tryz.prog ops Q rest (a.put o.dst undef) w'):
  wpList Tryz.prog ops Q (o :: rest) a w:=by
 refine wpList_plain hg fun K' hK'=>?_
 obtain⟨w',hrun,r1,r2⟩:=h.put hn wk hs wv
 unfold Oper.wp
 simp[execOp,hop,hm,hx,hv,hrun,Result.andThen]
 exact hK' _ _ (hK w' r1 r2)
theorem zb3 {k:Int} (h0:0≤k) (h1:k≤9223372036854775807):(Lit.int .i64 k).wf=true:=by
 simp[Lit.wf,IntKind.min,IntKind.max,IntKind.signed,IntKind.bits];omega
end Go.Proofs.YtmeaibjmnjcdfaaGreatDoor
