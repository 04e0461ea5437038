/- The reference's l1Words: the words of a text. -/
import Derived.Test.YtpghfhjhjlmljaaGreatPG8
import Derived.Test.YtpghfhjhjlmljaaGreatPG5
import Derived.WalkSpells
import Derived.WalkLawsBesides
set_option maxHeartbeats 2000000
set_option maxRecDepth 100000
namespace Go.Proofs.YtpghfhjhjlmljaaGreat
open Go.RowKit
def zqT (s:Str):Raw 1:=⟨[.string s],rfl⟩
theorem zqW {S E:TypeId} {z:Value} {sz bytes:Nat} (hu:Tryz.prog.underlying S=some (.slice E)) (h:(Tryz.prog.info? E).map (fun i=>(i.zero,i.size,i.bytes))=some (some z,sz,bytes)) (hz:z.cells.size=sz) (h0:0<sz) (hb:bytes≤1000):ElT S E sz bytes:=by
 obtain⟨i,h1,h2,h3,h4⟩:=info_parts h
 exact⟨hu,⟨i,z,h1,h2,h3,h4,hz⟩,h0,hb⟩
def zqY (w:World) (n:Nat) (v:Value) (xs:List Str):Prop:=RowV w 9 1 v xs.length (rawL (xs.map zqT))∧∀q,zcP v=some q->n≤q
theorem zqY.sl {w:World} {n:Nat} {v:Value} {xs:List Str} (h:zqY w n v xs) (hs:∀x∈xs,x.size≤maxLen):Sl (fun b=>b<n) w 1 StrC v xs:=by
 refine h.1.rawSl (by simp) (fun i h1 h2=>?_) (fun q hq=>by have:=h.2 q hq;omega)
 rw[List.getElem_map]
 exact⟨rfl,hs _ (List.getElem_mem h2)⟩
def zzR (E:TypeId) (sz:Nat) (ks:List (Raw sz)) (w:World) (e:Ending) (w':World):Prop:=∃A c,e=.returned (.slice A ks.length c)∧RowV w' E sz (.slice A ks.length c) ks.length (rawL ks)∧(∀q,zcP (.slice A ks.length c)=some q->w.heap.size≤q)∧Fr No w w'
theorem zzS {X:Nat->Prop} {w:World} {sz n c:Nat} {xs:List (Raw sz)} (h:Sl X w sz RawC (.slice none n c) xs):xs=[]:=by
 obtain⟨A',cap',he,_,_,h3⟩:=h
 rcases Nat.eq_zero_or_pos xs.length with h0|h0
 ·exact List.eq_nil_of_length_eq_zero h0
 ·obtain⟨b,off,hA,_⟩:=h3 h0
  cases he
  cases hA
theorem zzT:(Tryz.prog.info? 123).map (fun i=>(i.zero,i.size,i.bytes))=some (some (.agg #[.int .i64 0,.string ⟨#[]⟩]),2,24):=by kernel_rfl
theorem zzU:ElT 129 123 2 24:=zqW Tryz.underlying129 zzT rfl (by decide) (by decide)
theorem zzV (X:Nat->Prop) (v:Value) (ks:List (Raw 2)) (w:World) (h:Sl X w 2 RawC v ks) (hl:ks.length≤100000) (hone:OneC ks):
  Calls Tryz.prog 117 #[v] w (zzR 123 2 ks w):=by
 have hnil:∀(A:Option Addr) (n c:Nat) (w:World),(binOp .eql 129 (.slice A n c) (.slice none 0 0)).run Tryz.prog w=.ok (.bool A.isNone) w:=fun A n c w=>by
  simp[binOp,run_equal_slice_nil w 129 123 A n c Tryz.underlying129]
 obtain⟨A,cap,rfl,_,_⟩:=h.form
 cases A with
 | none=>
  obtain rfl:=zzS h
  go_enter Tryz.func117,Tryz.ntmps117
  go_wp2
  refine bodyPost_ret (v:=.slice none 0 0) (by simp[results,Tryz.results117,go_sem]) rfl ?_
  exact⟨_,_,rfl,RowV.nil _ _ _,(fun _ hq=>by cases hq),Fr.refl _ _⟩
 | some a=>
  have hw:Fr No w (w.alloc (.cells #[] 123)):=frc
  have h1:=h.rawKeep hw zN
  replace h1:=Lib.hid h1
  replace hone:=Lib.hid hone
  clear h
  go_enter Tryz.func117,Tryz.ntmps117
  go_wp2_with (at_builtin;refine zqF zzU rfl _ _ rfl ⟨w.heap.size,0,none⟩ rfl X _ ks rfl h1.out hl hone.out ?_;intro A' c' w2 hrow hq hf)
  refine bodyPost_ret (v:=.slice A' ks.length c') (by simp[results,Tryz.results117,go_sem, *]) rfl ?_
  exact⟨_,_,rfl,hrow,(fun q e=>by have:=hq q e;simp at this;omega),hw.trans0 hf⟩
theorem zzW:(Tryz.prog.info? 187).map (fun i=>(i.zero,i.size,i.bytes))=some (some (.agg #[.int .i64 0,.string ⟨#[]⟩]),2,24):=by kernel_rfl
theorem zzX:ElT 163 187 2 24:=zqW Tryz.underlying163 zzW rfl (by decide) (by decide)
theorem zzY (X:Nat->Prop) (v:Value) (ks:List (Raw 2)) (w:World) (h:Sl X w 2 RawC v ks) (hl:ks.length≤100000) (hone:OneC ks):
  Calls Tryz.prog 120 #[v] w (zzR 187 2 ks w):=by
 have hnil:∀(A:Option Addr) (n c:Nat) (w:World),(binOp .eql 163 (.slice A n c) (.slice none 0 0)).run Tryz.prog w=.ok (.bool A.isNone) w:=fun A n c w=>by
  simp[binOp,run_equal_slice_nil w 163 187 A n c Tryz.underlying163]
 obtain⟨A,cap,rfl,_,_⟩:=h.form
 cases A with
 | none=>
  obtain rfl:=zzS h
  go_enter Tryz.func120,Tryz.ntmps120
  go_wp2
  refine bodyPost_ret (v:=.slice none 0 0) (by simp[results,Tryz.results120,go_sem]) rfl ?_
  exact⟨_,_,rfl,RowV.nil _ _ _,(fun _ hq=>by cases hq),Fr.refl _ _⟩
 | some a=>
  have hw:Fr No w (w.alloc (.cells #[] 187)):=frc
  have h1:=h.rawKeep hw zN
  replace h1:=Lib.hid h1
  replace hone:=Lib.hid hone
  clear h
  go_enter Tryz.func120,Tryz.ntmps120
  go_wp2_with (at_builtin;refine zqF zzX rfl _ _ rfl ⟨w.heap.size,0,none⟩ rfl X _ ks rfl h1.out hl hone.out ?_;intro A' c' w2 hrow hq hf)
  refine bodyPost_ret (v:=.slice A' ks.length c') (by simp[results,Tryz.results120,go_sem, *]) rfl ?_
  exact⟨_,_,rfl,hrow,(fun q e=>by have:=hq q e;simp at this;omega),hw.trans0 hf⟩
theorem zzZ:(Tryz.prog.info? 178).map (fun i=>(i.zero,i.size,i.bytes))=some (some (.agg #[.int .i64 0,.int .i64 0,.string ⟨#[]⟩,.string ⟨#[]⟩]),4,48):=by kernel_rfl
theorem zz2:ElT 130 178 4 48:=zqW Tryz.underlying130 zzZ rfl (by decide) (by decide)
theorem zz3 (X:Nat->Prop) (v:Value) (ks:List (Raw 4)) (w:World) (h:Sl X w 4 RawC v ks) (hl:ks.length≤100000) (hone:OneC ks):
  Calls Tryz.prog 118 #[v] w (zzR 178 4 ks w):=by
 have hnil:∀(A:Option Addr) (n c:Nat) (w:World),(binOp .eql 130 (.slice A n c) (.slice none 0 0)).run Tryz.prog w=.ok (.bool A.isNone) w:=fun A n c w=>by
  simp[binOp,run_equal_slice_nil w 130 178 A n c Tryz.underlying130]
 obtain⟨A,cap,rfl,_,_⟩:=h.form
 cases A with
 | none=>
  obtain rfl:=zzS h
  go_enter Tryz.func118,Tryz.ntmps118
  go_wp2
  refine bodyPost_ret (v:=.slice none 0 0) (by simp[results,Tryz.results118,go_sem]) rfl ?_
  exact⟨_,_,rfl,RowV.nil _ _ _,(fun _ hq=>by cases hq),Fr.refl _ _⟩
 | some a=>
  have hw:Fr No w (w.alloc (.cells #[] 178)):=frc
  have h1:=h.rawKeep hw zN
  replace h1:=Lib.hid h1
  replace hone:=Lib.hid hone
  clear h
  go_enter Tryz.func118,Tryz.ntmps118
  go_wp2_with (at_builtin;refine zqF zz2 rfl _ _ rfl ⟨w.heap.size,0,none⟩ rfl X _ ks rfl h1.out hl hone.out ?_;intro A' c' w2 hrow hq hf)
  refine bodyPost_ret (v:=.slice A' ks.length c') (by simp[results,Tryz.results118,go_sem, *]) rfl ?_
  exact⟨_,_,rfl,hrow,(fun q e=>by have:=hq q e;simp at this;omega),hw.trans0 hf⟩
theorem zz4:(Tryz.prog.info? 125).map (fun i=>(i.zero,i.size,i.bytes))=some (some (.agg #[.string ⟨#[]⟩,.int .i64 0,.string ⟨#[]⟩]),3,40):=by kernel_rfl
theorem zz5:ElT 39 125 3 40:=zqW Tryz.underlying39 zz4 rfl (by decide) (by decide)
theorem zz6 (X:Nat->Prop) (v:Value) (ks:List (Raw 3)) (w:World) (h:Sl X w 3 RawC v ks) (hl:ks.length≤100000) (hone:OneC ks):
  Calls Tryz.prog 83 #[v] w (zzR 125 3 ks w):=by
 have hnil:∀(A:Option Addr) (n c:Nat) (w:World),(binOp .eql 39 (.slice A n c) (.slice none 0 0)).run Tryz.prog w=.ok (.bool A.isNone) w:=fun A n c w=>by
  simp[binOp,run_equal_slice_nil w 39 125 A n c Tryz.underlying39]
 obtain⟨A,cap,rfl,_,_⟩:=h.form
 cases A with
 | none=>
  obtain rfl:=zzS h
  go_enter Tryz.func83,Tryz.ntmps83
  go_wp2
  refine bodyPost_ret (v:=.slice none 0 0) (by simp[results,Tryz.results83,go_sem]) rfl ?_
  exact⟨_,_,rfl,RowV.nil _ _ _,(fun _ hq=>by cases hq),Fr.refl _ _⟩
 | some a=>
  have hw:Fr No w (w.alloc (.cells #[] 125)):=frc
  have h1:=h.rawKeep hw zN
  replace h1:=Lib.hid h1
  replace hone:=Lib.hid hone
  clear h
  go_enter Tryz.func83,Tryz.ntmps83
  go_wp2_with (at_builtin;refine zqF zz5 rfl _ _ rfl ⟨w.heap.size,0,none⟩ rfl X _ ks rfl h1.out hl hone.out ?_;intro A' c' w2 hrow hq hf)
  refine bodyPost_ret (v:=.slice A' ks.length c') (by simp[results,Tryz.results83,go_sem, *]) rfl ?_
  exact⟨_,_,rfl,hrow,(fun q e=>by have:=hq q e;simp at this;omega),hw.trans0 hf⟩
theorem zz7:(Tryz.prog.info? 86).map (fun i=>(i.zero,i.size,i.bytes))=some (some (.agg #[.string ⟨#[]⟩,.int .i64 0]),2,24):=by kernel_rfl
theorem zz8:ElT 65 86 2 24:=zqW Tryz.underlying65 zz7 rfl (by decide) (by decide)
theorem zz9 (X:Nat->Prop) (v:Value) (ks:List (Raw 2)) (w:World) (h:Sl X w 2 RawC v ks) (hl:ks.length≤100000) (hone:OneC ks):
  Calls Tryz.prog 51 #[v] w (zzR 86 2 ks w):=by
 have hnil:∀(A:Option Addr) (n c:Nat) (w:World),(binOp .eql 65 (.slice A n c) (.slice none 0 0)).run Tryz.prog w=.ok (.bool A.isNone) w:=fun A n c w=>by
  simp[binOp,run_equal_slice_nil w 65 86 A n c Tryz.underlying65]
 obtain⟨A,cap,rfl,_,_⟩:=h.form
 cases A with
 | none=>
  obtain rfl:=zzS h
  go_enter Tryz.func51,Tryz.ntmps51
  go_wp2
  refine bodyPost_ret (v:=.slice none 0 0) (by simp[results,Tryz.results51,go_sem]) rfl ?_
  exact⟨_,_,rfl,RowV.nil _ _ _,(fun _ hq=>by cases hq),Fr.refl _ _⟩
 | some a=>
  have hw:Fr No w (w.alloc (.cells #[] 86)):=frc
  have h1:=h.rawKeep hw zN
  replace h1:=Lib.hid h1
  replace hone:=Lib.hid hone
  clear h
  go_enter Tryz.func51,Tryz.ntmps51
  go_wp2_with (at_builtin;refine zqF zz8 rfl _ _ rfl ⟨w.heap.size,0,none⟩ rfl X _ ks rfl h1.out hl hone.out ?_;intro A' c' w2 hrow hq hf)
  refine bodyPost_ret (v:=.slice A' ks.length c') (by simp[results,Tryz.results51,go_sem, *]) rfl ?_
  exact⟨_,_,rfl,hrow,(fun q e=>by have:=hq q e;simp at this;omega),hw.trans0 hf⟩
theorem zAa:(Tryz.prog.info? 165).map (fun i=>(i.zero,i.size,i.bytes))=some (some (.agg #[.int .i64 0,.slice none 0 0,.slice none 0 0]),3,56):=by kernel_rfl
theorem zAb:ElT 131 165 3 56:=zqW Tryz.underlying131 zAa rfl (by decide) (by decide)
theorem zAc (X:Nat->Prop) (v:Value) (ks:List (Raw 3)) (w:World) (h:Sl X w 3 RawC v ks) (hl:ks.length≤100000) (hone:OneC ks):
  Calls Tryz.prog 119 #[v] w (zzR 165 3 ks w):=by
 have hnil:∀(A:Option Addr) (n c:Nat) (w:World),(binOp .eql 131 (.slice A n c) (.slice none 0 0)).run Tryz.prog w=.ok (.bool A.isNone) w:=fun A n c w=>by
  simp[binOp,run_equal_slice_nil w 131 165 A n c Tryz.underlying131]
 obtain⟨A,cap,rfl,_,_⟩:=h.form
 cases A with
 | none=>
  obtain rfl:=zzS h
  go_enter Tryz.func119,Tryz.ntmps119
  go_wp2
  refine bodyPost_ret (v:=.slice none 0 0) (by simp[results,Tryz.results119,go_sem]) rfl ?_
  exact⟨_,_,rfl,RowV.nil _ _ _,(fun _ hq=>by cases hq),Fr.refl _ _⟩
 | some a=>
  have hw:Fr No w (w.alloc (.cells #[] 165)):=frc
  have h1:=h.rawKeep hw zN
  replace h1:=Lib.hid h1
  replace hone:=Lib.hid hone
  clear h
  go_enter Tryz.func119,Tryz.ntmps119
  go_wp2_with (at_builtin;refine zqF zAb rfl _ _ rfl ⟨w.heap.size,0,none⟩ rfl X _ ks rfl h1.out hl hone.out ?_;intro A' c' w2 hrow hq hf)
  refine bodyPost_ret (v:=.slice A' ks.length c') (by simp[results,Tryz.results119,go_sem, *]) rfl ?_
  exact⟨_,_,rfl,hrow,(fun q e=>by have:=hq q e;simp at this;omega),hw.trans0 hf⟩
theorem zAd:(Tryz.prog.info? 133).map (fun i=>(i.zero,i.size,i.bytes))=some (some (.agg #[.string ⟨#[]⟩,.slice none 0 0,.int .i64 0,.string ⟨#[]⟩,.int .i64 0,.int .i64 0,.slice none 0 0,.slice none 0 0]),8,128):=by kernel_rfl
theorem zAe:ElT 40 133 8 128:=zqW Tryz.underlying40 zAd rfl (by decide) (by decide)
theorem zAf (X:Nat->Prop) (v:Value) (ks:List (Raw 8)) (w:World) (h:Sl X w 8 RawC v ks) (hl:ks.length≤100000) (hone:OneC ks):
  Calls Tryz.prog 84 #[v] w (zzR 133 8 ks w):=by
 have hnil:∀(A:Option Addr) (n c:Nat) (w:World),(binOp .eql 40 (.slice A n c) (.slice none 0 0)).run Tryz.prog w=.ok (.bool A.isNone) w:=fun A n c w=>by
  simp[binOp,run_equal_slice_nil w 40 133 A n c Tryz.underlying40]
 obtain⟨A,cap,rfl,_,_⟩:=h.form
 cases A with
 | none=>
  obtain rfl:=zzS h
  go_enter Tryz.func84,Tryz.ntmps84
  go_wp2
  refine bodyPost_ret (v:=.slice none 0 0) (by simp[results,Tryz.results84,go_sem]) rfl ?_
  exact⟨_,_,rfl,RowV.nil _ _ _,(fun _ hq=>by cases hq),Fr.refl _ _⟩
 | some a=>
  have hw:Fr No w (w.alloc (.cells #[] 133)):=frc
  have h1:=h.rawKeep hw zN
  replace h1:=Lib.hid h1
  replace hone:=Lib.hid hone
  clear h
  go_enter Tryz.func84,Tryz.ntmps84
  go_wp2_with (at_builtin;refine zqF zAe rfl _ _ rfl ⟨w.heap.size,0,none⟩ rfl X _ ks rfl h1.out hl hone.out ?_;intro A' c' w2 hrow hq hf)
  refine bodyPost_ret (v:=.slice A' ks.length c') (by simp[results,Tryz.results84,go_sem, *]) rfl ?_
  exact⟨_,_,rfl,hrow,(fun q e=>by have:=hq q e;simp at this;omega),hw.trans0 hf⟩
theorem zAg:(Tryz.prog.info? 42).map (fun i=>(i.zero,i.size,i.bytes))=some (some (.agg #[.string ⟨#[]⟩,.string ⟨#[]⟩,.slice none 0 0,.slice none 0 0]),4,80):=by kernel_rfl
theorem zAh:ElT 64 42 4 80:=zqW Tryz.underlying64 zAg rfl (by decide) (by decide)
theorem zAi (X:Nat->Prop) (v:Value) (ks:List (Raw 4)) (w:World) (h:Sl X w 4 RawC v ks) (hl:ks.length≤100000) (hone:OneC ks):
  Calls Tryz.prog 49 #[v] w (zzR 42 4 ks w):=by
 have hnil:∀(A:Option Addr) (n c:Nat) (w:World),(binOp .eql 64 (.slice A n c) (.slice none 0 0)).run Tryz.prog w=.ok (.bool A.isNone) w:=fun A n c w=>by
  simp[binOp,run_equal_slice_nil w 64 42 A n c Tryz.underlying64]
 obtain⟨A,cap,rfl,_,_⟩:=h.form
 cases A with
 | none=>
  obtain rfl:=zzS h
  go_enter Tryz.func49,Tryz.ntmps49
  go_wp2
  refine bodyPost_ret (v:=.slice none 0 0) (by simp[results,Tryz.results49,go_sem]) rfl ?_
  exact⟨_,_,rfl,RowV.nil _ _ _,(fun _ hq=>by cases hq),Fr.refl _ _⟩
 | some a=>
  have hw:Fr No w (w.alloc (.cells #[] 42)):=frc
  have h1:=h.rawKeep hw zN
  replace h1:=Lib.hid h1
  replace hone:=Lib.hid hone
  clear h
  go_enter Tryz.func49,Tryz.ntmps49
  go_wp2_with (at_builtin;refine zqF zAh rfl _ _ rfl ⟨w.heap.size,0,none⟩ rfl X _ ks rfl h1.out hl hone.out ?_;intro A' c' w2 hrow hq hf)
  refine bodyPost_ret (v:=.slice A' ks.length c') (by simp[results,Tryz.results49,go_sem, *]) rfl ?_
  exact⟨_,_,rfl,hrow,(fun q e=>by have:=hq q e;simp at this;omega),hw.trans0 hf⟩
structure CpP {α:Type} (E:TypeId) (sz:Nat) (R:OwnR α) (C:World->List Value->α->Prop) (lo:Nat) (j:Nat) (rows:List (Raw sz)) (Ys:Nat->Nat->Prop) (w:World) (v:Value) (xs:List α):Prop where
 len:rows.length=xs.length
 row:RowV w E sz v xs.length (rawL rows)
 own:∀q,zcP v=some q->lo≤q
 sub:∀i b,i<j->Ys i b->lo≤b∧b<w.heap.size∧zcP v≠some b
 apart:∀i k b,i<j->k<j->i≠k->Ys i b->¬Ys k b
 el:∀i (h1:i<rows.length) (h2:i<xs.length),i<j->R w (Ys i) rows[i].1 xs[i]
 rest:∀i (h1:i<rows.length) (h2:i<xs.length),j≤i->C w rows[i].1 xs[i]
section
variable {α:Type} {E:TypeId} {sz:Nat} {R:OwnR α} {C:World->List Value->α->Prop} {lo j:Nat} {rows:List (Raw sz)} {Ys:Nat->Nat->Prop} {w w':World} {Z:Nat->Prop} {v:Value} {xs:List α}
theorem CpP.zero (hl:rows.length=xs.length) (hr:RowV w E sz v xs.length (rawL rows)) (ho:∀q,zcP v=some q->lo≤q) (hc:∀i (h1:i<rows.length) (h2:i<xs.length),C w rows[i].1 xs[i]):CpP E sz R C lo 0 rows (fun _ _=>False) w v xs:=
 ⟨hl,hr,ho,(fun _ _ h=>absurd h (by omega)),(fun _ _ _ h=>absurd h (by omega)),(fun _ _ _ h=>absurd h (by omega)),fun i h1 h2 _=>hc i h1 h2⟩
theorem CpP.done (h:CpP E sz R C lo xs.length rows Ys w v xs):OwnP E sz R rows Ys w (fun b=>lo≤b) v xs:=
 ⟨h.len,h.row,h.own,fun i b hi hb=>h.sub i b hi hb,fun i k b hi hk=>h.apart i k b hi hk,fun i h1 h2=>h.el i h1 h2 h2⟩
theorem CpP.keep (hR:zzF R) (hC:∀cs x,C w cs x->C w' cs x) (h:CpP E sz R C lo j rows Ys w v xs) (hf:Fr No w w'):CpP E sz R C lo j rows Ys w' v xs:=
 ⟨h.len,h.row.keep0 hf,h.own,fun i b hi hb=>let ⟨h1,h2,h3⟩:=h.sub i b hi hb;⟨h1,Nat.lt_of_lt_of_le h2 hf.size,h3⟩,h.apart,fun i h1 h2 h3=>hR _ _ _ _ _ _ (h.el i h1 h2 h3) hf (fun _ _ _ h=>h),fun i h1 h2 h3=>hC _ _ (h.rest i h1 h2 h3)⟩
theorem CpP.next (hR:zzF R) (hC:∀cs x,C w cs x->C w' cs x) (h:CpP E sz R C lo j rows Ys w v xs) {r:Raw sz} (hj:j<xs.length) (hlo:lo≤w.heap.size) (hrow:RowV w' E sz v xs.length (rawL (rows.set j r))) (hf:Fr (fun b=>zcP v=some b) w w')
  (hx:R w' Z r.1 xs[j]) (hZ:∀b,Z b->w.heap.size≤b∧b<w'.heap.size):CpP E sz R C lo (j+1) (rows.set j r) (fun i=>if i=j then Z else Ys i) w' v xs:=by
 refine⟨by rw[List.length_set];exact h.len,hrow,h.own,fun i b hi hb=>?_,fun i k b hi hk hne hb hc=>?_,fun i h1 h2 h3=>?_,fun i h1 h2 h3=>?_⟩
 ·by_cases he:i=j
  ·subst he
   rw[if_pos rfl] at hb
   obtain⟨h1,h2⟩:=hZ b hb
   exact⟨by omega,h2,fun e=>by have:=h.row.lt e;omega⟩
  ·rw[if_neg he] at hb
   obtain⟨h1,h2,h3⟩:=h.sub i b (by omega) hb
   exact⟨h1,Nat.lt_of_lt_of_le h2 hf.size,h3⟩
 ·by_cases he:i=j
  ·subst he
   rw[if_pos rfl] at hb
   rw[if_neg (fun e=>hne e.symm)] at hc
   have:=(h.sub k b (by omega) hc).2.1
   have:=(hZ b hb).1
   omega
  ·rw[if_neg he] at hb
   by_cases he2:k=j
   ·subst he2
    rw[if_pos rfl] at hc
    have:=(h.sub i b (by omega) hb).2.1
    have:=(hZ b hc).1
    omega
   ·rw[if_neg he2] at hc
    exact h.apart i k b (by omega) (by omega) hne hb hc
 ·by_cases he:i=j
  ·subst he
   simp only[if_true,List.getElem_set_self]
   exact hx
  ·simp only[if_neg he]
   rw[List.getElem_set_ne (fun e=>he e.symm)]
   exact hR _ _ _ _ _ _ (h.el i (by rw[h.len];exact h2) h2 (by omega)) hf (fun b hb _ e=>(h.sub i b (by omega) hb).2.2 e)
 ·rw[List.getElem_set_ne (by omega)]
  exact hC _ _ (h.rest i (by rw[h.len];exact h2) h2 (by omega))
end
end Go.Proofs.YtpghfhjhjlmljaaGreat
