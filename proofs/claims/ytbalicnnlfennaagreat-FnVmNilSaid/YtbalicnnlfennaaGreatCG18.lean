/- Rows of values and of numbers in memory of one's own, and copies of them. -/
import Derived.Test.YtbalicnnlfennaaGreatCG2
import Derived.Test.YtbalicnnlfennaaGreatCG17
namespace Go.Proofs.YtbalicnnlfennaaGreat
open Go.RowKit

abbrev tVal : TypeId := 40
def valCells (v : Val) : List Value := [.int .i64 v.kind, .int .i64 v.n]
def ValRow (w : World) (v : Value) (xs : List Val) : Prop := RowV w tVal 2 v xs.length (xs.flatMap valCells)
theorem valCells_len (v : Val) : (valCells v).length = 2 := rfl
theorem ValRow.keepB {X : Nat → Prop} {w w' : World} {v : Value} {xs : List Val} (h : ValRow w v xs) (hf : Fr X w w') (hX : ∀ q ∈ rowB v, ¬ X q) : ValRow w' v xs := RowV.keepB h hf hX
theorem ValRow.keep0 {w w' : World} {v : Value} {xs : List Val} (h : ValRow w v xs) (hf : Fr No w w') : ValRow w' v xs := RowV.keep0 h hf
theorem ValRow.sl {X : Nat → Prop} {w : World} {v : Value} {xs : List Val} (h : ValRow w v xs) (hX : ∀ q, rowBlk v = some q → ¬ X q) : Sl X w 2 ValC v xs :=
 RowV.slW valCells_len h rfl (fun _ _ _ => rfl) hX
def outCell (x : Int) : List Value := [.int .i64 x]
theorem outCell_len (x : Int) : (outCell x).length = 1 := rfl
def OutRow (w : World) (v : Value) (xs : List Int) : Prop := RowV w 3 1 v xs.length (xs.flatMap outCell)
theorem OutRow.keepB {X : Nat → Prop} {w w' : World} {v : Value} {xs : List Int} (h : OutRow w v xs) (hf : Fr X w w') (hX : ∀ q ∈ rowB v, ¬ X q) : OutRow w' v xs := RowV.keepB h hf hX
theorem OutRow.sl {X : Nat → Prop} {w : World} {v : Value} {xs : List Int} (h : OutRow w v xs) (hX : ∀ q, rowBlk v = some q → ¬ X q) : Sl X w 1 OutC v xs :=
 RowV.slW outCell_len h rfl (fun _ _ _ => rfl) hX
theorem info_val : (Tryz.prog.info? 40).map (fun i => (i.zero, i.size, i.bytes)) = some (some (.agg #[.int .i64 0, .int .i64 0]), 2, 16) := by kernel_rfl
theorem Sl.newsW {β : Type} {X : Nat → Prop} {w : World} {b off n cap sz : Nat} {C : β → List Value} {R : List Value → β → Prop} {xs : List β} (h : Sl X w sz R (.slice (some ⟨b, off, none⟩) n cap) xs) (hsz : 0 < sz) (hC : ∀ x, (C x).length = sz) (hR : ∀ cs x, R cs x → cs = C x) :
  ∀ j u, (xs.flatMap C)[j]? = some u → w.cell? ((⟨b, off, none⟩ : Addr).add j) = some u := by
 intro j u hu
 have e : (⟨b, off, none⟩ : Addr).add j = ⟨b, off + j, none⟩ := by
  unfold Addr.add
  by_cases hj : j = 0
  ·subst hj; rfl
  ·rw [if_neg hj]
 have hj : j < xs.length * sz := by
  have := (List.getElem?_eq_some_iff.1 hu).1
  rwa [flatW_len hC] at this
 have hk : j / sz < xs.length := Nat.div_lt_of_lt_mul (by rw [Nat.mul_comm]; exact hj)
 have hm : j % sz < sz := Nat.mod_lt _ hsz
 obtain ⟨b', off', cs, hA, _, hRc, hc⟩ := h.cells hk
 simp only [Option.some.injEq, Addr.mk.injEq, and_true] at hA
 obtain ⟨rfl, rfl⟩ := hA
 have h2 := flatW_get hC xs (j / sz) hk (j % sz) hm
 have hdm : j / sz * sz + j % sz = j := by rw [Nat.mul_comm]; exact Nat.div_add_mod j sz
 rw [hdm] at h2
 rw [h2, ← hR _ _ hRc] at hu
 rw [e]
 have := hc (j % sz) u hm hu
 rw [← this]
 congr 2
 omega
theorem slice_nil_of {β : Type} {X : Nat → Prop} {w : World} {sz n c : Nat} {R : List Value → β → Prop} {xs : List β} (h : Sl X w sz R (.slice none n c) xs) : xs = [] := by
 obtain ⟨A', cap', he, _, _, h3⟩ := h
 rcases Nat.eq_zero_or_pos xs.length with h0 | h0
 ·exact List.eq_nil_of_length_eq_zero h0
 ·obtain ⟨b, off, hA, _⟩ := h3 h0
  cases he
  cases hA
def CloneV (xs : List Val) (w : World) (e : Ending) (w' : World) : Prop := ∃ v, e = .returned v ∧ ValRow w' v xs ∧ (∀ q, rowBlk v = some q → w.heap.size ≤ q ∧ 0 < xs.length) ∧ Fr No w w'
def CloneO (xs : List Int) (w : World) (e : Ending) (w' : World) : Prop := ∃ v, e = .returned v ∧ OutRow w' v xs ∧ (∀ q, rowBlk v = some q → w.heap.size ≤ q ∧ 0 < xs.length) ∧ Fr No w w'

set_option maxRecDepth 100000 in
set_option maxHeartbeats 2000000 in
theorem cloneV_ok (X : Nat → Prop) (v : Value) (xs : List Val) (w : World) (h : Sl X w 2 ValC v xs) (hl : xs.length ≤ 1000) :
  Calls Tryz.prog 46 #[v] w (CloneV xs w) := by
 have hnil : ∀ (A : Option Addr) (n c : Nat) (w : World), (binOp .eql 102 (.slice A n c) (.slice none 0 0)).run Tryz.prog w = .ok (.bool A.isNone) w := fun A n c w => by
  simp [binOp, run_equal_slice_nil w 102 40 A n c Tryz.underlying102]
 obtain ⟨A, cap, rfl, _, _⟩ := h.form
 cases A with
 | none =>
  obtain rfl := slice_nil_of h
  go_enter Tryz.func46, Tryz.ntmps46
  go_wp2
  refine bodyPost_ret (v := .slice none 0 0) (by simp [results, Tryz.results46, go_sem]) rfl ?_
  exact ⟨_, rfl, RowV.nil _ _ _, (fun _ hq => by cases hq), Fr.refl _ _⟩
 | some a =>
  obtain ⟨i0, hi, hz0, hz1, hz2⟩ := info_parts info_val
  have hlen : xs.length = 0 ∨ 0 < xs.length := by omega
  rcases hlen with h0 | h0
  ·obtain rfl := List.eq_nil_of_length_eq_zero h0
   have hrun := fun (ty : TypeId) (w : World) (b : Addr) (c : Nat) => run_append_none (P := Tryz.prog) w 102 ty 40 i0 Tryz.underlying102 hi (some b) (some a) c
   go_enter Tryz.func46, Tryz.ntmps46
   go_wp2_with fail
   refine bodyPost_ret (v := .slice (some ⟨w.heap.size, 0, none⟩) 0 0) (by simp [results, Tryz.results46, go_sem]) rfl ?_
   exact ⟨_, rfl, .inr ⟨rfl, rfl, _, rfl⟩, (fun _ hq => by rw [rowBlk_at, if_pos rfl] at hq; cases hq), frc⟩
  ·obtain ⟨b, off, cs, hA, _, _, _⟩ := h.cells h0
   cases hA
   have hnews := (h.keep (R' := ValC) (show Fr No w (w.alloc (.cells #[] 40)) from frc) (fun _ h => h.elim) (fun _ _ _ h => h)).newsW (C := valCells) (by decide) valCells_len (fun _ _ h => h)
   replace hi := Lib.hid hi
   replace hz0 := Lib.hid hz0
   replace hz1 := Lib.hid hz1
   replace hz2 := Lib.hid hz2
   replace hnews := Lib.hid hnews
   go_enter Tryz.func46, Tryz.ntmps46
   go_wp2_with (at_builtin; refine wpList_append_row _ rfl _ _ 102 rfl 40 i0 (.agg #[.int .i64 0, .int .i64 0]) 2 16 Tryz.underlying102 hi.out hz0.out hz1.out hz2.out rfl (by decide) (.slice (some ⟨w.heap.size, 0, none⟩) 0 0) 0 [] rfl (.inr ⟨rfl, rfl, _, rfl⟩) ⟨b, off, none⟩ xs.length cap (xs.flatMap valCells) rfl (flatW_len valCells_len xs) hnews.out (by intro u hu; obtain ⟨t, _, ht⟩ := List.mem_flatMap.1 hu; simp only [valCells, List.mem_cons, List.not_mem_nil, or_false] at ht; rcases ht with rfl | rfl <;> rfl) h0 (by unfold maxLen; omega) (by omega) ?_; intro g' cap' w2 hrow hcap hgf hor)
   simp only [Nat.zero_add, List.nil_append] at hrow hcap
   have hor2 : w.heap.size ≤ g' := by
    rcases hor with h9 | h9
    ·rw [rowBlk_at, if_pos rfl] at h9; cases h9
    ·rw [h9]; simp
   have hgf2 : Fr No w w2 := (show Fr No w (w.alloc (.cells #[] 40)) from frc).trans hgf (fun _ _ e => by rw [rowBlk_at, if_pos rfl] at e; cases e)
   refine bodyPost_ret (v := .slice (some ⟨g', 0, none⟩) xs.length cap') (by simp [results, Tryz.results46, go_sem, *]) rfl ?_
   exact ⟨_, rfl, hrow, (fun q hq => by rw [rowBlk_at, if_neg (by omega)] at hq; cases hq; exact ⟨hor2, h0⟩), hgf2⟩

set_option maxRecDepth 100000 in
set_option maxHeartbeats 2000000 in
theorem cloneO_ok (X : Nat → Prop) (v : Value) (xs : List Int) (w : World) (h : Sl X w 1 OutC v xs) (hl : xs.length ≤ 1000) :
  Calls Tryz.prog 45 #[v] w (CloneO xs w) := by
 have hnil : ∀ (A : Option Addr) (n c : Nat) (w : World), (binOp .eql 38 (.slice A n c) (.slice none 0 0)).run Tryz.prog w = .ok (.bool A.isNone) w := fun A n c w => by
  simp [binOp, run_equal_slice_nil w 38 3 A n c Tryz.underlying38]
 obtain ⟨A, cap, rfl, _, _⟩ := h.form
 cases A with
 | none =>
  obtain rfl := slice_nil_of h
  go_enter Tryz.func45, Tryz.ntmps45
  go_wp2
  refine bodyPost_ret (v := .slice none 0 0) (by simp [results, Tryz.results45, go_sem]) rfl ?_
  exact ⟨_, rfl, RowV.nil _ _ _, (fun _ hq => by cases hq), Fr.refl _ _⟩
 | some a =>
  obtain ⟨i0, hi, hz0, hz1, hz2⟩ := info_parts info_int
  have hlen : xs.length = 0 ∨ 0 < xs.length := by omega
  rcases hlen with h0 | h0
  ·obtain rfl := List.eq_nil_of_length_eq_zero h0
   have hrun := fun (ty : TypeId) (w : World) (b : Addr) (c : Nat) => run_append_none (P := Tryz.prog) w 38 ty 3 i0 Tryz.underlying38 hi (some b) (some a) c
   go_enter Tryz.func45, Tryz.ntmps45
   go_wp2_with fail
   refine bodyPost_ret (v := .slice (some ⟨w.heap.size, 0, none⟩) 0 0) (by simp [results, Tryz.results45, go_sem]) rfl ?_
   exact ⟨_, rfl, .inr ⟨rfl, rfl, _, rfl⟩, (fun _ hq => by rw [rowBlk_at, if_pos rfl] at hq; cases hq), frc⟩
  ·obtain ⟨b, off, cs, hA, _, _, _⟩ := h.cells h0
   cases hA
   have hnews := (h.keep (R' := OutC) (show Fr No w (w.alloc (.cells #[] 3)) from frc) (fun _ h => h.elim) (fun _ _ _ h => h)).newsW (C := outCell) (by decide) outCell_len (fun _ _ h => h)
   replace hi := Lib.hid hi
   replace hz0 := Lib.hid hz0
   replace hz1 := Lib.hid hz1
   replace hz2 := Lib.hid hz2
   replace hnews := Lib.hid hnews
   go_enter Tryz.func45, Tryz.ntmps45
   go_wp2_with (at_builtin; refine wpList_append_row _ rfl _ _ 38 rfl 3 i0 (.int .i64 0) 1 8 Tryz.underlying38 hi.out hz0.out hz1.out hz2.out rfl (by decide) (.slice (some ⟨w.heap.size, 0, none⟩) 0 0) 0 [] rfl (.inr ⟨rfl, rfl, _, rfl⟩) ⟨b, off, none⟩ xs.length cap (xs.flatMap outCell) rfl (flatW_len outCell_len xs) hnews.out (by intro u hu; obtain ⟨t, _, ht⟩ := List.mem_flatMap.1 hu; simp only [outCell, List.mem_cons, List.not_mem_nil, or_false] at ht; subst ht; rfl) h0 (by unfold maxLen; omega) (by omega) ?_; intro g' cap' w2 hrow hcap hgf hor)
   simp only [Nat.zero_add, List.nil_append] at hrow hcap
   have hor2 : w.heap.size ≤ g' := by
    rcases hor with h9 | h9
    ·rw [rowBlk_at, if_pos rfl] at h9; cases h9
    ·rw [h9]; simp
   have hgf2 : Fr No w w2 := (show Fr No w (w.alloc (.cells #[] 3)) from frc).trans hgf (fun _ _ e => by rw [rowBlk_at, if_pos rfl] at e; cases e)
   refine bodyPost_ret (v := .slice (some ⟨g', 0, none⟩) xs.length cap') (by simp [results, Tryz.results45, go_sem, *]) rfl ?_
   exact ⟨_, rfl, hrow, (fun q hq => by rw [rowBlk_at, if_neg (by omega)] at hq; cases hq; exact ⟨hor2, h0⟩), hgf2⟩
end Go.Proofs.YtbalicnnlfennaaGreat

namespace Go.Proofs.YtbalicnnlfennaaGreat
open Go.RowKit

theorem flat_get5 : ∀ (pre : List LFld) (k : Nat) (hk : k < pre.length) (j : Nat), j < 5 → (pre.flatMap lfCells)[k * 5 + j]? = (lfCells pre[k])[j]?
 | a :: pre, 0, _, j, hj => by
  rw [List.flatMap_cons, List.getElem?_append_left (by simp [lfCells]; omega)]
  simp
 | a :: pre, k + 1, hk, j, hj => by
  rw [List.flatMap_cons, List.getElem?_append_right (by simp [lfCells]; omega)]
  have := flat_get5 pre k (by simpa using hk) j hj
  have e : (k + 1) * 5 + j - (lfCells a).length = k * 5 + j := by simp [lfCells]; omega
  rw [e, this]
  simp
theorem flds_sl {w : World} {base : Nat} {v : Value} {pre : List LFld} (h : w.ownsRow base 154 5 v pre.length (pre.flatMap lfCells)) (hn : ∀ x ∈ pre, x.of_.name.size ≤ maxLen ∧ x.kind.name.size ≤ maxLen) : Sl (fun b => b < base) w 5 LFldC v pre := by
 obtain ⟨_, ⟨rfl, h0⟩ | ⟨g, cap, cur, rfl, hg, hb, h1, h2, h3, h4⟩⟩ := h
 ·obtain rfl := List.length_eq_zero_iff.1 h0
  exact Sl.nil _ _ _ _
 ·have hb' : Bx w g 154 cur := hb
  refine ⟨_, cap, rfl, h1, by omega, fun _ => ⟨g, 0, rfl, by omega, fun k hk => ⟨lfCells pre[k], ⟨rfl, hn _ (List.getElem_mem hk)⟩, rfl, fun j hj => ?_⟩⟩⟩
  rw [hb'.cell, ← flat_get5 pre k hk j hj, ← h4, List.getElem?_take, if_pos (by omega)]
  simp
theorem Sl.lfld {X : Nat → Prop} {w : World} {A : Option Addr} {n cap : Nat} {xs : List LFld} (h : Sl X w 5 LFldC (.slice A n cap) xs) {k : Nat} (hk : k < xs.length) :
  ∃ b off, A = some ⟨b, off, none⟩ ∧ ¬ X b ∧ w.cell? ⟨b, off + k * 5, none⟩ = some (.int .i64 xs[k].of_.keeper) ∧ w.cell? ⟨b, off + k * 5 + 1, none⟩ = some (.string xs[k].of_.name) ∧ w.cell? ⟨b, off + k * 5 + 2, none⟩ = some (.int .i64 xs[k].at_) ∧
   w.cell? ⟨b, off + k * 5 + 3, none⟩ = some (.int .i64 xs[k].kind.kind) ∧ w.cell? ⟨b, off + k * 5 + 4, none⟩ = some (.string xs[k].kind.name) ∧ xs[k].of_.name.size ≤ maxLen ∧ xs[k].kind.name.size ≤ maxLen := by
 obtain ⟨b, off, cs, hA, hX, ⟨rfl, hsz⟩, hc⟩ := h.cells hk
 exact ⟨b, off, hA, hX, hc 0 _ (by decide) rfl, hc 1 _ (by decide) rfl, hc 2 _ (by decide) rfl, hc 3 _ (by decide) rfl, hc 4 _ (by decide) rfl, hsz⟩
end Go.Proofs.YtbalicnnlfennaaGreat

namespace Go.Proofs.YtbalicnnlfennaaGreat
open Go.RowKit

theorem calls_world {P : Program} {f : FuncId} {args : Array Value} {w : World} {Q : Ending → World → Prop} (R : World → Prop) (h : R w) (k : ∀ W, R W → Calls P f args W Q) : Calls P f args w Q := k w h
end Go.Proofs.YtbalicnnlfennaaGreat
