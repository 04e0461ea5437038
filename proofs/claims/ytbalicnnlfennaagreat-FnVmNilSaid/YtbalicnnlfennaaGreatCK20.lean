/- The program's own machine: what a run has become. -/
import Derived.Test.YtbalicnnlfennaaGreatCK19
import Derived.Test.YtbalicnnlfennaaGreatCK13
namespace Go.Proofs.YtbalicnnlfennaaGreat
open Go.RowKit

abbrev tVSt : TypeId := 42
abbrev tVFrm : TypeId := 107

def SmS (s : St) : Prop := s.heap.length ≤ 1000 ∧ (∀ o ∈ s.heap, o.fields.length ≤ 1000) ∧ s.outs.length ≤ 1000 ∧ s.frames.length ≤ 1000 ∧ ∀ f ∈ s.frames, f.locals.length ≤ 1000 ∧ f.stack.length ≤ 1000

section
variable {κ β : Type} {L : El κ β} {base : Nat} {W W' : World} {v : Value} {xs : List β} {ks : List κ}
def CpR (L : El κ β) (base : Nat) (W : World) (v : Value) (xs : List β) (ks : List κ) : Prop :=
 RowV W L.e L.sz v xs.length (ks.flatMap L.C) ∧ Els L W ks xs ∧ (∀ b ∈ ks.flatMap L.B, ¬ rowBlk v = some b) ∧ (∀ b ∈ rowB v ++ ks.flatMap L.B, base ≤ b)
theorem CpR.keepM {X : Nat → Prop} (h : CpR L base W v xs ks) (hf : Fr X W W') (hX : ∀ b ∈ rowB v ++ ks.flatMap L.B, ¬ X b) : CpR L base W' v xs ks := by
 obtain ⟨h1, h2, h3, h4⟩ := h
 exact ⟨h1.keepB hf (fun b hb => hX b (List.mem_append_left _ hb)), h2.keep hf (fun b hb => hX b (List.mem_append_right _ hb)), h3, h4⟩
theorem CpR.keep0 (h : CpR L base W v xs ks) (hf : Fr No W W') : CpR L base W' v xs ks := h.keepM hf (fun _ _ h => h)
theorem CpR.lt (h : CpR L base W v xs ks) : ∀ b ∈ rowB v ++ ks.flatMap L.B, b < W.heap.size := fun b hb => (List.mem_append.1 hb).elim (fun hb => h.1.ltB hb) (fun hb => h.2.1.lt b hb)
theorem CpR.snoc {k : κ} {x : β} {g' cap' : Nat} (h : CpR L base W v xs ks) (hR : L.R W k x) (hff : ∀ q ∈ L.B k, base ≤ q) (hne : ∀ q ∈ L.B k, ¬ rowBlk v = some q)
  (hrow : RowV W' L.e L.sz (.slice (some ⟨g', 0, none⟩) (xs.length + 1) cap') (xs.length + 1) (ks.flatMap L.C ++ L.C k))
  (hgf : Fr (fun b => rowBlk v = some b) W W') (hor : rowBlk v = some g' ∨ g' = W.heap.size) (hcap : xs.length + 1 ≤ cap') (hbase : base ≤ W.heap.size) :
  CpR L base W' (.slice (some ⟨g', 0, none⟩) (xs.length + 1) cap') (xs ++ [x]) (ks ++ [k]) := by
 obtain ⟨h1, h2, h3, h4⟩ := h
 have hqn : rowBlk (.slice (some ⟨g', 0, none⟩) (xs.length + 1) cap') = some g' := rowBlk_some (by omega)
 have hqB : rowB (.slice (some ⟨g', 0, none⟩) (xs.length + 1) cap') = [g'] := by unfold rowB; rw [hqn]; rfl
 have hfl : (ks ++ [k]).flatMap L.B = ks.flatMap L.B ++ L.B k := by rw [List.flatMap_append]; simp
 refine ⟨?_, ?_, ?_, ?_⟩
 ·rw [List.flatMap_append, List.length_append]
  simpa using hrow
 ·exact (h2.keep hgf h3).snoc (L.keep hR hgf hne)
 ·rw [hqn, hfl]
  intro b hb e
  cases Option.some.inj e
  rcases List.mem_append.1 hb with hb | hb
  ·rcases hor with h9 | h9
   ·exact h3 _ hb h9
   ·have := h2.lt _ hb; omega
  ·rcases hor with h9 | h9
   ·exact hne _ hb h9
   ·have := L.lt hR hb; omega
 ·rw [hqB, hfl]
  intro b hb
  rcases List.mem_append.1 hb with hb | hb
  ·rw [List.mem_singleton] at hb
   subst hb
   rcases hor with h9 | h9
   ·exact h4 _ (List.mem_append_left _ (rowB_c h9))
   ·omega
  ·rcases List.mem_append.1 hb with hb | hb
   ·exact h4 _ (List.mem_append_right _ hb)
   ·exact hff _ hb
end
structure KF where
 m : LMth
 pc : Int
 vl : Value
 vs : Value
def KF.B (k : KF) : List Nat := rowB k.vl ++ rowB k.vs
def calF : El KF Cal where
 e := tVFrm
 sz := 6
 C := fun k => [.int .i64 k.m.of_.keeper, .string k.m.of_.name, .int .i64 k.m.at_, .int .i64 k.pc, k.vl, k.vs]
 B := KF.B
 R := fun W k f => k.m = f.of_ ∧ k.pc = f.pc ∧ f.of_.of_.name.size ≤ maxLen ∧ ValRow W k.vl f.locals ∧ ValRow W k.vs f.stack
 len := fun _ => rfl
 keep := fun h hf hb => ⟨h.1, h.2.1, h.2.2.1, h.2.2.2.1.keepB hf (fun q hq => hb q (List.mem_append_left _ hq)), h.2.2.2.2.keepB hf (fun q hq => hb q (List.mem_append_right _ hq))⟩
 lt := fun h hb => (List.mem_append.1 hb).elim (fun hb => RowV.ltB h.2.2.2.1 hb) (fun hb => RowV.ltB h.2.2.2.2 hb)
theorem CpR.cals {X : Nat → Prop} {base : Nat} {W : World} {v : Value} {xs : List Cal} {ks : List KF} (h : CpR calF base W v xs ks) (hX : ∀ b, base ≤ b → ¬ X b) : Sl X W 6 (CalC X W) v xs :=
 RowV.slW calF.len h.1 h.2.1.length (fun i h1 h2 => by
  obtain ⟨e1, e2, e3, e4, e5⟩ := h.2.1.get i h1 h2
  have hm : ∀ q ∈ KF.B ks[i], base ≤ q := fun q hq => h.2.2.2 q (List.mem_append_right _ (List.mem_flatMap.2 ⟨_, List.getElem_mem h1, hq⟩))
  exact ⟨_, _, by simp only [calF, e1, e2], e3, ValRow.sl e4 (fun q hq => hX q (hm q (List.mem_append_left _ (rowB_c hq)))), ValRow.sl e5 (fun q hq => hX q (hm q (List.mem_append_right _ (rowB_c hq))))⟩) (fun q hq => hX q (h.2.2.2 q (List.mem_append_left _ (rowB_c hq))))
theorem HpR.objs {X : Nat → Prop} {base : Nat} {W : World} {v : Value} {xs : List Obj} {ks : List KO} (h : HpR base W v xs ks) (hX : ∀ b, base ≤ b → ¬ X b) : Sl X W 3 (ObjC X W) v xs :=
 RowV.slW objL.len h.1 h.2.1.length (fun i h1 h2 => by
  obtain ⟨e1, e2, e3⟩ := h.2.1.get i h1 h2
  exact ⟨_, by simp only [objL, e1], e2, ValRow.sl e3 (fun q hq => hX q (h.2.2.2 q (List.mem_append_right _ (List.mem_flatMap.2 ⟨_, List.getElem_mem h1, rowB_c hq⟩))))⟩) (fun q hq => hX q (h.2.2.2 q (List.mem_append_left _ (rowB_c hq))))
theorem Els.valB {W : World} : ∀ {ks : List KO} {xs : List Obj}, Els objL W ks xs → ∀ b ∈ ks.flatMap KO.B, ∃ cs, Bx W b tVal cs
 | [], [], _, b, hb => by cases hb
 | k :: ks, x :: xs, h, b, hb => by
  rw [List.flatMap_cons, List.mem_append] at hb
  rcases hb with hb | hb
  ·exact RowV.box h.1.2.2 (mem_rowB.1 hb)
  ·exact Els.valB h.2 b hb
 | [], _ :: _, h, _, _ => h.elim
 | _ :: _, [], h, _, _ => h.elim
theorem HpR.keepM {X : Nat → Prop} {base : Nat} {W W' : World} {v : Value} {xs : List Obj} {ko : List KO} (h : HpR base W v xs ko) (hf : Fr X W W') (hX : ∀ b ∈ rowB v ++ ko.flatMap KO.B, ¬ X b) : HpR base W' v xs ko := by
 obtain ⟨h1, h2, h3, h4⟩ := h
 exact ⟨h1.keepB hf (fun b hb => hX b (List.mem_append_left _ hb)), h2.keep hf (fun b hb => hX b (List.mem_append_right _ hb)), h3, h4⟩
theorem Bx.fill6 {w : World} {g : Nat} {t : TypeId} {x0 x1 x2 x3 x4 x5 c0 c1 c2 c3 c4 c5 : Value} (h : Bx w g t #[x0, x1, x2, x3, x4, x5]) :
  Bx ((((((w.setCell ⟨g, 0, none⟩ c0).setCell ⟨g, 1, none⟩ c1).setCell ⟨g, 2, none⟩ c2).setCell ⟨g, 3, none⟩ c3).setCell ⟨g, 4, none⟩ c4).setCell ⟨g, 5, none⟩ c5) g t #[c0, c1, c2, c3, c4, c5] :=
 (((((h.setc (i := 0) rfl).setc (i := 1) rfl).setc (i := 2) rfl).setc (i := 3) rfl).setc (i := 4) rfl).setc (i := 5) rfl
theorem info_frm6 : (Tryz.prog.info? tVFrm).map (fun i => (i.zero, i.size, i.bytes)) = some (some (.agg #[.int .i64 0, .string ⟨#[]⟩, .int .i64 0, .int .i64 0, .slice none 0 0, .slice none 0 0]), 6, 88) := by kernel_rfl
theorem HpR.ne {base : Nat} {W : World} {v : Value} {xs : List Obj} {ks : List KO} (h : HpR base W v xs ks) {g : Nat} {cs : Array Value} (hb : Bx W g tVSt cs) : ∀ b ∈ rowB v ++ ks.flatMap KO.B, b ≠ g := fun b hx e => by
 subst e
 rcases List.mem_append.1 hx with hx | hx
 ·exact RowV.ne h.1 hb (by decide) (mem_rowB.1 hx) rfl
 ·obtain ⟨cs', hc⟩ := Els.valB h.2.1 b hx
  have := Option.some.inj (hc.symm.trans hb)
  cases this

def hpP (xs : List Obj) (base : Nat) : Value → World → Prop := fun v W => ∃ A c, v = .slice A xs.length c ∧ HpRow base W (.slice A xs.length c) xs
theorem hpP_mono (xs : List Obj) (base : Nat) : MonP (hpP xs base) := fun _ _ _ ⟨A, c, h1, ko, h2⟩ hf => ⟨A, c, h1, ko, h2.keep0 hf⟩
def outP (xs : List Int) (base : Nat) : Value → World → Prop := fun v W => ∃ A c, v = .slice A xs.length c ∧ OutRow W (.slice A xs.length c) xs ∧ ∀ q, rowBlk (.slice A xs.length c) = some q → base ≤ q
theorem outP_mono (xs : List Int) (base : Nat) : MonP (outP xs base) := fun _ _ _ ⟨A, c, h1, h2, h3⟩ hf => ⟨A, c, h1, RowV.keep0 h2 hf, h3⟩
def steP (s : St) (base : Nat) : Value → World → Prop := fun v W => ∃ A c A2 c2, v = .agg #[.int .i64 s.status, .slice none 0 0, .slice A s.heap.length c, .slice A2 s.outs.length c2, .int .i64 s.back.kind, .int .i64 s.back.n] ∧ HpRow base W (.slice A s.heap.length c) s.heap ∧ OutRow W (.slice A2 s.outs.length c2) s.outs ∧ ∀ q, rowBlk (.slice A2 s.outs.length c2) = some q → base ≤ q
theorem steP_mono (s : St) (base : Nat) : MonP (steP s base) := fun _ _ _ ⟨A, c, A2, c2, h1, ⟨ko, h2⟩, h3, h4⟩ hf => ⟨A, c, A2, c2, h1, ⟨ko, h2.keep0 hf⟩, RowV.keep0 h3 hf, h4⟩
def frmP (f : Cal) (base : Nat) : Value → World → Prop := fun v W => ∃ A c A2 c2, v = .agg #[.int .i64 f.of_.of_.keeper, .string f.of_.of_.name, .int .i64 f.of_.at_, .int .i64 f.pc, .slice A f.locals.length c, .slice A2 f.stack.length c2] ∧ ValRow W (.slice A f.locals.length c) f.locals ∧ (∀ q, rowBlk (.slice A f.locals.length c) = some q → base ≤ q) ∧ ValRow W (.slice A2 f.stack.length c2) f.stack ∧ (∀ q, rowBlk (.slice A2 f.stack.length c2) = some q → base ≤ q)
theorem frmP_mono (f : Cal) (base : Nat) : MonP (frmP f base) := fun _ _ _ ⟨A, c, A2, c2, h1, h2, h3, h4, h5⟩ hf => ⟨A, c, A2, c2, h1, h2.keep0 hf, h3, h4.keep0 hf, h5⟩
def frsP (f : Cal) (base : Nat) : Value → World → Prop := fun v W => ∃ k A c A2 c2, v = .slice (some ⟨k, 0, none⟩) 1 1 ∧ Bx W k tVFrm #[.int .i64 f.of_.of_.keeper, .string f.of_.of_.name, .int .i64 f.of_.at_, .int .i64 f.pc, .slice A f.locals.length c, .slice A2 f.stack.length c2] ∧ ValRow W (.slice A f.locals.length c) f.locals ∧ (∀ q, rowBlk (.slice A f.locals.length c) = some q → base ≤ q) ∧ ValRow W (.slice A2 f.stack.length c2) f.stack ∧ (∀ q, rowBlk (.slice A2 f.stack.length c2) = some q → base ≤ q)
theorem frsP_mono (f : Cal) (base : Nat) : MonP (frsP f base) := fun _ _ _ ⟨k, A, c, A2, c2, h1, h6, h2, h3, h4, h5⟩ hf => ⟨k, A, c, A2, c2, h1, h6.keep hf, h2.keep0 hf, h3, h4.keep0 hf, h5⟩

set_option maxRecDepth 100000 in
set_option maxHeartbeats 4000000 in
theorem state_ok (K : McP) (n : Nat) (s : St) (m : MLay) (w : World) (h : McS K n s m w) (hsm : SmS s) :
  Calls Tryz.prog 27 #[.pointer (some ⟨K.mb, 0, none⟩)] w (fun e w' => (∃ cs : List Value, e = .returned (.agg cs.toArray) ∧ StC (fun b => b < w.heap.size) w' cs s) ∧ Fr No w w') := by
 obtain ⟨q1, q2, q3, q4, q5⟩ := hsm
 obtain ⟨Ac, cc, hvc, _, hcm⟩ := h.crow.form
 obtain ⟨Ah, ch, hvh, _, _⟩ := h.hrow.form
 obtain ⟨Ao, co, hvo, _, _⟩ := h.orow.form
 obtain ⟨wA, hwA⟩ : ∃ wA, wA = w.alloc (.cells #[.int .i64 0, .slice none 0 0, .slice none 0 0, .slice none 0 0, .int .i64 0, .int .i64 0] tVSt) := ⟨_, rfl⟩
 have hfA : Fr No w wA := hwA ▸ frc
 have BA := (hwA ▸ bxc : Bx wA w.heap.size tVSt #[.int .i64 0, .slice none 0 0, .slice none 0 0, .slice none 0 0, .int .i64 0, .int .i64 0])
 have HH := fun W (hW : Fr No wA W) => copyHeap_ok _ s.heap W ((h.heapSl.keep (hfA.trans0 hW) (fun _ h => h) (fun _ _ _ h => h.keep (hfA.trans0 hW) (fun _ h => h)))) q1 q2
 have HO := fun W (hW : Fr No wA W) => cloneO_ok No m.vo s.outs W ((OutRow.sl h.orow (X := No) (fun _ _ h => h)).keep (hfA.trans0 hW) (fun _ h => h) (fun _ _ _ h => h)) q3
 have KM := fun W (hW : Fr No wA W) => h.cells W (hfA.trans0 hW)
 rw [hvc, hvh, hvo] at KM
 rw [hvh] at HH
 rw [hvo] at HO
 go_enter Tryz.func27, Tryz.ntmps27
 go_wp2_with fail
 rw [← hwA]
 replace hwA := Lib.hid hwA
 refine wp_region_monR 20 25 [mV (.pointer (some ⟨K.mb, 0, none⟩)), mV (.pointer (some ⟨K.mb, 0, none⟩)), mV (.pointer (some ⟨K.mb, 2, none⟩)), mV (.int .i64 s.status), mV (.pointer (some ⟨K.mb, 0, none⟩)), mV (.pointer (some ⟨K.mb, 0, none⟩)), mV (.pointer (some ⟨K.mb, 4, none⟩)), mV (.slice Ah s.heap.length ch), mC (hpP s.heap wA.heap.size) (hpP_mono _ _), mV (.pointer (some ⟨K.mb, 0, none⟩)), mV (.pointer (some ⟨K.mb, 0, none⟩)), mV (.pointer (some ⟨K.mb, 5, none⟩)), mV (.slice Ao s.outs.length co), mC (outP s.outs wA.heap.size) (outP_mono _ _), mV (.pointer (some ⟨K.mb, 0, none⟩)), mV (.pointer (some ⟨K.mb, 0, none⟩)), mV (.pointer (some ⟨K.mb, 6, none⟩)), mV (.agg #[.int .i64 s.back.kind, .int .i64 s.back.n]), mC (steP s wA.heap.size) (steP_mono _ _), mB 42 (#[.int .i64 0, .slice none 0 0, .slice none 0 0, .slice none 0 0, .int .i64 0, .int .i64 0]) wA.heap.size] (by kernel_rfl) (by kernel_rfl) (by simp) ?_ ?_
 ·refine hopC ?_ <| hopC ?_ <| hopC ?_ <| hopC ?_ <| hopC ?_ <| hopC ?_ <| hopC ?_ <| hopC ?_ <| hopC ?_ <| hopC ?_ <| hopC ?_ <| hopC ?_ <| hopC ?_ <| hopC ?_ <| hopC ?_ <| hopC ?_ <| hopC ?_ <| hopC ?_ <| hopC ?_ <| hopC ?_ <| hopZ
  all_goals (intro a' W hW hoff hdep; have hbs := hW.size; have H0 := hoff 0 rfl; refine nE rfl ?_)
  ·simp [execOp, Act.eval, H0, go_sem, givesUpon]; exact fr1 rfl
  ·have D6 : _ = _ := hdep 0 6 rfl; simp [execOp, Act.eval, D6, go_sem, givesUpon]; exact fr1 rfl
  ·have D7 : _ = _ := hdep 1 7 rfl; simp [execOp, Act.eval, D7, go_sem, givesUpon]; exact fr1 rfl
  ·have D8 : _ = _ := hdep 2 8 rfl; clear hoff hdep; simp [execOp, Act.eval, go_sem, givesUpon, *]; exact fr1 rfl
  ·simp [execOp, Act.eval, H0, go_sem, givesUpon]; exact fr1 rfl
  ·have D10 : _ = _ := hdep 4 10 rfl; simp [execOp, Act.eval, D10, go_sem, givesUpon]; exact fr1 rfl
  ·have D11 : _ = _ := hdep 5 11 rfl; simp [execOp, Act.eval, D11, go_sem, givesUpon]; exact fr1 rfl
  ·have D12 : _ = _ := hdep 6 12 rfl; clear hoff hdep; simp [execOp, Act.eval, go_sem, givesUpon, *]; exact fr1 rfl
  ·have D13 : _ = _ := hdep 7 13 rfl; simp [Act.eval, D13, go_sem, givesUpon]; exact (HH _ hW).mono (by intro e w9 h; obtain ⟨v, rfl, ⟨ko, h3⟩, h4⟩ := h; obtain ⟨A, c, rfl, _, _⟩ := h3.1.form; exact ⟨_, rfl, h4, A, c, rfl, ko, h3.1, h3.2.1, h3.2.2.1, fun b hb => Nat.le_trans hbs (h3.2.2.2 b hb)⟩)
  ·simp [execOp, Act.eval, H0, go_sem, givesUpon]; exact fr1 rfl
  ·have D15 : _ = _ := hdep 9 15 rfl; simp [execOp, Act.eval, D15, go_sem, givesUpon]; exact fr1 rfl
  ·have D16 : _ = _ := hdep 10 16 rfl; simp [execOp, Act.eval, D16, go_sem, givesUpon]; exact fr1 rfl
  ·have D17 : _ = _ := hdep 11 17 rfl; clear hoff hdep; simp [execOp, Act.eval, go_sem, givesUpon, *]; exact fr1 rfl
  ·have D18 : _ = _ := hdep 12 18 rfl; simp [Act.eval, D18, go_sem, givesUpon]; exact (HO _ hW).mono (by intro e w9 h; obtain ⟨v, rfl, h3, h5, h4⟩ := h; obtain ⟨A, c, rfl, _, _⟩ := h3.form; exact ⟨_, rfl, h4, A, c, rfl, h3, fun q hq => Nat.le_trans hbs (h5 q hq).1⟩)
  ·simp [execOp, Act.eval, H0, go_sem, givesUpon]; exact fr1 rfl
  ·have D20 : _ = _ := hdep 14 20 rfl; simp [execOp, Act.eval, D20, go_sem, givesUpon]; exact fr1 rfl
  ·have D21 : _ = _ := hdep 15 21 rfl; simp [execOp, Act.eval, D21, go_sem, givesUpon]; exact fr1 rfl
  ·have D22 : _ = _ := hdep 16 22 rfl; clear hoff hdep; simp [execOp, Act.eval, go_sem, givesUpon, *]; exact fr1 rfl
  ·have D9 : _ = _ := hdep 3 9 rfl; obtain ⟨A, c, D14, ht⟩ : (hpP s.heap wA.heap.size) _ W := hdep 8 14 rfl; obtain ⟨A2, c2, D19, ht2, hq2⟩ : (outP s.outs wA.heap.size) _ W := hdep 13 19 rfl; have D23 : _ = _ := hdep 17 23 rfl; simp at D9 D14 D19 D23; simp [execOp, Act.eval, D9, D14, D19, D23, go_sem, givesUpon]; exact ⟨Fr.refl _ _, A, c, A2, c2, rfl, ht, ht2, hq2⟩
  ·simp [execOp, go_sem, givesUpon]; exact ⟨(Fr.refl _ _).alloc _, ⟨_, rfl, Bx.new_ rfl, hbs⟩, Nat.le_refl _⟩
 intro vs WR hWR hv hne
 obtain ⟨AR8, cR8, e8, htR8⟩ := hv 8 (by omega)
 obtain ⟨A2R13, c2R13, e13, ht2R13, hq2R13⟩ := hv 13 (by omega)
 obtain ⟨AR18, cR18, A2R18, c2R18, e18, htR18, ht2R18, hq2R18⟩ := hv 18 (by omega)
 obtain ⟨b19, e19, hb19, hl19⟩ := hv 19 (by omega)
 simp only [List.drop_succ_cons, List.drop_zero, putsR_B, putsR_C, putsR_V, putsR_0, Nat.zero_add, Nat.reduceAdd, e8, e13, e18, e19]
 simp only [Act.put, List.setIfInBounds_toArray, List.set_cons_zero, List.set_cons_succ]
 clear e8 e13 e18 e19 hv
 clear hne htR8 ht2R13 hq2R13
 have hwR := hWR.size
 have hsA := hfA.size
 have BAl := BA.lt
 have BAR := BA.keep hWR
 refine wpList_store_all rfl tVSt (.tmp 3) (.tmp 24) rfl 6 (by kernel_rfl) b19 tVSt _ [.int .i64 s.status, .slice none 0 0, .slice AR18 s.heap.length cR18, .slice A2R18 s.outs.length c2R18, .int .i64 s.back.kind, .int .i64 s.back.n] rfl rfl hb19 rfl rfl (by simp [Value.oneCell']) ?_
 intro w1 B1 hfE
 simp only [Act.put]
 obtain ⟨ko, hK⟩ := htR18
 have hKne := hK.ne hb19
 have hOne := fun q (hq : rowBlk (.slice A2R18 s.outs.length c2R18) = some q) => RowV.ne ht2R18 hb19 (by decide) hq
 have hKlt := hK.lt
 have hOlt := fun q (hq : rowBlk (.slice A2R18 s.outs.length c2R18) = some q) => RowV.lt ht2R18 hq
 have hsE := hfE.size
 have hfw1 : Fr No w w1 := (hfA.trans0 hWR).trans hfE (fun b hb e => by omega)
 have BA1 := BAR.keepX hfE (by omega)
 have B1l := B1.lt
 have KM1 := h.cells w1 hfw1
 rw [hvc] at KM1
 obtain ⟨z0, z1, z2, z3, z4, z5, z6, z7, z8, z9⟩ := KM1
 have hI0 : Hid (∃ vf ks, Bx w1 b19 tVSt #[.int .i64 s.status, vf, .slice AR18 s.heap.length cR18, .slice A2R18 s.outs.length c2R18, .int .i64 s.back.kind, .int .i64 s.back.n] ∧ CpR calF w1.heap.size w1 vf (s.frames.take 0) ks ∧ Fr (fun b => b = b19 ∨ w1.heap.size ≤ b) w1 w1) :=
  Lib.hid ⟨.slice none 0 0, [], B1, ⟨RowV.nil _ _ _, trivial, fun b hb => by simp at hb, fun b hb => by simp [rowB, rowBlk_nil] at hb⟩, Fr.refl _ _⟩
 replace hK := Lib.hid hK
 replace ht2R18 := Lib.hid ht2R18
 replace BA1 := Lib.hid BA1
 replace h := Lib.hid h
 have hfE2 := Lib.hid hfE
 unfold maxLen at hcm
 clear hb19 BA BAR B1 hfE HH HO
 go_wp2_with fail
 clear z0 z1 z2 z3 z4 z5 z6 z7 z8 z9
 go_loopw [30] (fun i wr => ∃ j : Nat, j ≤ s.frames.length ∧ i = .int .i64 j ∧ Hid (∃ vf ks, Bx wr b19 tVSt #[.int .i64 s.status, vf, .slice AR18 s.heap.length cR18, .slice A2R18 s.outs.length c2R18, .int .i64 s.back.kind, .int .i64 s.back.n] ∧ CpR calF w1.heap.size wr vf (s.frames.take j) ks ∧ Fr (fun b => b = b19 ∨ w1.heap.size ≤ b) w1 wr)) (fun i _ => s.frames.length - (intOf i).toNat)
 case atStart => exact ⟨0, Nat.zero_le _, rfl, hI0⟩
 case round =>
  clear hI0
  obtain ⟨j, hj, rfl, hI⟩ := hrel
  obtain ⟨vf, ks, hBr, hCp, hfr⟩ := hI.out
  clear hI
  have hsr := hfr.size
  have hfwr : Fr No w wr := hfw1.trans hfr (fun b hb e => by omega)
  have hlj : (s.frames.take j).length = j := by rw [List.length_take, Nat.min_eq_left hj]
  obtain ⟨Av, cv, rfl⟩ : ∃ A c, vf = .slice A j c := by
   obtain ⟨A, c, he, _, _⟩ := hCp.1.form
   rw [hlj] at he
   exact ⟨A, c, he⟩
  by_cases hlt : j < s.frames.length
  ·have htk : s.frames.take (j + 1) = s.frames.take j ++ [s.frames[j]] := List.take_succ_eq_append_getElem hlt
   have hcl := h.out.cels.length
   have hjk : j < m.kc.length := by omega
   obtain ⟨c1, c2, c3, _, c5, _⟩ := h.out.cels.get j hjk hlt
   obtain ⟨g, c', cur, hg1, _, _, _, _, _, _⟩ := h.out.crow.at_ (by omega)
   have hcell : ∀ W, Fr No w W → W.cell? ⟨g, j, none⟩ = some (.pointer (some ⟨(m.kc[j]).c, 0, none⟩)) := fun W hW => by
    have h9 := (h.out.crow.keep0 hW).cell hg1 (j := j) (by omega)
    have h8 := flatW_get (calL K).len m.kc j hjk 0 (show 0 < (calL K).sz from Nat.one_pos)
    simp only [Nat.add_zero] at h8
    have e1 : j * (calL K).sz = j := by show j * 1 = j; omega
    rw [e1] at h8
    rw [h9, h8]
    rfl
   rw [hvc] at hg1
   cases hg1
   have hsm := q5 _ (List.getElem_mem hlt)
   generalize m.kc[j] = k at *
   generalize s.frames[j] = f at *
   obtain ⟨⟨⟨fk, fnm⟩, fat⟩, fpc, floc, fstk⟩ := f
   obtain ⟨kc, kva, kvc, kvm, kvl, kvs⟩ := k
   dsimp only at c1 c2 c3 c5 hcell hsm
   obtain ⟨Al, cl, rfl, _, _⟩ := c2.form
   obtain ⟨As, cs', rfl, _, _⟩ := c3.form
   have KC0 : ∀ W, Fr No wr W → W.cell? ⟨kc, 0, none⟩ = some (.int .i64 fk) ∧ W.cell? ⟨kc, 1, none⟩ = some (.string fnm) ∧ W.cell? ⟨kc, 2, none⟩ = some (.int .i64 fat) ∧ W.cell? ⟨kc, 11, none⟩ = some (.int .i64 fpc) ∧ W.cell? ⟨kc, 12, none⟩ = some (.slice Al floc.length cl) ∧ W.cell? ⟨kc, 13, none⟩ = some (.slice As fstk.length cs') ∧ (∀ i, W.frozen? ⟨kc, i, none⟩ = false) ∧ kc < W.heap.size := fun W hW => by
    have h9 := c1.keep (hfwr.trans0 hW)
    exact ⟨h9.cell 0, h9.cell 1, h9.cell 2, h9.cell 11, h9.cell 12, h9.cell 13, fun i => h9.frozen i, h9.lt⟩
   have KBx : ∀ W, Fr No wr W → W.cell? ⟨b19, 1, none⟩ = some (.slice Av j cv) ∧ (∀ i, W.frozen? ⟨b19, i, none⟩ = false) ∧ b19 < W.heap.size := fun W hW => by
    have h9 := hBr.keep hW
    exact ⟨h9.cell 1, fun i => h9.frozen i, h9.lt⟩
   have HL := fun W (hW : Fr No wr W) => cloneV_ok No (.slice Al floc.length cl) floc W (ValRow.sl (c2.keep0 (hfwr.trans0 hW)) (fun _ _ h => h)) hsm.1
   have HS := fun W (hW : Fr No wr W) => cloneV_ok No (.slice As fstk.length cs') fstk W (ValRow.sl (c3.keep0 (hfwr.trans0 hW)) (fun _ _ h => h)) hsm.2
   have hg := hcell wr hfwr
   have hCpl := hCp.lt
   replace htk := Lib.hid htk
   replace hCp := Lib.hid hCp
   replace hBr := Lib.hid hBr
   clear c1 c2 c3 hcell
   go_wp2_with fail
   refine wp_region_monR 23 57 [mV (.pointer (some ⟨b19, 1, none⟩)), mV (.slice Av j cv), mV (.pointer (some ⟨kc, 0, none⟩)), mV (.pointer (some ⟨kc, 0, none⟩)), mV (.pointer (some ⟨kc, 0, none⟩)), mV (.agg #[.int .i64 fk, .string fnm, .int .i64 fat]), mV (.pointer (some ⟨kc, 0, none⟩)), mV (.pointer (some ⟨kc, 0, none⟩)), mV (.pointer (some ⟨kc, 11, none⟩)), mV (.int .i64 fpc), mV (.pointer (some ⟨kc, 0, none⟩)), mV (.pointer (some ⟨kc, 0, none⟩)), mV (.pointer (some ⟨kc, 12, none⟩)), mV (.slice Al floc.length cl), mC (cloW floc wr.heap.size) (cloW_mono _ _), mV (.pointer (some ⟨kc, 0, none⟩)), mV (.pointer (some ⟨kc, 0, none⟩)), mV (.pointer (some ⟨kc, 13, none⟩)), mV (.pointer (some ⟨kc, 13, none⟩)), mV (.slice As fstk.length cs'), mC (cloW fstk wr.heap.size) (cloW_mono _ _), mC (frmP ⟨⟨⟨fk, fnm⟩, fat⟩, fpc, floc, fstk⟩ wr.heap.size) (frmP_mono _ _), mC (frsP ⟨⟨⟨fk, fnm⟩, fat⟩, fpc, floc, fstk⟩ wr.heap.size) (frsP_mono _ _)] (by kernel_rfl) (by kernel_rfl) (by simp) ?_ ?_
   ·refine hopC ?_ <| hopC ?_ <| hopC ?_ <| hopC ?_ <| hopC ?_ <| hopC ?_ <| hopC ?_ <| hopC ?_ <| hopC ?_ <| hopC ?_ <| hopC ?_ <| hopC ?_ <| hopC ?_ <| hopC ?_ <| hopC ?_ <| hopC ?_ <| hopC ?_ <| hopC ?_ <| hopC ?_ <| hopC ?_ <| hopC ?_ <| hopC ?_ <| hopC ?_ <| hopZ
    all_goals (intro a' W hW hoff hdep; have hbs := hW.size; have H3 := hoff 3 rfl; have H5 := hoff 5 rfl; refine nE rfl ?_)
    ·simp [execOp, Act.eval, H3, go_sem, givesUpon]; exact fr1 rfl
    ·have D34 : _ = _ := hdep 0 34 rfl; clear hoff hdep; simp [execOp, Act.eval, go_sem, givesUpon, *]; exact fr1 rfl
    ·simp [execOp, Act.eval, H5, go_sem, givesUpon]; exact fr1 rfl
    ·have D36 : _ = _ := hdep 2 36 rfl; simp [execOp, Act.eval, D36, go_sem, givesUpon]; exact fr1 rfl
    ·have D37 : _ = _ := hdep 3 37 rfl; simp [execOp, Act.eval, D37, go_sem, givesUpon]; exact fr1 rfl
    ·have D38 : _ = _ := hdep 4 38 rfl; clear hoff hdep; simp [execOp, Act.eval, go_sem, givesUpon, *]; exact fr1 rfl
    ·simp [execOp, Act.eval, H5, go_sem, givesUpon]; exact fr1 rfl
    ·have D40 : _ = _ := hdep 6 40 rfl; simp [execOp, Act.eval, D40, go_sem, givesUpon]; exact fr1 rfl
    ·have D41 : _ = _ := hdep 7 41 rfl; simp [execOp, Act.eval, D41, go_sem, givesUpon]; exact fr1 rfl
    ·have D42 : _ = _ := hdep 8 42 rfl; clear hoff hdep; simp [execOp, Act.eval, go_sem, givesUpon, *]; exact fr1 rfl
    ·simp [execOp, Act.eval, H5, go_sem, givesUpon]; exact fr1 rfl
    ·have D44 : _ = _ := hdep 10 44 rfl; simp [execOp, Act.eval, D44, go_sem, givesUpon]; exact fr1 rfl
    ·have D45 : _ = _ := hdep 11 45 rfl; simp [execOp, Act.eval, D45, go_sem, givesUpon]; exact fr1 rfl
    ·have D46 : _ = _ := hdep 12 46 rfl; clear hoff hdep; simp [execOp, Act.eval, go_sem, givesUpon, *]; exact fr1 rfl
    ·have D47 : _ = _ := hdep 13 47 rfl; simp [Act.eval, D47, go_sem, givesUpon]; exact (HL _ hW).mono (by intro e w9 h; obtain ⟨v, rfl, h3, h4⟩ := cloW_gives hbs h; exact ⟨v, rfl, h3, h4⟩)
    ·simp [execOp, Act.eval, H5, go_sem, givesUpon]; exact fr1 rfl
    ·have D49 : _ = _ := hdep 15 49 rfl; simp [execOp, Act.eval, D49, go_sem, givesUpon]; exact fr1 rfl
    ·have D50 : _ = _ := hdep 16 50 rfl; simp [execOp, Act.eval, D50, go_sem, givesUpon]; exact fr1 rfl
    ·have D51 : _ = _ := hdep 17 51 rfl; simp [execOp, Act.eval, D51, go_sem, givesUpon]; exact fr1 rfl
    ·have D52 : _ = _ := hdep 18 52 rfl; clear hoff hdep; simp [execOp, Act.eval, go_sem, givesUpon, *]; exact fr1 rfl
    ·have D53 : _ = _ := hdep 19 53 rfl; simp [Act.eval, D53, go_sem, givesUpon]; exact (HS _ hW).mono (by intro e w9 h; obtain ⟨v, rfl, h3, h4⟩ := cloW_gives hbs h; exact ⟨v, rfl, h3, h4⟩)
    ·have D39 : _ = _ := hdep 5 39 rfl; have D43 : _ = _ := hdep 9 43 rfl; obtain ⟨A, c, D48, ht, hq⟩ : (cloW floc wr.heap.size) _ W := hdep 14 48 rfl; obtain ⟨A2, c2, D54, ht2, hq2⟩ : (cloW fstk wr.heap.size) _ W := hdep 20 54 rfl; simp at D39 D43 D48 D54; simp [execOp, Act.eval, D39, D43, D48, D54, go_sem, givesUpon]; exact ⟨Fr.refl _ _, A, c, A2, c2, rfl, ht, hq, ht2, hq2⟩
    ·obtain ⟨A, c, A2, c2, D55, ht, hq, ht2, hq2⟩ : (frmP ⟨⟨⟨fk, fnm⟩, fat⟩, fpc, floc, fstk⟩ wr.heap.size) _ W := hdep 21 55 rfl; simp at D55; simp [execOp, Act.eval, D55, go_sem, givesUpon]; exact ⟨(Fr.refl _ _).alloc _, _, A, c, A2, c2, rfl, Bx.new_ rfl, ht.keep0 frc, hq, ht2.keep0 frc, hq2⟩
   intro vs WR hWR hv hne
   obtain ⟨AR14, cR14, e14, htR14, hqR14⟩ := hv 14 (by omega)
   obtain ⟨A2R20, c2R20, e20, ht2R20, hq2R20⟩ := hv 20 (by omega)
   obtain ⟨AR21, cR21, A2R21, c2R21, e21, htR21, hqR21, ht2R21, hq2R21⟩ := hv 21 (by omega)
   obtain ⟨kR22, AR22, cR22, A2R22, c2R22, e22, hkR22, htR22, hqR22, ht2R22, hq2R22⟩ := hv 22 (by omega)
   simp only [List.drop_succ_cons, List.drop_zero, putsR_C, putsR_V, putsR_0, Nat.zero_add, Nat.reduceAdd, e14, e20, e21, e22]
   simp only [Act.put, List.setIfInBounds_toArray, List.set_cons_zero, List.set_cons_succ]
   clear e14 e20 e21 e22 hv
   clear hne KC0 HL HS htR14 hqR14 ht2R20 hq2R20 htR21 hqR21 ht2R21 hq2R21
   have hwR2 := hWR.size
   have hCR := hCp.out.keep0 hWR
   have hrowR := hCR.1
   rw [hlj] at hrowR
   have hsrc := Lib.hid (Bx.news (cs := [.int .i64 fk, .string fnm, .int .i64 fat, .int .i64 fpc, .slice AR22 floc.length cR22, .slice A2R22 fstk.length c2R22]) hkR22)
   have hboxR := hBr.out.keep hWR
   have hneR : ∀ q, rowBlk (.slice Av j cv) = some q → q ≠ b19 := fun q hq => by have := hCp.out.2.2.2 q (List.mem_append_left _ (rowB_c hq)); omega
   have hRk : calF.R WR ⟨⟨⟨fk, fnm⟩, fat⟩, fpc, .slice AR22 floc.length cR22, .slice A2R22 fstk.length c2R22⟩ ⟨⟨⟨fk, fnm⟩, fat⟩, fpc, floc, fstk⟩ := ⟨rfl, rfl, c5, htR22, ht2R22⟩
   have hnewB : ∀ q ∈ calF.B ⟨⟨⟨fk, fnm⟩, fat⟩, fpc, .slice AR22 floc.length cR22, .slice A2R22 fstk.length c2R22⟩, wr.heap.size ≤ q := fun q hq => (List.mem_append.1 hq).elim (fun h => hqR22 q (mem_rowB.1 h)) (fun h => hq2R22 q (mem_rowB.1 h))
   have hfin := fun (g' cap' : Nat) (w3 : World) (hrow : RowV w3 tVFrm 6 (.slice (some ⟨g', 0, none⟩) (j + 1) cap') (j + 1) (ks.flatMap calF.C ++ [.int .i64 fk, .string fnm, .int .i64 fat, .int .i64 fpc, .slice AR22 floc.length cR22, .slice A2R22 fstk.length c2R22])) (hgf : Fr (fun b => rowBlk (.slice Av j cv) = some b) WR w3) (hor : rowBlk (.slice Av j cv) = some g' ∨ g' = WR.heap.size) (hcap : j + 1 ≤ cap') =>
    (show ∃ vf ks, Bx (w3.setCell ⟨b19, 1, none⟩ (.slice (some ⟨g', 0, none⟩) (j + 1) cap')) b19 tVSt #[.int .i64 s.status, vf, .slice AR18 s.heap.length cR18, .slice A2R18 s.outs.length c2R18, .int .i64 s.back.kind, .int .i64 s.back.n] ∧ CpR calF w1.heap.size (w3.setCell ⟨b19, 1, none⟩ (.slice (some ⟨g', 0, none⟩) (j + 1) cap')) vf (s.frames.take (j + 1)) ks ∧ Fr (fun b => b = b19 ∨ w1.heap.size ≤ b) w1 (w3.setCell ⟨b19, 1, none⟩ (.slice (some ⟨g', 0, none⟩) (j + 1) cap')) from by
     have h9 := hCR.snoc (g' := g') (cap' := cap') (W' := w3) hRk (fun q hq => by have := hnewB q hq; omega) (fun q hq e => by have := hnewB q hq; have := hCpl q (List.mem_append_left _ (rowB_c e)); omega) (by rw [hlj]; exact hrow) hgf hor (by rw [hlj]; exact hcap) (by omega)
     rw [hlj, ← htk.out] at h9
     refine ⟨_, _, (hboxR.keepX hgf (fun e => hneR _ e rfl)).setc (i := 1) rfl, h9.keepM (Fr.one _ _ _ _) (fun b hb e => by have := h9.2.2.2 b hb; omega), ((hfr.trans0 hWR).trans hgf (fun b hb e => .inr (hCp.out.2.2.2 b (List.mem_append_left _ (rowB_c e))))).trans (Fr.one _ _ _ _) (fun b hb e => .inl e)⟩)
   obtain ⟨j0, hj0, hk0, hk1, hk2⟩ := info_parts info_frm6
   replace hj0 := Lib.hid hj0
   replace hk0 := Lib.hid hk0
   replace hk1 := Lib.hid hk1
   replace hk2 := Lib.hid hk2
   replace hfin := Lib.hid hfin
   have hadd : IntKind.i64.wrap ((j : Int) + 1) = ((j + 1 : Nat) : Int) := by rw [IntWalk.i64_in _ (by omega)]; simp
   clear hCR hRk hnewB hkR22 htR22 hqR22 ht2R22 hq2R22 KBx
   go_wp2_with (at_builtin; (refine wpList_append_row _ rfl _ _ 36 rfl tVFrm j0 (.agg #[.int .i64 0, .string ⟨#[]⟩, .int .i64 0, .int .i64 0, .slice none 0 0, .slice none 0 0]) 6 88 Tryz.underlying36 hj0.out hk0.out hk1.out hk2.out rfl (by decide) (.slice Av j cv) j (ks.flatMap calF.C) rfl hrowR ⟨kR22, 0, none⟩ 1 1 [.int .i64 fk, .string fnm, .int .i64 fat, .int .i64 fpc, .slice AR22 floc.length cR22, .slice A2R22 fstk.length c2R22] rfl rfl hsrc.out (by simp [Value.oneCell']) (by decide) (by unfold maxLen; omega) (by omega) ?_); (intro g2 cap2 w6 hrow6 hcap6 hgf6 hor6); have hbx := hboxR.keepX hgf6 (fun e => hneR _ e rfl); have hfi := Lib.hid (hfin.out _ _ _ hrow6 hgf6 hor6 hcap6); have z3 : w6.cell? ⟨b19, 1, none⟩ = some (.slice Av j cv) := hbx.cell 1; have zf := (fun i => hbx.frozen i); have zl := hbx.lt)
   exact ⟨⟨j + 1, by omega, by simp, hfi⟩, by simp [intOf]; omega⟩
  ·obtain rfl : j = s.frames.length := by omega
   rw [List.take_length] at hCp
   have hBAr := BA1.out.keepX hfr (by omega)
   obtain ⟨x0, x1, x2, x3, x4, x5⟩ := hBr.c6
   have xf := fun i => hBr.frozen i
   have xl := hBr.lt
   obtain ⟨y0, y1, y2, y3, y4, y5⟩ := hBAr.c6
   have yf := fun i => hBAr.frozen i
   have yl := hBAr.lt
   have hne9 : ¬ b19 = w.heap.size := by omega
   replace hCp := Lib.hid hCp
   go_wp2_with fail
   obtain ⟨W7, hW7⟩ : ∃ W7, W7 = ((((((wr.setCell ⟨w.heap.size, 0, none⟩ (.int .i64 s.status)).setCell ⟨w.heap.size, 1, none⟩ (.slice Av s.frames.length cv)).setCell ⟨w.heap.size, 2, none⟩ (.slice AR18 s.heap.length cR18)).setCell ⟨w.heap.size, 3, none⟩ (.slice A2R18 s.outs.length c2R18)).setCell ⟨w.heap.size, 4, none⟩ (.int .i64 s.back.kind)).setCell ⟨w.heap.size, 5, none⟩ (.int .i64 s.back.n)) := ⟨_, rfl⟩
   have B7 : Bx W7 w.heap.size tVSt #[.int .i64 s.status, .slice Av s.frames.length cv, .slice AR18 s.heap.length cR18, .slice A2R18 s.outs.length c2R18, .int .i64 s.back.kind, .int .i64 s.back.n] := hW7 ▸ hBAr.fill6
   have hf7 : Fr (fun b => b = w.heap.size) wr W7 := hW7 ▸ (((((Fr.one _ _ _ _).same (Fr.one _ _ _ _)).same (Fr.one _ _ _ _)).same (Fr.one _ _ _ _)).same (Fr.one _ _ _ _)).same (Fr.one _ _ _ _)
   rw [← hW7]
   clear hW7
   obtain ⟨r0, r1, r2, r3, r4, r5⟩ := B7.c6
   have rl := B7.lt
   refine bodyPost_ret (v := .agg #[.int .i64 s.status, .slice Av s.frames.length cv, .slice AR18 s.heap.length cR18, .slice A2R18 s.outs.length c2R18, .int .i64 s.back.kind, .int .i64 s.back.n]) (by simp [results, Tryz.results27, go_sem, *]) rfl ?_
   have hK7 : HpR wA.heap.size W7 (.slice AR18 s.heap.length cR18) s.heap ko := ((hK.out.keepM hfE2.out (fun b hb e => hKne b hb e)).keepM hfr (fun b hb e => by have := hKlt b hb; have := hKne b hb; omega)).keepM hf7 (fun b hb e => by have := hK.out.2.2.2 b hb; omega)
   have hO7 : OutRow W7 (.slice A2R18 s.outs.length c2R18) s.outs := ((ht2R18.out.keepB hfE2.out (fun q hq e => hOne q (mem_rowB.1 hq) e)).keepB hfr (fun q hq e => by have := hOlt q (mem_rowB.1 hq); have := hOne q (mem_rowB.1 hq); omega)).keepB hf7 (fun q hq e => by have := hq2R18 q (mem_rowB.1 hq); omega)
   have hC7 := hCp.out.keepM hf7 (fun b hb e => by have := hCp.out.2.2.2 b hb; omega)
   exact ⟨⟨[_, _, _, _, _, _], rfl, _, _, _, rfl, hC7.cals (fun b hb e => by omega), hK7.objs (fun b hb e => by omega), OutRow.sl hO7 (fun q hq e => by have := hq2R18 q hq; omega)⟩, hfwr.trans hf7 (fun b hb e => by omega)⟩
end Go.Proofs.YtbalicnnlfennaaGreat

namespace Go.Proofs.YtbalicnnlfennaaGreat
open Go.RowKit

def OneOk (p : Plan) (s : St) : Prop := ∃ f, s.frames = [f] ∧ StepOk p s f ((mthOf p f.of_).code.getD f.pc.toNat noIns)
def RunOk (p : Plan) (look : Bool) (s : St) (fuel : Nat) : Prop := ∀ j, j < fuel → (runM p look j s).status = 1 → OneOk p (runM p look j s)
theorem runM_one {p : Plan} {look : Bool} (s : St) : ∀ j, runM p look (j + 1) s = if (runM p look j s).status = 1 then stepM p look (runM p look j s) else runM p look j s := fun j => by
 induction j generalizing s with
 | zero => rfl
 | succ j ih =>
  rw [runM]
  by_cases h : s.status = 1
  ·rw [if_pos h, ih]
   have e : runM p look (j + 1) s = runM p look j (stepM p look s) := by rw [runM, if_pos h]
   rw [e]
  ·rw [if_neg h]
   have e : runM p look (j + 1) s = s := by rw [runM, if_neg h]
   rw [e, if_neg h]
theorem runM_end {p : Plan} {look : Bool} {s : St} {j : Nat} (h : (runM p look j s).status ≠ 1) : ∀ d, runM p look (j + d) s = runM p look j s
 | 0 => rfl
 | d + 1 => by
  have ih := runM_end h d
  rw [show j + (d + 1) = (j + d) + 1 from rfl, runM_one, ih, if_neg h]

set_option maxRecDepth 100000 in
theorem step_run (K : McP) (E : McE K) (n : Nat) (s : St) (m : MLay) (w : World) (h : McS K n s m w) (hn : n < 980000) (hok : s.status = 1 → OneOk K.p s) :
  Calls Tryz.prog 26 #[.pointer (some ⟨K.mb, 0, none⟩)] w (fun e w' => e = .returned (.tuple #[]) ∧ StOk K (n + 3) (stepM K.p K.look s) m w w') := by
 by_cases h1 : s.status = 1
 ·obtain ⟨f, hf, hs⟩ := hok h1
  have hkl := h.cels.length
  rw [hf] at hkl
  obtain ⟨k, hk⟩ : ∃ k, m.kc = [k] := by
   cases hc : m.kc with
   | nil => rw [hc] at hkl; cases hkl
   | cons k t =>
    cases t with
    | nil => exact ⟨k, rfl⟩
    | cons _ _ => rw [hc] at hkl; simp at hkl
  have hT : McT K n s [] f m [] k w := ⟨h, by rw [hf]; rfl, by rw [hk]; rfl, h1⟩
  have hp0 := hs.pc0
  have hp1 := hs.pc1
  have ha : f.pc.toNat < (mthOf K.p f.of_).code.length := by omega
  have e : (mthOf K.p f.of_).code.getD f.pc.toNat noIns = (mthOf K.p f.of_).code[f.pc.toNat] := by simp [List.getD, List.getElem?_eq_getElem ha]
  rw [e] at hs
  have h9 := step_ok K E n s f m [] k w hT hn f.pc.toNat (by omega) ha (by omega) hs
  unfold stepM
  rw [if_pos h1, hf]
  simp only [List.getLast?_singleton, List.dropLast_singleton]
  rw [e]
  exact h9
 ·unfold stepM
  rw [if_neg h1]
  refine (step_idle K n s m w h h1).mono ?_
  rintro e w' ⟨rfl, m', hS, hB, hf⟩
  exact ⟨rfl, m', hS.mono (by omega), hB, hf⟩

set_option maxRecDepth 100000 in
set_option maxHeartbeats 4000000 in
theorem vmRun_ok (p : Plan) (look : Bool) (s : St) (fuel : Nat) (cs : List Value) (pv : Value) (w : World) (h : Sl No w 2 (KprC No w) pv p.keepers) (hs : StC No w cs s) (hwf : ∀ o ∈ s.heap, (Lit.int .i64 o.of_.keeper).wf = true) (hwg : ∀ f ∈ s.frames, (Lit.int .i64 f.of_.of_.keeper).wf = true)
  (hfu : fuel ≤ 400) (hp : lodB p = true) (hst : stB p s = true) (hem : ∀ f ∈ s.frames, f.stack = []) (hfl : ∀ o ∈ s.heap, o.fields.length ≤ 1000) (hrun : RunOk p look s fuel) (hsm : SmS (runM p look fuel s)) :
  Calls Tryz.prog 12 #[.agg #[pv], .bool look, .agg cs.toArray, .int .i64 fuel] w (fun e w' => (∃ cs : List Value, e = .returned (.agg cs.toArray) ∧ StC (fun b => b < w.heap.size) w' cs (runM p look fuel s)) ∧ Fr No w w') := by
 obtain ⟨A, cap, rfl, _, _⟩ := h.form
 have hsO := hs.old
 obtain ⟨vf, vh, vo, rfl, hf, hh, ho⟩ := hs
 obtain ⟨Af, cf, rfl, _, _⟩ := hf.form
 obtain ⟨Ah, ch, rfl, _, _⟩ := hh.form
 obtain ⟨Ao, co, rfl, _, _⟩ := ho.form
 clear hf hh ho
 obtain ⟨wA, hwA⟩ : ∃ wA, wA = (((w.alloc (.cells #[.slice A p.keepers.length cap] 31)).alloc (.cells #[.int .i64 s.status, .slice Af s.frames.length cf, .slice Ah s.heap.length ch, .slice Ao s.outs.length co, .int .i64 s.back.kind, .int .i64 s.back.n] tVSt)).alloc (.cells #[.int .i64 0, .slice none 0 0, .slice none 0 0, .slice none 0 0, .int .i64 0, .int .i64 0] tVSt)) := ⟨_, rfl⟩
 have hfA : Fr No w wA := hwA ▸ frc
 have B0 : Bx wA w.heap.size 31 #[.slice A p.keepers.length cap] := hwA ▸ ((Bx.new _ _ _).alloc _).alloc _
 have B1 : Bx wA (w.heap.size + 1) tVSt #[.int .i64 s.status, .slice Af s.frames.length cf, .slice Ah s.heap.length ch, .slice Ao s.outs.length co, .int .i64 s.back.kind, .int .i64 s.back.n] := hwA ▸ (Bx.new_ (by simp)).alloc _
 have B2 : Bx wA (w.heap.size + 1 + 1) tVSt #[.int .i64 0, .slice none 0 0, .slice none 0 0, .slice none 0 0, .int .i64 0, .int .i64 0] := hwA ▸ Bx.new_ (by simp)
 have HN := newLodge_ok p _ wA (h.keep hfA (fun _ h => h.elim) (fun _ _ _ h => h.keep hfA (fun _ h => h.elim)))
 unfold NewPost at HN
 have q0 := B0.c1
 have l0 := B0.lt
 have l2 := B2.lt
 have hsA := hfA.size
 have hsO := hsO.keep hfA (fun _ h => h.elim)
 clear h
 rw [hp] at HN
 go_enter Tryz.func12, Tryz.ntmps12
 go_wp2_with fail
 rw [← hwA]
 replace hwA := Lib.hid hwA
 refine HN.mono ?_
 rintro e w1 ⟨hf1, ⟨hno, _⟩ | ⟨_, l, bl, rfl, hll, hbl, hLo⟩⟩
 ·cases hno
 have hLg : Lg w1 l bl 0 p := ⟨_, hLo, fun _ _ _ h => by cases h⟩
 have hw1 : Fr No w w1 := hfA.trans0 hf1
 have hs1 := hf1.size
 have hsO1 := hsO.keep hf1 (fun _ h => h.elim)
 have HVm := vm_ok (fun b => w.heap.size ≤ b) l bl 0 p s _ w1 hLg hsO1 (by omega) hwf hwg (by omega)
 rw [hst] at HVm
 unfold LgPost at HVm
 obtain ⟨y0, y1, y2, y3, y4, y5⟩ := (B1.keep hf1).c6
 have yf := fun i => (B1.keep hf1).frozen i
 have yl := (B1.keep hf1).lt
 have hfu' : ¬ (400 : Int) < (fuel : Int) := by omega
 have hfuB : decide ((400 : Int) < (fuel : Int)) = false := decide_eq_false hfu'
 clear q0 l0 HN hLo hLg hsO
 have B1' := B1.keep hf1
 have B2' := B2.keep hf1
 have hl8 := B1'.lt
 have B2h := Lib.hid B2
 clear B0 B1 B2
 go_wp2_with (go_at_call 24; (refine HVm.mono ?_); (rintro e w2 ⟨rfl, hf2, hL2⟩); (have BB2 := B1'.keepX hf2 (by omega)); (obtain ⟨v0, v1, v2, v3, v4, v5⟩ := BB2.c6); (have vf := fun i => BB2.frozen i); (have vl := BB2.lt))
 have hS2 := hsO1.keep hf2 (fun b e => by omega)
 have hs2 := hf2.size
 have hM := newMachine_ok (fun b => w.heap.size ≤ b) l bl (0 + 40) p look s _ w2 hL2 hS2 (fun b h => by omega) hst hem hfl
 have B2w := B2'.keepX hf2 (by omega)
 have hf2A : Fr (fun b => wA.heap.size ≤ b) wA w2 := (hf1.of0 (X := fun b => wA.heap.size ≤ b)).trans hf2 (fun b _ e => by omega)
 clear y0 y1 y2 y3 y4 y5 yf yl v0 v1 v2 v3 v4 v5 vf vl BB2
 refine hM.mono ?_
 rintro e w3 ⟨rfl, ⟨m0, hM0⟩, hf3⟩
 have hE : McE ⟨w2, l, bl, p, look, w2.heap.size + 1⟩ := ⟨_, hL2⟩
 have hI0 : Hid ((∃ m, McS ⟨w2, l, bl, p, look, w2.heap.size + 1⟩ (40 + 3 * 0) (runM p look 0 s) m w3) ∧ Fr (fun b => wA.heap.size ≤ b) wA w3) := Lib.hid ⟨⟨m0, hM0⟩, hf2A.trans0 hf3⟩
 clear HVm hM hM0 hS2 hsO1 hf2A hwf hwg hfl
 go_wp2_with fail
 go_loopw [11] (fun i wr => ∃ j : Nat, j ≤ fuel ∧ i = .int .i64 j ∧ Hid ((∃ m, McS ⟨w2, l, bl, p, look, w2.heap.size + 1⟩ (40 + 3 * j) (runM p look j s) m wr) ∧ Fr (fun b => wA.heap.size ≤ b) wA wr)) (fun i _ => fuel - (intOf i).toNat)
 case atStart => exact ⟨0, Nat.zero_le _, rfl, hI0⟩
 case round =>
  clear hI0
  obtain ⟨j, hj, rfl, hI⟩ := hrel
  obtain ⟨⟨m, hM⟩, hfr⟩ := hI.out
  clear hI
  have hj1 := runM_one (p := p) (look := look) s j
  have hje : ∀ d, (runM p look j s).status ≠ 1 → runM p look (j + d) s = runM p look j s := fun d h => runM_end h d
  have hro : j < fuel → (runM p look j s).status = 1 → OneOk p (runM p look j s) := fun h => hrun j h
  have hnew : ∀ b ∈ mcB ⟨w2, l, bl, p, look, w2.heap.size + 1⟩ m, w2.heap.size ≤ b := hM.new
  have hend : j = fuel ∨ (runM p look j s).status ≠ 1 → runM p look j s = runM p look fuel s := fun h => by
   rcases h with h | h
   ·rw [h]
   ·rw [← hje (fuel - j) h]; congr 1; omega
  by_cases hgo : j < fuel ∧ (runM p look j s).status = 1
  ·obtain ⟨hlt, h1⟩ := hgo
   rw [if_pos h1] at hj1
   have hstep := step_run _ hE _ _ m wr hM (by omega) (fun _ => hro hlt h1)
   have KM := hM.cells wr (Fr.refl _ _)
   rw [h1] at KM
   obtain ⟨_, _, z2, _, _, _, _, _, zf, zl⟩ := KM
   dsimp only at z2 zf zl hstep
   rw [← hj1] at hstep
   have hadd : IntKind.i64.wrap ((j : Int) + 1) = ((j + 1 : Nat) : Int) := by rw [IntWalk.i64_in _ (by omega)]; simp
   have hltB : decide ((j : Int) < (fuel : Int)) = true := decide_eq_true (by omega)
   have hlt' : (j : Int) < (fuel : Int) := by omega
   replace hM := Lib.hid hM
   replace hj1 := Lib.hid hj1
   replace h1 := Lib.hid h1
   clear hje hro hend hrun
   go_wp2_with (go_at_call 26; (refine hstep.mono ?_); (rintro e w5 ⟨rfl, m5, hM5, hB5, hf5⟩))
   exact ⟨⟨j + 1, by omega, by simp, Lib.hid ⟨⟨m5, hM5.mono (by omega)⟩, hfr.trans hf5 (fun b _ e => e.elim (fun e => by subst e; omega) (fun e => by have := hnew b e; omega))⟩⟩, by simp [intOf]; omega⟩
  ·have he : runM p look j s = runM p look fuel s := hend (by omega)
   have hS := state_ok _ _ _ m wr hM (by rw [he]; exact hsm)
   have KM := hM.cells wr (Fr.refl _ _)
   obtain ⟨_, _, z2, _, _, _, _, _, zf, zl⟩ := KM
   dsimp only at z2 zf zl hS
   rw [he] at hS
   have hw : Fr No w wr := hfA.trans hfr (fun b hb e => by omega)
   have hno : j < fuel → (runM p look fuel s).status ≠ 1 := fun h h1 => hgo ⟨h, he ▸ h1⟩
   rw [he] at z2
   have hBr := B2h.out.keepX hfr (by omega)
   have hbr := hBr.lt
   clear hj1 hje hro hend hgo hM hrun hsm
   generalize ht : runM p look fuel s = t at *
   clear he
   by_cases hlt : j < fuel
   ·have h1 := hno hlt
    have h1B : (t.status == 1) = false := by simp [h1]
    have hltB : decide ((j : Int) < (fuel : Int)) = true := decide_eq_true (by omega)
    have hlt' : (j : Int) < (fuel : Int) := by omega
    clear hno
    go_wp2_with (go_at_call 27; (refine hS.mono ?_); (rintro e w5 ⟨⟨cs5, rfl, vf5, vh5, vo5, rfl, hf5, hh5, ho5⟩, hfr5⟩); (obtain ⟨A1, c1, rfl, _, _⟩ := hf5.form); (obtain ⟨A2, c2, rfl, _, _⟩ := hh5.form); (obtain ⟨A3, c3, rfl, _, _⟩ := ho5.form); (have hB5 := hBr.keep hfr5); (obtain ⟨x0, x1, x2, x3, x4, x5⟩ := hB5.c6); (have xf := fun i => hB5.frozen i); (have xl := hB5.lt))
    obtain ⟨W7, hW7⟩ : ∃ W7, W7 = ((((((w5.setCell ⟨w.heap.size + 1 + 1, 0, none⟩ (.int .i64 t.status)).setCell ⟨w.heap.size + 1 + 1, 1, none⟩ (.slice A1 t.frames.length c1)).setCell ⟨w.heap.size + 1 + 1, 2, none⟩ (.slice A2 t.heap.length c2)).setCell ⟨w.heap.size + 1 + 1, 3, none⟩ (.slice A3 t.outs.length c3)).setCell ⟨w.heap.size + 1 + 1, 4, none⟩ (.int .i64 t.back.kind)).setCell ⟨w.heap.size + 1 + 1, 5, none⟩ (.int .i64 t.back.n)) := ⟨_, rfl⟩
    have B7 : Bx W7 (w.heap.size + 1 + 1) tVSt #[.int .i64 t.status, .slice A1 t.frames.length c1, .slice A2 t.heap.length c2, .slice A3 t.outs.length c3, .int .i64 t.back.kind, .int .i64 t.back.n] := hW7 ▸ hB5.fill6
    have hf7 : Fr (fun b => b = w.heap.size + 1 + 1) w5 W7 := hW7 ▸ (((((Fr.one _ _ _ _).same (Fr.one _ _ _ _)).same (Fr.one _ _ _ _)).same (Fr.one _ _ _ _)).same (Fr.one _ _ _ _)).same (Fr.one _ _ _ _)
    rw [← hW7]
    clear hW7
    obtain ⟨r0, r1, r2, r3, r4, r5⟩ := B7.c6
    have rl := B7.lt
    refine bodyPost_ret (v := .agg #[.int .i64 t.status, .slice A1 t.frames.length c1, .slice A2 t.heap.length c2, .slice A3 t.outs.length c3, .int .i64 t.back.kind, .int .i64 t.back.n]) (by simp [results, Tryz.results12, go_sem, *]) rfl ?_
    have hnx : ∀ b, b = w.heap.size + 1 + 1 → b < wr.heap.size := fun b e => by omega
    rw [ht]
    exact ⟨⟨[_, _, _, _, _, _], rfl, _, _, _, rfl, (hf5.keep hf7 hnx (fun _ _ _ h => h.keep hf7 hnx)).weaken (Y := fun b => b < w.heap.size) (fun b e => by omega) (fun _ _ _ h => h.weaken (fun b e => by omega)), (hh5.keep hf7 hnx (fun _ _ _ h => h.keep hf7 hnx)).weaken (Y := fun b => b < w.heap.size) (fun b e => by omega) (fun _ _ _ h => h.weaken (fun b e => by omega)), (ho5.keep hf7 hnx (fun _ _ _ h => h)).weaken (Y := fun b => b < w.heap.size) (fun b e => by omega) (fun _ _ _ h => h)⟩, (hw.trans0 hfr5).trans hf7 (fun b hb e => by omega)⟩
   ·have hltB : decide ((j : Int) < (fuel : Int)) = false := decide_eq_false (by omega)
    have hlt' : ¬ (j : Int) < (fuel : Int) := by omega
    clear hno
    go_wp2_with (go_at_call 27; (refine hS.mono ?_); (rintro e w5 ⟨⟨cs5, rfl, vf5, vh5, vo5, rfl, hf5, hh5, ho5⟩, hfr5⟩); (obtain ⟨A1, c1, rfl, _, _⟩ := hf5.form); (obtain ⟨A2, c2, rfl, _, _⟩ := hh5.form); (obtain ⟨A3, c3, rfl, _, _⟩ := ho5.form); (have hB5 := hBr.keep hfr5); (obtain ⟨x0, x1, x2, x3, x4, x5⟩ := hB5.c6); (have xf := fun i => hB5.frozen i); (have xl := hB5.lt))
    obtain ⟨W7, hW7⟩ : ∃ W7, W7 = ((((((w5.setCell ⟨w.heap.size + 1 + 1, 0, none⟩ (.int .i64 t.status)).setCell ⟨w.heap.size + 1 + 1, 1, none⟩ (.slice A1 t.frames.length c1)).setCell ⟨w.heap.size + 1 + 1, 2, none⟩ (.slice A2 t.heap.length c2)).setCell ⟨w.heap.size + 1 + 1, 3, none⟩ (.slice A3 t.outs.length c3)).setCell ⟨w.heap.size + 1 + 1, 4, none⟩ (.int .i64 t.back.kind)).setCell ⟨w.heap.size + 1 + 1, 5, none⟩ (.int .i64 t.back.n)) := ⟨_, rfl⟩
    have B7 : Bx W7 (w.heap.size + 1 + 1) tVSt #[.int .i64 t.status, .slice A1 t.frames.length c1, .slice A2 t.heap.length c2, .slice A3 t.outs.length c3, .int .i64 t.back.kind, .int .i64 t.back.n] := hW7 ▸ hB5.fill6
    have hf7 : Fr (fun b => b = w.heap.size + 1 + 1) w5 W7 := hW7 ▸ (((((Fr.one _ _ _ _).same (Fr.one _ _ _ _)).same (Fr.one _ _ _ _)).same (Fr.one _ _ _ _)).same (Fr.one _ _ _ _)).same (Fr.one _ _ _ _)
    rw [← hW7]
    clear hW7
    obtain ⟨r0, r1, r2, r3, r4, r5⟩ := B7.c6
    have rl := B7.lt
    refine bodyPost_ret (v := .agg #[.int .i64 t.status, .slice A1 t.frames.length c1, .slice A2 t.heap.length c2, .slice A3 t.outs.length c3, .int .i64 t.back.kind, .int .i64 t.back.n]) (by simp [results, Tryz.results12, go_sem, *]) rfl ?_
    have hnx : ∀ b, b = w.heap.size + 1 + 1 → b < wr.heap.size := fun b e => by omega
    rw [ht]
    exact ⟨⟨[_, _, _, _, _, _], rfl, _, _, _, rfl, (hf5.keep hf7 hnx (fun _ _ _ h => h.keep hf7 hnx)).weaken (Y := fun b => b < w.heap.size) (fun b e => by omega) (fun _ _ _ h => h.weaken (fun b e => by omega)), (hh5.keep hf7 hnx (fun _ _ _ h => h.keep hf7 hnx)).weaken (Y := fun b => b < w.heap.size) (fun b e => by omega) (fun _ _ _ h => h.weaken (fun b e => by omega)), (ho5.keep hf7 hnx (fun _ _ _ h => h)).weaken (Y := fun b => b < w.heap.size) (fun b e => by omega) (fun _ _ _ h => h)⟩, (hw.trans0 hfr5).trans hf7 (fun b hb e => by omega)⟩
end Go.Proofs.YtbalicnnlfennaaGreat

namespace Go.Proofs.YtbalicnnlfennaaGreat
open Go.RowKit

set_option maxRecDepth 100000 in
set_option maxHeartbeats 4000000 in
theorem startable_ok (X : Nat → Prop) (mn : Str) (a0 : Value) (margs : List Knd) (m2 m4 m5 : Int) (m3 : Str) (m6 m7 : Value) (va : Value) (args : List Int) (w : World) (h : Sl X w 2 KndC a0 margs) (hv : Sl X w 1 OutC va args) (hl : margs.length = args.length) (hk : ∀ t ∈ margs, t.kind = 1) (hl3 : margs.length ≤ 100) :
  Calls Tryz.prog 35 #[.agg #[.string mn, a0, .int .i64 m2, .string m3, .int .i64 m4, .int .i64 m5, m6, m7], va] w (Gives (.bool true) w) := by
 obtain ⟨A, c, rfl, _, _⟩ := h.form
 obtain ⟨A2, c2, rfl, _, _⟩ := hv.form
 rw [hl] at h
 rw [hl]
 have hl3 : args.length ≤ 100 := by omega
 obtain ⟨wA, hwA⟩ : ∃ wA, wA = (w.alloc (.cells #[.string mn, .slice A args.length c, .int .i64 m2, .string m3, .int .i64 m4, .int .i64 m5, m6, m7] 67)) := ⟨_, rfl⟩
 have hfA : Fr No w wA := hwA ▸ frc
 have hA := h.keep (R' := KndC) hfA (fun _ h => h.elim) (fun _ _ _ h => h)
 clear h hv
 have hI0 : Hid (Fr No wA wA) := Fr.refl _ _
 go_enter Tryz.func35, Tryz.ntmps35
 go_wp2_with fail
 rw [← hwA]
 replace hwA := Lib.hid hwA
 go_loopw [16] (fun i wr => ∃ j : Nat, j ≤ args.length ∧ i = .int .i64 j ∧ Hid (Fr No wA wr)) (fun i _ => args.length - (intOf i).toNat)
 case atStart => exact ⟨0, Nat.zero_le _, rfl, hI0⟩
 case round =>
  clear hI0
  obtain ⟨j, hj, rfl, hI⟩ := hrel
  have hfr := hI.out
  clear hI
  by_cases hlt : j < args.length
  ·obtain ⟨b, off, rfl, _, k0, k1, _⟩ := (hA.keep (R' := KndC) hfr (fun _ h => h.elim) (fun _ _ _ h => h)).knd (k := j) (by omega)
   have hkj := hk _ (List.getElem_mem (show j < margs.length by omega))
   rw [hkj] at k0
   have hadd : IntKind.i64.wrap ((j : Int) + 1) = ((j + 1 : Nat) : Int) := by rw [IntWalk.i64_in _ (by omega)]; simp
   clear hk hkj
   generalize margs[j] = t at *
   clear hA hl
   go_wp2_with fail
   exact ⟨⟨j + 1, by omega, by simp, Lib.hid frc⟩, by simp [intOf]; omega⟩
  ·clear hl
   obtain rfl : j = args.length := by omega
   go_wp2_with fail
   refine bodyPost_ret (results_tmp rfl _ _ _) rfl ?_
   exact ⟨rfl, hfA.trans0 hfr⟩

theorem mcs_zero {w w1 : World} {l bl n : Nat} {p : Plan} {look : Bool} {mb : Nat} (hlg : Lg w l bl n p) (hmb : w.heap.size ≤ mb) (hf1 : Fr No w w1)
  (hb : Bx w1 mb tMach #[.pointer (some ⟨l, 0, none⟩), .bool look, .int .i64 1, .slice none 0 0, .slice none 0 0, .slice none 0 0, .int .i64 0, .int .i64 0]) :
  McS ⟨w, l, bl, p, look, mb⟩ n ⟨1, [], [], [], noVal⟩ ⟨.slice none 0 0, .slice none 0 0, .slice none 0 0, [], []⟩ w1 := by
 have hmc : mcB ⟨w, l, bl, p, look, mb⟩ ⟨.slice none 0 0, .slice none 0 0, .slice none 0 0, [], []⟩ = [mb] := by
  unfold mcB
  simp [rowB, rowBlk_nil]
 refine ⟨hf1.of0, hlg.keep hf1, hb, RowV.nil _ _ _, trivial, RowV.nil _ _ _, trivial, RowV.nil _ _ _, ?_, ?_⟩
 ·rw [hmc]; simp
 ·rw [hmc]; intro b hb; rw [List.mem_singleton] at hb; subst hb; exact hmb
end Go.Proofs.YtbalicnnlfennaaGreat
