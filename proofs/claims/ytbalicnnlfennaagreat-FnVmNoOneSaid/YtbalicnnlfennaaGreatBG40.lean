/- The program's own machine: what a run has become. -/
import Derived.Test.YtbalicnnlfennaaGreatBG39
namespace Go.Proofs.YtbalicnnlfennaaGreat
open Go.RowKit

abbrev tVSt : TypeId := 42
abbrev tVFrm : TypeId := 107

/-- What of a run is small. -/
def SmS (s : St) : Prop := s.heap.length ≤ 1000 ∧ (∀ o ∈ s.heap, o.fields.length ≤ 1000) ∧ s.outs.length ≤ 1000 ∧ s.frames.length ≤ 1000 ∧ ∀ f ∈ s.frames, f.locals.length ≤ 1000 ∧ f.stack.length ≤ 1000

section
variable {κ β : Type} {L : El κ β} {base : Nat} {W W' : World} {v : Value} {xs : List β} {ks : List κ}
/-- A table that is new; nothing is written to it but at its end. -/
def CpR (L : El κ β) (base : Nat) (W : World) (v : Value) (xs : List β) (ks : List κ) : Prop :=
  RowV W L.e L.sz v xs.length (ks.flatMap L.C) ∧ Els L W ks xs ∧ (∀ b ∈ ks.flatMap L.B, ¬ rowBlk v = some b) ∧ (∀ b ∈ rowB v ++ ks.flatMap L.B, base ≤ b)
theorem CpR.keepM {X : Nat → Prop} (h : CpR L base W v xs ks) (hf : Fr X W W') (hX : ∀ b ∈ rowB v ++ ks.flatMap L.B, ¬ X b) : CpR L base W' v xs ks := by
  obtain ⟨h1, h2, h3, h4⟩ := h
  exact ⟨h1.keepB hf (fun b hb => hX b (List.mem_append_left _ hb)), h2.keep hf (fun b hb => hX b (List.mem_append_right _ hb)), h3, h4⟩
theorem CpR.keep0 (h : CpR L base W v xs ks) (hf : Fr No W W') : CpR L base W' v xs ks := h.keepM hf (fun _ _ h => h)
theorem CpR.lt (h : CpR L base W v xs ks) : ∀ b ∈ rowB v ++ ks.flatMap L.B, b < W.heap.size := fun b hb => (List.mem_append.1 hb).elim (fun hb => h.1.ltB hb) (fun hb => h.2.1.lt b hb)
theorem CpR.snoc {k : κ} {x : β} {g' cap' : Nat} (h : CpR L base W v xs ks) (hR : L.R W k x) (hff : ∀ q ∈ L.B k, base ≤ q) (hne : ∀ q ∈ L.B k, ¬ rowBlk v = some q)
    (hrow : RowV W' L.e L.sz (.slice (some ⟨g', 0, none⟩) (xs.length + 1) cap') (xs.length + 1) (ks.flatMap L.C ++ L.C k))
    (hgf : Fr (fun b => rowBlk v = some b) W W') (hor : rowBlk v = some g' ∨ g' = W.heap.size) (hcap : xs.length + 1 ≤ cap') (hbase : base ≤ W.heap.size) :
    CpR L base W' (.slice (some ⟨g', 0, none⟩) (xs.length + 1) cap') (xs ++ [x]) (ks ++ [k]) := by
  obtain ⟨h1, h2, h3, h4⟩ := h
  have hqn : rowBlk (.slice (some ⟨g', 0, none⟩) (xs.length + 1) cap') = some g' := rowBlk_some (by omega)
  have hqB : rowB (.slice (some ⟨g', 0, none⟩) (xs.length + 1) cap') = [g'] := by unfold rowB; rw [hqn]; rfl
  have hfl : (ks ++ [k]).flatMap L.B = ks.flatMap L.B ++ L.B k := by rw [List.flatMap_append]; simp
  refine ⟨?_, ?_, ?_, ?_⟩
  · rw [List.flatMap_append, List.length_append]
    simpa using hrow
  · exact (h2.keep hgf h3).snoc (L.keep hR hgf hne)
  · rw [hqn, hfl]
    intro b hb e
    cases Option.some.inj e
    rcases List.mem_append.1 hb with hb | hb
    · rcases hor with h9 | h9
      · exact h3 _ hb h9
      · have := h2.lt _ hb; omega
    · rcases hor with h9 | h9
      · exact hne _ hb h9
      · have := L.lt hR hb; omega
  · rw [hqB, hfl]
    intro b hb
    rcases List.mem_append.1 hb with hb | hb
    · rw [List.mem_singleton] at hb
      subst hb
      rcases hor with h9 | h9
      · exact h4 _ (List.mem_append_left _ (rowB_c h9))
      · omega
    · rcases List.mem_append.1 hb with hb | hb
      · exact h4 _ (List.mem_append_right _ hb)
      · exact hff _ hb
end
/-- A method as it is handed back. -/
structure KF where
  m : LMth
  pc : Int
  vl : Value
  vs : Value
def KF.B (k : KF) : List Nat := rowB k.vl ++ rowB k.vs
def calF : El KF Cal where
  e := tVFrm
  sz := 6
  C := fun k => [.int .i64 k.m.of_.keeper, .string k.m.of_.name, .int .i64 k.m.at_, .int .i64 k.pc, k.vl, k.vs]
  B := KF.B
  R := fun W k f => k.m = f.of_ ∧ k.pc = f.pc ∧ f.of_.of_.name.size ≤ maxLen ∧ ValRow W k.vl f.locals ∧ ValRow W k.vs f.stack
  len := fun _ => rfl
  keep := fun h hf hb => ⟨h.1, h.2.1, h.2.2.1, h.2.2.2.1.keepB hf (fun q hq => hb q (List.mem_append_left _ hq)), h.2.2.2.2.keepB hf (fun q hq => hb q (List.mem_append_right _ hq))⟩
  lt := fun h hb => (List.mem_append.1 hb).elim (fun hb => RowV.ltB h.2.2.2.1 hb) (fun hb => RowV.ltB h.2.2.2.2 hb)
theorem CpR.cals {X : Nat → Prop} {base : Nat} {W : World} {v : Value} {xs : List Cal} {ks : List KF} (h : CpR calF base W v xs ks) (hX : ∀ b, base ≤ b → ¬ X b) : Sl X W 6 (CalC X W) v xs :=
  RowV.slW calF.len h.1 h.2.1.length (fun i h1 h2 => by
    obtain ⟨e1, e2, e3, e4, e5⟩ := h.2.1.get i h1 h2
    have hm : ∀ q ∈ KF.B ks[i], base ≤ q := fun q hq => h.2.2.2 q (List.mem_append_right _ (List.mem_flatMap.2 ⟨_, List.getElem_mem h1, hq⟩))
    exact ⟨_, _, by simp only [calF, e1, e2], e3, ValRow.sl e4 (fun q hq => hX q (hm q (List.mem_append_left _ (rowB_c hq)))), ValRow.sl e5 (fun q hq => hX q (hm q (List.mem_append_right _ (rowB_c hq))))⟩) (fun q hq => hX q (h.2.2.2 q (List.mem_append_left _ (rowB_c hq))))
theorem HpR.objs {X : Nat → Prop} {base : Nat} {W : World} {v : Value} {xs : List Obj} {ks : List KO} (h : HpR base W v xs ks) (hX : ∀ b, base ≤ b → ¬ X b) : Sl X W 3 (ObjC X W) v xs :=
  RowV.slW objL.len h.1 h.2.1.length (fun i h1 h2 => by
    obtain ⟨e1, e2, e3⟩ := h.2.1.get i h1 h2
    exact ⟨_, by simp only [objL, e1], e2, ValRow.sl e3 (fun q hq => hX q (h.2.2.2 q (List.mem_append_right _ (List.mem_flatMap.2 ⟨_, List.getElem_mem h1, rowB_c hq⟩))))⟩) (fun q hq => hX q (h.2.2.2 q (List.mem_append_left _ (rowB_c hq))))
theorem Els.valB {W : World} : ∀ {ks : List KO} {xs : List Obj}, Els objL W ks xs → ∀ b ∈ ks.flatMap KO.B, ∃ cs, Bx W b tVal cs
  | [], [], _, b, hb => by cases hb
  | k :: ks, x :: xs, h, b, hb => by
    rw [List.flatMap_cons, List.mem_append] at hb
    rcases hb with hb | hb
    · exact RowV.box h.1.2.2 (mem_rowB.1 hb)
    · exact Els.valB h.2 b hb
  | [], _ :: _, h, _, _ => h.elim
  | _ :: _, [], h, _, _ => h.elim
theorem HpR.keepM {X : Nat → Prop} {base : Nat} {W W' : World} {v : Value} {xs : List Obj} {ko : List KO} (h : HpR base W v xs ko) (hf : Fr X W W') (hX : ∀ b ∈ rowB v ++ ko.flatMap KO.B, ¬ X b) : HpR base W' v xs ko := by
  obtain ⟨h1, h2, h3, h4⟩ := h
  exact ⟨h1.keepB hf (fun b hb => hX b (List.mem_append_left _ hb)), h2.keep hf (fun b hb => hX b (List.mem_append_right _ hb)), h3, h4⟩
theorem Bx.fill6 {w : World} {g : Nat} {t : TypeId} {x0 x1 x2 x3 x4 x5 c0 c1 c2 c3 c4 c5 : Value} (h : Bx w g t #[x0, x1, x2, x3, x4, x5]) :
    Bx ((((((w.setCell ⟨g, 0, none⟩ c0).setCell ⟨g, 1, none⟩ c1).setCell ⟨g, 2, none⟩ c2).setCell ⟨g, 3, none⟩ c3).setCell ⟨g, 4, none⟩ c4).setCell ⟨g, 5, none⟩ c5) g t #[c0, c1, c2, c3, c4, c5] :=
  (((((h.setc (i := 0) rfl).setc (i := 1) rfl).setc (i := 2) rfl).setc (i := 3) rfl).setc (i := 4) rfl).setc (i := 5) rfl
theorem info_frm6 : (Tryz.prog.info? tVFrm).map (fun i => (i.zero, i.size, i.bytes)) = some (some (.agg #[.int .i64 0, .string ⟨#[]⟩, .int .i64 0, .int .i64 0, .slice none 0 0, .slice none 0 0]), 6, 88) := by kernel_rfl
theorem HpR.ne {base : Nat} {W : World} {v : Value} {xs : List Obj} {ks : List KO} (h : HpR base W v xs ks) {g : Nat} {cs : Array Value} (hb : Bx W g tVSt cs) : ∀ b ∈ rowB v ++ ks.flatMap KO.B, b ≠ g := fun b hx e => by
  subst e
  rcases List.mem_append.1 hx with hx | hx
  · exact RowV.ne h.1 hb (by decide) (mem_rowB.1 hx) rfl
  · obtain ⟨cs', hc⟩ := Els.valB h.2.1 b hx
    have := Option.some.inj (hc.symm.trans hb)
    cases this

/-- What the copying of a run yields, bit by bit. -/
def hpP (xs : List Obj) (base : Nat) : Value → World → Prop := fun v W => ∃ A c, v = .slice A xs.length c ∧ HpRow base W (.slice A xs.length c) xs
theorem hpP_mono (xs : List Obj) (base : Nat) : MonP (hpP xs base) := fun _ _ _ ⟨A, c, h1, ko, h2⟩ hf => ⟨A, c, h1, ko, h2.keep0 hf⟩
def outP (xs : List Int) (base : Nat) : Value → World → Prop := fun v W => ∃ A c, v = .slice A xs.length c ∧ OutRow W (.slice A xs.length c) xs ∧ ∀ q, rowBlk (.slice A xs.length c) = some q → base ≤ q
theorem outP_mono (xs : List Int) (base : Nat) : MonP (outP xs base) := fun _ _ _ ⟨A, c, h1, h2, h3⟩ hf => ⟨A, c, h1, RowV.keep0 h2 hf, h3⟩
def steP (s : St) (base : Nat) : Value → World → Prop := fun v W => ∃ A c A2 c2, v = .agg #[.int .i64 s.status, .slice none 0 0, .slice A s.heap.length c, .slice A2 s.outs.length c2, .int .i64 s.back.kind, .int .i64 s.back.n] ∧ HpRow base W (.slice A s.heap.length c) s.heap ∧ OutRow W (.slice A2 s.outs.length c2) s.outs ∧ ∀ q, rowBlk (.slice A2 s.outs.length c2) = some q → base ≤ q
theorem steP_mono (s : St) (base : Nat) : MonP (steP s base) := fun _ _ _ ⟨A, c, A2, c2, h1, ⟨ko, h2⟩, h3, h4⟩ hf => ⟨A, c, A2, c2, h1, ⟨ko, h2.keep0 hf⟩, RowV.keep0 h3 hf, h4⟩
def frmP (f : Cal) (base : Nat) : Value → World → Prop := fun v W => ∃ A c A2 c2, v = .agg #[.int .i64 f.of_.of_.keeper, .string f.of_.of_.name, .int .i64 f.of_.at_, .int .i64 f.pc, .slice A f.locals.length c, .slice A2 f.stack.length c2] ∧ ValRow W (.slice A f.locals.length c) f.locals ∧ (∀ q, rowBlk (.slice A f.locals.length c) = some q → base ≤ q) ∧ ValRow W (.slice A2 f.stack.length c2) f.stack ∧ (∀ q, rowBlk (.slice A2 f.stack.length c2) = some q → base ≤ q)
theorem frmP_mono (f : Cal) (base : Nat) : MonP (frmP f base) := fun _ _ _ ⟨A, c, A2, c2, h1, h2, h3, h4, h5⟩ hf => ⟨A, c, A2, c2, h1, h2.keep0 hf, h3, h4.keep0 hf, h5⟩
def frsP (f : Cal) (base : Nat) : Value → World → Prop := fun v W => ∃ k A c A2 c2, v = .slice (some ⟨k, 0, none⟩) 1 1 ∧ Bx W k tVFrm #[.int .i64 f.of_.of_.keeper, .string f.of_.of_.name, .int .i64 f.of_.at_, .int .i64 f.pc, .slice A f.locals.length c, .slice A2 f.stack.length c2] ∧ ValRow W (.slice A f.locals.length c) f.locals ∧ (∀ q, rowBlk (.slice A f.locals.length c) = some q → base ≤ q) ∧ ValRow W (.slice A2 f.stack.length c2) f.stack ∧ (∀ q, rowBlk (.slice A2 f.stack.length c2) = some q → base ≤ q)
theorem frsP_mono (f : Cal) (base : Nat) : MonP (frsP f base) := fun _ _ _ ⟨k, A, c, A2, c2, h1, h6, h2, h3, h4, h5⟩ hf => ⟨k, A, c, A2, c2, h1, h6.keep hf, h2.keep0 hf, h3, h4.keep0 hf, h5⟩

set_option maxRecDepth 100000 in
set_option maxHeartbeats 4000000 in
theorem state_ok (K : McP) (n : Nat) (s : St) (m : MLay) (w : World) (h : McS K n s m w) (hsm : SmS s) :
    Calls Tryz.prog 27 #[.pointer (some ⟨K.mb, 0, none⟩)] w (fun e w' => (∃ cs : List Value, e = .returned (.agg cs.toArray) ∧ StC (fun b => b < w.heap.size) w' cs s) ∧ Fr No w w') := by
  obtain ⟨q1, q2, q3, q4, q5⟩ := hsm
  obtain ⟨Ac, cc, hvc, _, hcm⟩ := h.crow.form
  obtain ⟨Ah, ch, hvh, _, _⟩ := h.hrow.form
  obtain ⟨Ao, co, hvo, _, _⟩ := h.orow.form
  obtain ⟨wA, hwA⟩ : ∃ wA, wA = w.alloc (.cells #[.int .i64 0, .slice none 0 0, .slice none 0 0, .slice none 0 0, .int .i64 0, .int .i64 0] tVSt) := ⟨_, rfl⟩
  have hfA : Fr No w wA := hwA ▸ frc
  have BA := (hwA ▸ bxc : Bx wA w.heap.size tVSt #[.int .i64 0, .slice none 0 0, .slice none 0 0, .slice none 0 0, .int .i64 0, .int .i64 0])
  have HH := fun W (hW : Fr No wA W) => copyHeap_ok _ s.heap W ((h.heapSl.keep (hfA.trans0 hW) (fun _ h => h) (fun _ _ _ h => h.keep (hfA.trans0 hW) (fun _ h => h)))) q1 q2
  have HO := fun W (hW : Fr No wA W) => cloneO_ok No m.vo s.outs W ((OutRow.sl h.orow (X := No) (fun _ _ h => h)).keep (hfA.trans0 hW) (fun _ h => h) (fun _ _ _ h => h)) q3
  have KM := fun W (hW : Fr No wA W) => h.cells W (hfA.trans0 hW)
  rw [hvc, hvh, hvo] at KM
  rw [hvh] at HH
  rw [hvo] at HO
  go_enter Tryz.func27, Tryz.ntmps27
  go_wp2_with fail
  rw [← hwA]
  replace hwA := Lib.hid hwA
  refine wp_region_monR 20 25 [mV (.pointer (some ⟨K.mb, 0, none⟩)), mV (.pointer (some ⟨K.mb, 0, none⟩)), mV (.pointer (some ⟨K.mb, 2, none⟩)), mV (.int .i64 s.status), mV (.pointer (some ⟨K.mb, 0, none⟩)), mV (.pointer (some ⟨K.mb, 0, none⟩)), mV (.pointer (some ⟨K.mb, 4, none⟩)), mV (.slice Ah s.heap.length ch), mC (hpP s.heap wA.heap.size) (hpP_mono _ _), mV (.pointer (some ⟨K.mb, 0, none⟩)), mV (.pointer (some ⟨K.mb, 0, none⟩)), mV (.pointer (some ⟨K.mb, 5, none⟩)), mV (.slice Ao s.outs.length co), mC (outP s.outs wA.heap.size) (outP_mono _ _), mV (.pointer (some ⟨K.mb, 0, none⟩)), mV (.pointer (some ⟨K.mb, 0, none⟩)), mV (.pointer (some ⟨K.mb, 6, none⟩)), mV (.agg #[.int .i64 s.back.kind, .int .i64 s.back.n]), mC (steP s wA.heap.size) (steP_mono _ _), mB 42 (#[.int .i64 0, .slice none 0 0, .slice none 0 0, .slice none 0 0, .int .i64 0, .int .i64 0]) wA.heap.size] (by kernel_rfl) (by kernel_rfl) (by simp) ?_ ?_
  · refine hopC ?_ <| hopC ?_ <| hopC ?_ <| hopC ?_ <| hopC ?_ <| hopC ?_ <| hopC ?_ <| hopC ?_ <| hopC ?_ <| hopC ?_ <| hopC ?_ <| hopC ?_ <| hopC ?_ <| hopC ?_ <| hopC ?_ <| hopC ?_ <| hopC ?_ <| hopC ?_ <| hopC ?_ <| hopC ?_ <| hopZ
    all_goals (intro a' W hW hoff hdep; have hbs := hW.size; have H0 := hoff 0 rfl; refine nE rfl ?_)
    · simp [execOp, Act.eval, H0, go_sem, givesUpon]; exact fr1 rfl
    · have D6 : _ = _ := hdep 0 6 rfl; simp [execOp, Act.eval, D6, go_sem, givesUpon]; exact fr1 rfl
    · have D7 : _ = _ := hdep 1 7 rfl; simp [execOp, Act.eval, D7, go_sem, givesUpon]; exact fr1 rfl
    · have D8 : _ = _ := hdep 2 8 rfl; clear hoff hdep; simp [execOp, Act.eval, go_sem, givesUpon, *]; exact fr1 rfl
    · simp [execOp, Act.eval, H0, go_sem, givesUpon]; exact fr1 rfl
    · have D10 : _ = _ := hdep 4 10 rfl; simp [execOp, Act.eval, D10, go_sem, givesUpon]; exact fr1 rfl
    · have D11 : _ = _ := hdep 5 11 rfl; simp [execOp, Act.eval, D11, go_sem, givesUpon]; exact fr1 rfl
    · have D12 : _ = _ := hdep 6 12 rfl; clear hoff hdep; simp [execOp, Act.eval, go_sem, givesUpon, *]; exact fr1 rfl
    · have D13 : _ = _ := hdep 7 13 rfl; simp [Act.eval, D13, go_sem, givesUpon]; exact (HH _ hW).mono (by intro e w9 h; obtain ⟨v, rfl, ⟨ko, h3⟩, h4⟩ := h; obtain ⟨A, c, rfl, _, _⟩ := h3.1.form; exact ⟨_, rfl, h4, A, c, rfl, ko, h3.1, h3.2.1, h3.2.2.1, fun b hb => Nat.le_trans hbs (h3.2.2.2 b hb)⟩)
    · simp [execOp, Act.eval, H0, go_sem, givesUpon]; exact fr1 rfl
    · have D15 : _ = _ := hdep 9 15 rfl; simp [execOp, Act.eval, D15, go_sem, givesUpon]; exact fr1 rfl
    · have D16 : _ = _ := hdep 10 16 rfl; simp [execOp, Act.eval, D16, go_sem, givesUpon]; exact fr1 rfl
    · have D17 : _ = _ := hdep 11 17 rfl; clear hoff hdep; simp [execOp, Act.eval, go_sem, givesUpon, *]; exact fr1 rfl
    · have D18 : _ = _ := hdep 12 18 rfl; simp [Act.eval, D18, go_sem, givesUpon]; exact (HO _ hW).mono (by intro e w9 h; obtain ⟨v, rfl, h3, h5, h4⟩ := h; obtain ⟨A, c, rfl, _, _⟩ := h3.form; exact ⟨_, rfl, h4, A, c, rfl, h3, fun q hq => Nat.le_trans hbs (h5 q hq).1⟩)
    · simp [execOp, Act.eval, H0, go_sem, givesUpon]; exact fr1 rfl
    · have D20 : _ = _ := hdep 14 20 rfl; simp [execOp, Act.eval, D20, go_sem, givesUpon]; exact fr1 rfl
    · have D21 : _ = _ := hdep 15 21 rfl; simp [execOp, Act.eval, D21, go_sem, givesUpon]; exact fr1 rfl
    · have D22 : _ = _ := hdep 16 22 rfl; clear hoff hdep; simp [execOp, Act.eval, go_sem, givesUpon, *]; exact fr1 rfl
    · have D9 : _ = _ := hdep 3 9 rfl; obtain ⟨A, c, D14, ht⟩ : (hpP s.heap wA.heap.size) _ W := hdep 8 14 rfl; obtain ⟨A2, c2, D19, ht2, hq2⟩ : (outP s.outs wA.heap.size) _ W := hdep 13 19 rfl; have D23 : _ = _ := hdep 17 23 rfl; simp at D9 D14 D19 D23; simp [execOp, Act.eval, D9, D14, D19, D23, go_sem, givesUpon]; exact ⟨Fr.refl _ _, A, c, A2, c2, rfl, ht, ht2, hq2⟩
    · simp [execOp, go_sem, givesUpon]; exact ⟨(Fr.refl _ _).alloc _, ⟨_, rfl, Bx.new_ rfl, hbs⟩, Nat.le_refl _⟩
  intro vs WR hWR hv hne
  obtain ⟨AR8, cR8, e8, htR8⟩ := hv 8 (by omega)
  obtain ⟨A2R13, c2R13, e13, ht2R13, hq2R13⟩ := hv 13 (by omega)
  obtain ⟨AR18, cR18, A2R18, c2R18, e18, htR18, ht2R18, hq2R18⟩ := hv 18 (by omega)
  obtain ⟨b19, e19, hb19, hl19⟩ := hv 19 (by omega)
  simp only [List.drop_succ_cons, List.drop_zero, putsR_B, putsR_C, putsR_V, putsR_0, Nat.zero_add, Nat.reduceAdd, e8, e13, e18, e19]
  simp only [Act.put, List.setIfInBounds_toArray, List.set_cons_zero, List.set_cons_succ]
  clear e8 e13 e18 e19 hv
  clear hne htR8 ht2R13 hq2R13
  have hwR := hWR.size
  have hsA := hfA.size
  have BAl := BA.lt
  have BAR := BA.keep hWR
  refine wpList_store_all rfl tVSt (.tmp 3) (.tmp 24) rfl 6 (by kernel_rfl) b19 tVSt _ [.int .i64 s.status, .slice none 0 0, .slice AR18 s.heap.length cR18, .slice A2R18 s.outs.length c2R18, .int .i64 s.back.kind, .int .i64 s.back.n] rfl rfl hb19 rfl rfl (by simp [Value.oneCell']) ?_
  intro w1 B1 hfE
  simp only [Act.put]
  obtain ⟨ko, hK⟩ := htR18
  have hKne := hK.ne hb19
  have hOne := fun q (hq : rowBlk (.slice A2R18 s.outs.length c2R18) = some q) => RowV.ne ht2R18 hb19 (by decide) hq
  have hKlt := hK.lt
  have hOlt := fun q (hq : rowBlk (.slice A2R18 s.outs.length c2R18) = some q) => RowV.lt ht2R18 hq
  have hsE := hfE.size
  have hfw1 : Fr No w w1 := (hfA.trans0 hWR).trans hfE (fun b hb e => by omega)
  have BA1 := BAR.keepX hfE (by omega)
  have B1l := B1.lt
  have KM1 := h.cells w1 hfw1
  rw [hvc] at KM1
  obtain ⟨z0, z1, z2, z3, z4, z5, z6, z7, z8, z9⟩ := KM1
  have hI0 : Hid (∃ vf ks, Bx w1 b19 tVSt #[.int .i64 s.status, vf, .slice AR18 s.heap.length cR18, .slice A2R18 s.outs.length c2R18, .int .i64 s.back.kind, .int .i64 s.back.n] ∧ CpR calF w1.heap.size w1 vf (s.frames.take 0) ks ∧ Fr (fun b => b = b19 ∨ w1.heap.size ≤ b) w1 w1) :=
    Lib.hid ⟨.slice none 0 0, [], B1, ⟨RowV.nil _ _ _, trivial, fun b hb => by simp at hb, fun b hb => by simp [rowB, rowBlk_nil] at hb⟩, Fr.refl _ _⟩
  replace hK := Lib.hid hK
  replace ht2R18 := Lib.hid ht2R18
  replace BA1 := Lib.hid BA1
  replace h := Lib.hid h
  have hfE2 := Lib.hid hfE
  unfold maxLen at hcm
  clear hb19 BA BAR B1 hfE HH HO
  go_wp2_with fail
  clear z0 z1 z2 z3 z4 z5 z6 z7 z8 z9
  go_loopw [30] (fun i wr => ∃ j : Nat, j ≤ s.frames.length ∧ i = .int .i64 j ∧ Hid (∃ vf ks, Bx wr b19 tVSt #[.int .i64 s.status, vf, .slice AR18 s.heap.length cR18, .slice A2R18 s.outs.length c2R18, .int .i64 s.back.kind, .int .i64 s.back.n] ∧ CpR calF w1.heap.size wr vf (s.frames.take j) ks ∧ Fr (fun b => b = b19 ∨ w1.heap.size ≤ b) w1 wr)) (fun i _ => s.frames.length - (intOf i).toNat)
  case atStart => exact ⟨0, Nat.zero_le _, rfl, hI0⟩
  case round =>
    clear hI0
    obtain ⟨j, hj, rfl, hI⟩ := hrel
    obtain ⟨vf, ks, hBr, hCp, hfr⟩ := hI.out
    clear hI
    have hsr := hfr.size
    have hfwr : Fr No w wr := hfw1.trans hfr (fun b hb e => by omega)
    have hlj : (s.frames.take j).length = j := by rw [List.length_take, Nat.min_eq_left hj]
    obtain ⟨Av, cv, rfl⟩ : ∃ A c, vf = .slice A j c := by
      obtain ⟨A, c, he, _, _⟩ := hCp.1.form
      rw [hlj] at he
      exact ⟨A, c, he⟩
    by_cases hlt : j < s.frames.length
    · have htk : s.frames.take (j + 1) = s.frames.take j ++ [s.frames[j]] := List.take_succ_eq_append_getElem hlt
      have hcl := h.out.cels.length
      have hjk : j < m.kc.length := by omega
      obtain ⟨c1, c2, c3, _, c5, _⟩ := h.out.cels.get j hjk hlt
      obtain ⟨g, c', cur, hg1, _, _, _, _, _, _⟩ := h.out.crow.at_ (by omega)
      have hcell : ∀ W, Fr No w W → W.cell? ⟨g, j, none⟩ = some (.pointer (some ⟨(m.kc[j]).c, 0, none⟩)) := fun W hW => by
        have h9 := (h.out.crow.keep0 hW).cell hg1 (j := j) (by omega)
        have h8 := flatW_get (calL K).len m.kc j hjk 0 (show 0 < (calL K).sz from Nat.one_pos)
        simp only [Nat.add_zero] at h8
        have e1 : j * (calL K).sz = j := by show j * 1 = j; omega
        rw [e1] at h8
        rw [h9, h8]
        rfl
      rw [hvc] at hg1
      cases hg1
      have hsm := q5 _ (List.getElem_mem hlt)
      generalize m.kc[j] = k at *
      generalize s.frames[j] = f at *
      obtain ⟨⟨⟨fk, fnm⟩, fat⟩, fpc, floc, fstk⟩ := f
      obtain ⟨kc, kva, kvc, kvm, kvl, kvs⟩ := k
      dsimp only at c1 c2 c3 c5 hcell hsm
      obtain ⟨Al, cl, rfl, _, _⟩ := c2.form
      obtain ⟨As, cs', rfl, _, _⟩ := c3.form
      have KC0 : ∀ W, Fr No wr W → W.cell? ⟨kc, 0, none⟩ = some (.int .i64 fk) ∧ W.cell? ⟨kc, 1, none⟩ = some (.string fnm) ∧ W.cell? ⟨kc, 2, none⟩ = some (.int .i64 fat) ∧ W.cell? ⟨kc, 11, none⟩ = some (.int .i64 fpc) ∧ W.cell? ⟨kc, 12, none⟩ = some (.slice Al floc.length cl) ∧ W.cell? ⟨kc, 13, none⟩ = some (.slice As fstk.length cs') ∧ (∀ i, W.frozen? ⟨kc, i, none⟩ = false) ∧ kc < W.heap.size := fun W hW => by
        have h9 := c1.keep (hfwr.trans0 hW)
        exact ⟨h9.cell 0, h9.cell 1, h9.cell 2, h9.cell 11, h9.cell 12, h9.cell 13, fun i => h9.frozen i, h9.lt⟩
      have KBx : ∀ W, Fr No wr W → W.cell? ⟨b19, 1, none⟩ = some (.slice Av j cv) ∧ (∀ i, W.frozen? ⟨b19, i, none⟩ = false) ∧ b19 < W.heap.size := fun W hW => by
        have h9 := hBr.keep hW
        exact ⟨h9.cell 1, fun i => h9.frozen i, h9.lt⟩
      have HL := fun W (hW : Fr No wr W) => cloneV_ok No (.slice Al floc.length cl) floc W (ValRow.sl (c2.keep0 (hfwr.trans0 hW)) (fun _ _ h => h)) hsm.1
      have HS := fun W (hW : Fr No wr W) => cloneV_ok No (.slice As fstk.length cs') fstk W (ValRow.sl (c3.keep0 (hfwr.trans0 hW)) (fun _ _ h => h)) hsm.2
      have hg := hcell wr hfwr
      have hCpl := hCp.lt
      replace htk := Lib.hid htk
      replace hCp := Lib.hid hCp
      replace hBr := Lib.hid hBr
      clear c1 c2 c3 hcell
      go_wp2_with fail
      refine wp_region_monR 23 57 [mV (.pointer (some ⟨b19, 1, none⟩)), mV (.slice Av j cv), mV (.pointer (some ⟨kc, 0, none⟩)), mV (.pointer (some ⟨kc, 0, none⟩)), mV (.pointer (some ⟨kc, 0, none⟩)), mV (.agg #[.int .i64 fk, .string fnm, .int .i64 fat]), mV (.pointer (some ⟨kc, 0, none⟩)), mV (.pointer (some ⟨kc, 0, none⟩)), mV (.pointer (some ⟨kc, 11, none⟩)), mV (.int .i64 fpc), mV (.pointer (some ⟨kc, 0, none⟩)), mV (.pointer (some ⟨kc, 0, none⟩)), mV (.pointer (some ⟨kc, 12, none⟩)), mV (.slice Al floc.length cl), mC (cloW floc wr.heap.size) (cloW_mono _ _), mV (.pointer (some ⟨kc, 0, none⟩)), mV (.pointer (some ⟨kc, 0, none⟩)), mV (.pointer (some ⟨kc, 13, none⟩)), mV (.pointer (some ⟨kc, 13, none⟩)), mV (.slice As fstk.length cs'), mC (cloW fstk wr.heap.size) (cloW_mono _ _), mC (frmP ⟨⟨⟨fk, fnm⟩, fat⟩, fpc, floc, fstk⟩ wr.heap.size) (frmP_mono _ _), mC (frsP ⟨⟨⟨fk, fnm⟩, fat⟩, fpc, floc, fstk⟩ wr.heap.size) (frsP_mono _ _)] (by kernel_rfl) (by kernel_rfl) (by simp) ?_ ?_
      · refine hopC ?_ <| hopC ?_ <| hopC ?_ <| hopC ?_ <| hopC ?_ <| hopC ?_ <| hopC ?_ <| hopC ?_ <| hopC ?_ <| hopC ?_ <| hopC ?_ <| hopC ?_ <| hopC ?_ <| hopC ?_ <| hopC ?_ <| hopC ?_ <| hopC ?_ <| hopC ?_ <| hopC ?_ <| hopC ?_ <| hopC ?_ <| hopC ?_ <| hopC ?_ <| hopZ
        all_goals (intro a' W hW hoff hdep; have hbs := hW.size; have H3 := hoff 3 rfl; have H5 := hoff 5 rfl; refine nE rfl ?_)
        · simp [execOp, Act.eval, H3, go_sem, givesUpon]; exact fr1 rfl
        · have D34 : _ = _ := hdep 0 34 rfl; clear hoff hdep; simp [execOp, Act.eval, go_sem, givesUpon, *]; exact fr1 rfl
        · simp [execOp, Act.eval, H5, go_sem, givesUpon]; exact fr1 rfl
        · have D36 : _ = _ := hdep 2 36 rfl; simp [execOp, Act.eval, D36, go_sem, givesUpon]; exact fr1 rfl
        · have D37 : _ = _ := hdep 3 37 rfl; simp [execOp, Act.eval, D37, go_sem, givesUpon]; exact fr1 rfl
        · have D38 : _ = _ := hdep 4 38 rfl; clear hoff hdep; simp [execOp, Act.eval, go_sem, givesUpon, *]; exact fr1 rfl
        · simp [execOp, Act.eval, H5, go_sem, givesUpon]; exact fr1 rfl
        · have D40 : _ = _ := hdep 6 40 rfl; simp [execOp, Act.eval, D40, go_sem, givesUpon]; exact fr1 rfl
        · have D41 : _ = _ := hdep 7 41 rfl; simp [execOp, Act.eval, D41, go_sem, givesUpon]; exact fr1 rfl
        · have D42 : _ = _ := hdep 8 42 rfl; clear hoff hdep; simp [execOp, Act.eval, go_sem, givesUpon, *]; exact fr1 rfl
        · simp [execOp, Act.eval, H5, go_sem, givesUpon]; exact fr1 rfl
        · have D44 : _ = _ := hdep 10 44 rfl; simp [execOp, Act.eval, D44, go_sem, givesUpon]; exact fr1 rfl
        · have D45 : _ = _ := hdep 11 45 rfl; simp [execOp, Act.eval, D45, go_sem, givesUpon]; exact fr1 rfl
        · have D46 : _ = _ := hdep 12 46 rfl; clear hoff hdep; simp [execOp, Act.eval, go_sem, givesUpon, *]; exact fr1 rfl
        · have D47 : _ = _ := hdep 13 47 rfl; simp [Act.eval, D47, go_sem, givesUpon]; exact (HL _ hW).mono (by intro e w9 h; obtain ⟨v, rfl, h3, h4⟩ := cloW_gives hbs h; exact ⟨v, rfl, h3, h4⟩)
        · simp [execOp, Act.eval, H5, go_sem, givesUpon]; exact fr1 rfl
        · have D49 : _ = _ := hdep 15 49 rfl; simp [execOp, Act.eval, D49, go_sem, givesUpon]; exact fr1 rfl
        · have D50 : _ = _ := hdep 16 50 rfl; simp [execOp, Act.eval, D50, go_sem, givesUpon]; exact fr1 rfl
        · have D51 : _ = _ := hdep 17 51 rfl; simp [execOp, Act.eval, D51, go_sem, givesUpon]; exact fr1 rfl
        · have D52 : _ = _ := hdep 18 52 rfl; clear hoff hdep; simp [execOp, Act.eval, go_sem, givesUpon, *]; exact fr1 rfl
        · have D53 : _ = _ := hdep 19 53 rfl; simp [Act.eval, D53, go_sem, givesUpon]; exact (HS _ hW).mono (by intro e w9 h; obtain ⟨v, rfl, h3, h4⟩ := cloW_gives hbs h; exact ⟨v, rfl, h3, h4⟩)
        · have D39 : _ = _ := hdep 5 39 rfl; have D43 : _ = _ := hdep 9 43 rfl; obtain ⟨A, c, D48, ht, hq⟩ : (cloW floc wr.heap.size) _ W := hdep 14 48 rfl; obtain ⟨A2, c2, D54, ht2, hq2⟩ : (cloW fstk wr.heap.size) _ W := hdep 20 54 rfl; simp at D39 D43 D48 D54; simp [execOp, Act.eval, D39, D43, D48, D54, go_sem, givesUpon]; exact ⟨Fr.refl _ _, A, c, A2, c2, rfl, ht, hq, ht2, hq2⟩
        · obtain ⟨A, c, A2, c2, D55, ht, hq, ht2, hq2⟩ : (frmP ⟨⟨⟨fk, fnm⟩, fat⟩, fpc, floc, fstk⟩ wr.heap.size) _ W := hdep 21 55 rfl; simp at D55; simp [execOp, Act.eval, D55, go_sem, givesUpon]; exact ⟨(Fr.refl _ _).alloc _, _, A, c, A2, c2, rfl, Bx.new_ rfl, ht.keep0 frc, hq, ht2.keep0 frc, hq2⟩
      intro vs WR hWR hv hne
      obtain ⟨AR14, cR14, e14, htR14, hqR14⟩ := hv 14 (by omega)
      obtain ⟨A2R20, c2R20, e20, ht2R20, hq2R20⟩ := hv 20 (by omega)
      obtain ⟨AR21, cR21, A2R21, c2R21, e21, htR21, hqR21, ht2R21, hq2R21⟩ := hv 21 (by omega)
      obtain ⟨kR22, AR22, cR22, A2R22, c2R22, e22, hkR22, htR22, hqR22, ht2R22, hq2R22⟩ := hv 22 (by omega)
      simp only [List.drop_succ_cons, List.drop_zero, putsR_C, putsR_V, putsR_0, Nat.zero_add, Nat.reduceAdd, e14, e20, e21, e22]
      simp only [Act.put, List.setIfInBounds_toArray, List.set_cons_zero, List.set_cons_succ]
      clear e14 e20 e21 e22 hv
      clear hne KC0 HL HS htR14 hqR14 ht2R20 hq2R20 htR21 hqR21 ht2R21 hq2R21
      have hwR2 := hWR.size
      have hCR := hCp.out.keep0 hWR
      have hrowR := hCR.1
      rw [hlj] at hrowR
      have hsrc := Lib.hid (Bx.news (cs := [.int .i64 fk, .string fnm, .int .i64 fat, .int .i64 fpc, .slice AR22 floc.length cR22, .slice A2R22 fstk.length c2R22]) hkR22)
      have hboxR := hBr.out.keep hWR
      have hneR : ∀ q, rowBlk (.slice Av j cv) = some q → q ≠ b19 := fun q hq => by have := hCp.out.2.2.2 q (List.mem_append_left _ (rowB_c hq)); omega
      have hRk : calF.R WR ⟨⟨⟨fk, fnm⟩, fat⟩, fpc, .slice AR22 floc.length cR22, .slice A2R22 fstk.length c2R22⟩ ⟨⟨⟨fk, fnm⟩, fat⟩, fpc, floc, fstk⟩ := ⟨rfl, rfl, c5, htR22, ht2R22⟩
      have hnewB : ∀ q ∈ calF.B ⟨⟨⟨fk, fnm⟩, fat⟩, fpc, .slice AR22 floc.length cR22, .slice A2R22 fstk.length c2R22⟩, wr.heap.size ≤ q := fun q hq => (List.mem_append.1 hq).elim (fun h => hqR22 q (mem_rowB.1 h)) (fun h => hq2R22 q (mem_rowB.1 h))
      have hfin := fun (g' cap' : Nat) (w3 : World) (hrow : RowV w3 tVFrm 6 (.slice (some ⟨g', 0, none⟩) (j + 1) cap') (j + 1) (ks.flatMap calF.C ++ [.int .i64 fk, .string fnm, .int .i64 fat, .int .i64 fpc, .slice AR22 floc.length cR22, .slice A2R22 fstk.length c2R22])) (hgf : Fr (fun b => rowBlk (.slice Av j cv) = some b) WR w3) (hor : rowBlk (.slice Av j cv) = some g' ∨ g' = WR.heap.size) (hcap : j + 1 ≤ cap') =>
        (show ∃ vf ks, Bx (w3.setCell ⟨b19, 1, none⟩ (.slice (some ⟨g', 0, none⟩) (j + 1) cap')) b19 tVSt #[.int .i64 s.status, vf, .slice AR18 s.heap.length cR18, .slice A2R18 s.outs.length c2R18, .int .i64 s.back.kind, .int .i64 s.back.n] ∧ CpR calF w1.heap.size (w3.setCell ⟨b19, 1, none⟩ (.slice (some ⟨g', 0, none⟩) (j + 1) cap')) vf (s.frames.take (j + 1)) ks ∧ Fr (fun b => b = b19 ∨ w1.heap.size ≤ b) w1 (w3.setCell ⟨b19, 1, none⟩ (.slice (some ⟨g', 0, none⟩) (j + 1) cap')) from by
          have h9 := hCR.snoc (g' := g') (cap' := cap') (W' := w3) hRk (fun q hq => by have := hnewB q hq; omega) (fun q hq e => by have := hnewB q hq; have := hCpl q (List.mem_append_left _ (rowB_c e)); omega) (by rw [hlj]; exact hrow) hgf hor (by rw [hlj]; exact hcap) (by omega)
          rw [hlj, ← htk.out] at h9
          refine ⟨_, _, (hboxR.keepX hgf (fun e => hneR _ e rfl)).setc (i := 1) rfl, h9.keepM (Fr.one _ _ _ _) (fun b hb e => by have := h9.2.2.2 b hb; omega), ((hfr.trans0 hWR).trans hgf (fun b hb e => .inr (hCp.out.2.2.2 b (List.mem_append_left _ (rowB_c e))))).trans (Fr.one _ _ _ _) (fun b hb e => .inl e)⟩)
      obtain ⟨j0, hj0, hk0, hk1, hk2⟩ := info_parts info_frm6
      replace hj0 := Lib.hid hj0
      replace hk0 := Lib.hid hk0
      replace hk1 := Lib.hid hk1
      replace hk2 := Lib.hid hk2
      replace hfin := Lib.hid hfin
      have hadd : IntKind.i64.wrap ((j : Int) + 1) = ((j + 1 : Nat) : Int) := by rw [IntWalk.i64_in _ (by omega)]; simp
      clear hCR hRk hnewB hkR22 htR22 hqR22 ht2R22 hq2R22 KBx
      go_wp2_with (at_builtin; (refine wpList_append_row _ rfl _ _ 36 rfl tVFrm j0 (.agg #[.int .i64 0, .string ⟨#[]⟩, .int .i64 0, .int .i64 0, .slice none 0 0, .slice none 0 0]) 6 88 Tryz.underlying36 hj0.out hk0.out hk1.out hk2.out rfl (by decide) (.slice Av j cv) j (ks.flatMap calF.C) rfl hrowR ⟨kR22, 0, none⟩ 1 1 [.int .i64 fk, .string fnm, .int .i64 fat, .int .i64 fpc, .slice AR22 floc.length cR22, .slice A2R22 fstk.length c2R22] rfl rfl hsrc.out (by simp [Value.oneCell']) (by decide) (by unfold maxLen; omega) (by omega) ?_); (intro g2 cap2 w6 hrow6 hcap6 hgf6 hor6); have hbx := hboxR.keepX hgf6 (fun e => hneR _ e rfl); have hfi := Lib.hid (hfin.out _ _ _ hrow6 hgf6 hor6 hcap6); have z3 : w6.cell? ⟨b19, 1, none⟩ = some (.slice Av j cv) := hbx.cell 1; have zf := (fun i => hbx.frozen i); have zl := hbx.lt)
      exact ⟨⟨j + 1, by omega, by simp, hfi⟩, by simp [intOf]; omega⟩
    · obtain rfl : j = s.frames.length := by omega
      rw [List.take_length] at hCp
      have hBAr := BA1.out.keepX hfr (by omega)
      obtain ⟨x0, x1, x2, x3, x4, x5⟩ := hBr.c6
      have xf := fun i => hBr.frozen i
      have xl := hBr.lt
      obtain ⟨y0, y1, y2, y3, y4, y5⟩ := hBAr.c6
      have yf := fun i => hBAr.frozen i
      have yl := hBAr.lt
      have hne9 : ¬ b19 = w.heap.size := by omega
      replace hCp := Lib.hid hCp
      go_wp2_with fail
      obtain ⟨W7, hW7⟩ : ∃ W7, W7 = ((((((wr.setCell ⟨w.heap.size, 0, none⟩ (.int .i64 s.status)).setCell ⟨w.heap.size, 1, none⟩ (.slice Av s.frames.length cv)).setCell ⟨w.heap.size, 2, none⟩ (.slice AR18 s.heap.length cR18)).setCell ⟨w.heap.size, 3, none⟩ (.slice A2R18 s.outs.length c2R18)).setCell ⟨w.heap.size, 4, none⟩ (.int .i64 s.back.kind)).setCell ⟨w.heap.size, 5, none⟩ (.int .i64 s.back.n)) := ⟨_, rfl⟩
      have B7 : Bx W7 w.heap.size tVSt #[.int .i64 s.status, .slice Av s.frames.length cv, .slice AR18 s.heap.length cR18, .slice A2R18 s.outs.length c2R18, .int .i64 s.back.kind, .int .i64 s.back.n] := hW7 ▸ hBAr.fill6
      have hf7 : Fr (fun b => b = w.heap.size) wr W7 := hW7 ▸ (((((Fr.one _ _ _ _).same (Fr.one _ _ _ _)).same (Fr.one _ _ _ _)).same (Fr.one _ _ _ _)).same (Fr.one _ _ _ _)).same (Fr.one _ _ _ _)
      rw [← hW7]
      clear hW7
      obtain ⟨r0, r1, r2, r3, r4, r5⟩ := B7.c6
      have rl := B7.lt
      refine bodyPost_ret (v := .agg #[.int .i64 s.status, .slice Av s.frames.length cv, .slice AR18 s.heap.length cR18, .slice A2R18 s.outs.length c2R18, .int .i64 s.back.kind, .int .i64 s.back.n]) (by simp [results, Tryz.results27, go_sem, *]) rfl ?_
      have hK7 : HpR wA.heap.size W7 (.slice AR18 s.heap.length cR18) s.heap ko := ((hK.out.keepM hfE2.out (fun b hb e => hKne b hb e)).keepM hfr (fun b hb e => by have := hKlt b hb; have := hKne b hb; omega)).keepM hf7 (fun b hb e => by have := hK.out.2.2.2 b hb; omega)
      have hO7 : OutRow W7 (.slice A2R18 s.outs.length c2R18) s.outs := ((ht2R18.out.keepB hfE2.out (fun q hq e => hOne q (mem_rowB.1 hq) e)).keepB hfr (fun q hq e => by have := hOlt q (mem_rowB.1 hq); have := hOne q (mem_rowB.1 hq); omega)).keepB hf7 (fun q hq e => by have := hq2R18 q (mem_rowB.1 hq); omega)
      have hC7 := hCp.out.keepM hf7 (fun b hb e => by have := hCp.out.2.2.2 b hb; omega)
      exact ⟨⟨[_, _, _, _, _, _], rfl, _, _, _, rfl, hC7.cals (fun b hb e => by omega), hK7.objs (fun b hb e => by omega), OutRow.sl hO7 (fun q hq e => by have := hq2R18 q hq; omega)⟩, hfwr.trans hf7 (fun b hb e => by omega)⟩
end Go.Proofs.YtbalicnnlfennaaGreat
