/- The program's own machine: a copy of the things. -/
import Derived.Test.YtbalicnnlfennaaGreatBG33
namespace Go.Proofs.YtbalicnnlfennaaGreat
open Go.RowKit

def cloW (xs : List Val) (base : Nat) : Value → World → Prop := fun v W => ∃ A c, v = .slice A xs.length c ∧ ValRow W (.slice A xs.length c) xs ∧ ∀ q, rowBlk (.slice A xs.length c) = some q → base ≤ q
theorem cloW_mono (xs : List Val) (base : Nat) : MonP (cloW xs base) := fun _ _ _ ⟨A, c, h1, h2, h3⟩ hf => ⟨A, c, h1, h2.keep0 hf, h3⟩
theorem cloW_gives {xs : List Val} {base : Nat} {w w' : World} {e : Ending} (hb : base ≤ w.heap.size) (h : CloneV xs w e w') : ∃ v, e = .returned v ∧ Fr No w w' ∧ cloW xs base v w' := by
  obtain ⟨v, rfl, h1, h2, h3⟩ := h
  obtain ⟨A, c, rfl, _, _⟩ := h1.form
  exact ⟨_, rfl, h3, A, c, rfl, h1, fun q hq => Nat.le_trans hb (h2 q hq).1⟩

/-- Things of a copy: where they lie. -/
def HpR (base : Nat) (W : World) (v : Value) (xs : List Obj) (ko : List KO) : Prop :=
  RowV W tObj 3 v xs.length (ko.flatMap objL.C) ∧ Els objL W ko xs ∧ (rowB v ++ ko.flatMap KO.B).Nodup ∧ (∀ b ∈ rowB v ++ ko.flatMap KO.B, base ≤ b)
def HpRow (base : Nat) (W : World) (v : Value) (xs : List Obj) : Prop := ∃ ko, HpR base W v xs ko
theorem HpR.keep {X : Nat → Prop} {base : Nat} {W W' : World} {v : Value} {xs : List Obj} {ko : List KO} (h : HpR base W v xs ko) (hf : Fr X W W') (hX : ∀ b, base ≤ b → b < W.heap.size → ¬ X b) : HpR base W' v xs ko := by
  obtain ⟨h1, h2, h3, h4⟩ := h
  exact ⟨h1.keepB hf (fun b hb => hX b (h4 b (List.mem_append_left _ hb)) (h1.ltB hb)), h2.keep hf (fun b hb => hX b (h4 b (List.mem_append_right _ hb)) (h2.lt b hb)), h3, h4⟩
theorem HpR.keep0 {base : Nat} {W W' : World} {v : Value} {xs : List Obj} {ko : List KO} (h : HpR base W v xs ko) (hf : Fr No W W') : HpR base W' v xs ko := h.keep hf (fun _ _ _ h => h)
theorem HpR.lt {base : Nat} {W : World} {v : Value} {xs : List Obj} {ko : List KO} (h : HpR base W v xs ko) : ∀ b ∈ rowB v ++ ko.flatMap KO.B, b < W.heap.size := fun b hb => (List.mem_append.1 hb).elim (fun hb => h.1.ltB hb) (fun hb => h.2.1.lt b hb)
def CopyH (xs : List Obj) (w : World) (e : Ending) (w' : World) : Prop := ∃ v, e = .returned v ∧ HpRow w.heap.size w' v xs ∧ Fr No w w'
/-- One more thing in a copy. -/
theorem HpR.snoc {base : Nat} {W W' : World} {v vf : Value} {xs : List Obj} {o : Obj} {g' cap' : Nat} {ko : List KO} (h : HpR base W v xs ko) (hn : o.of_.name.size ≤ maxLen) (hf : ValRow W vf o.fields) (hff : ∀ q, rowBlk vf = some q → base ≤ q)
    (hne : ∀ q, rowBlk vf = some q → q ∉ rowB v ++ ko.flatMap KO.B)
    (hrow : RowV W' tObj 3 (.slice (some ⟨g', 0, none⟩) (xs.length + 1) cap') (xs.length + 1) (ko.flatMap objL.C ++ [.int .i64 o.of_.keeper, .string o.of_.name, vf]))
    (hgf : Fr (fun b => rowBlk v = some b) W W') (hor : rowBlk v = some g' ∨ g' = W.heap.size) (hcap : xs.length + 1 ≤ cap') (hbase : base ≤ W.heap.size) :
    HpRow base W' (.slice (some ⟨g', 0, none⟩) (xs.length + 1) cap') (xs ++ [o]) := by
  obtain ⟨h1, h2, h3, h4⟩ := h
  have hqn : rowB (.slice (some ⟨g', 0, none⟩) (xs.length + 1) cap') = [g'] := by unfold rowB; rw [rowBlk_some (by omega)]; rfl
  have h3' := List.nodup_append.1 h3
  have hk : ∀ b ∈ ko.flatMap KO.B, ¬ rowBlk v = some b := fun b hb e => h3'.2.2 b (rowB_c e) b hb rfl
  have hkv : ∀ b ∈ rowB vf, ¬ rowBlk v = some b := fun b hb e => hne b (mem_rowB.1 hb) (List.mem_append_left _ (rowB_c e))
  have hfl : (ko ++ [(⟨o.of_, vf⟩ : KO)]).flatMap KO.B = ko.flatMap KO.B ++ rowB vf := by rw [List.flatMap_append]; simp [KO.B]
  refine ⟨ko ++ [⟨o.of_, vf⟩], ?_, ?_, ?_, ?_⟩
  · rw [List.flatMap_append, List.length_append]
    exact hrow
  · exact (h2.keep hgf hk).snoc ⟨rfl, hn, hf.keepB hgf hkv⟩
  · rw [hqn, hfl, List.singleton_append, List.nodup_cons, List.nodup_append]
    refine ⟨fun hx => ?_, h3'.2.1, rowB_nodup _, fun a ha b hb e => ?_⟩
    · rcases List.mem_append.1 hx with hx | hx
      · rcases hor with h9 | h9
        · exact hk _ hx h9
        · have := h2.lt _ hx; omega
      · rcases hor with h9 | h9
        · exact hkv _ hx h9
        · have := hf.ltB hx; omega
    · subst e
      exact hne a (mem_rowB.1 hb) (List.mem_append_right _ ha)
  · rw [hqn, hfl]
    intro b hb
    rcases List.mem_append.1 hb with hb | hb
    · rw [List.mem_singleton] at hb
      subst hb
      rcases hor with h9 | h9
      · exact h4 _ (List.mem_append_left _ (rowB_c h9))
      · omega
    · rcases List.mem_append.1 hb with hb | hb
      · exact h4 _ (List.mem_append_right _ hb)
      · exact hff _ (mem_rowB.1 hb)

set_option maxRecDepth 100000 in
set_option maxHeartbeats 4000000 in
theorem copyHeap_ok (v : Value) (xs : List Obj) (w : World) (h : Sl No w 3 (ObjC No w) v xs) (hl : xs.length ≤ 1000) (hfl : ∀ o ∈ xs, o.fields.length ≤ 1000) :
    Calls Tryz.prog 44 #[v] w (CopyH xs w) := by
  obtain ⟨A, c, rfl, _, _⟩ := h.form
  have hI0 : Hid (HpRow w.heap.size w (.slice none 0 0) (xs.take 0) ∧ Fr No w w) := Lib.hid ⟨⟨[], RowV.nil _ _ _, trivial, by simp [rowB, rowBlk_nil], by simp [rowB, rowBlk_nil]⟩, Fr.refl _ _⟩
  go_enter Tryz.func44, Tryz.ntmps44
  go_wp2_with fail
  go_loopw [8, 3] (fun i v wr => ∃ j : Nat, j ≤ xs.length ∧ i = .int .i64 j ∧ Hid (HpRow w.heap.size wr v (xs.take j) ∧ Fr No w wr)) (fun i _ _ => xs.length - (intOf i).toNat)
  case atStart => exact ⟨0, Nat.zero_le _, rfl, hI0⟩
  case round =>
    clear hI0
    obtain ⟨j, hj, rfl, hI⟩ := hrel
    obtain ⟨hI, hfr⟩ := hI.out
    obtain ⟨Av, cv, rfl⟩ : ∃ Av cv, u3 = .slice Av j cv := by
      obtain ⟨ko, h1⟩ := hI
      obtain ⟨A, c, he, _, _⟩ := h1.1.form
      rw [List.length_take, Nat.min_eq_left hj] at he
      exact ⟨A, c, he⟩
    replace hI := Lib.hid hI
    have hfrh := Lib.hid hfr
    by_cases hlt : j < xs.length
    · have hwr := h.keep (R' := ObjC No wr) hfr (fun _ h => h) (fun _ _ _ h => h.keep hfr (fun _ h => h))
      obtain ⟨b, off, Af, cf, rfl, _, o0, o1, o2, z1, hsf, _, _⟩ := hwr.obj hlt
      have hfo := hfl _ (List.getElem_mem hlt)
      have htk : xs.take (j + 1) = xs.take j ++ [xs[j]] := List.take_succ_eq_append_getElem hlt
      clear hwr
      generalize xs[j] = o at *
      obtain ⟨⟨ok, on⟩, fs⟩ := o
      dsimp only at o0 o1 o2 z1 hsf hfo
      replace htk := Lib.hid htk
      clear hfl hfr
      go_wp2_with fail
      obtain ⟨wB, hwB⟩ : ∃ wB, wB = wr.alloc (.cells #[.int .i64 ok, .string on, .slice Af fs.length cf] tObj) := ⟨_, rfl⟩
      rw [← hwB]
      have hfB : Fr No wr wB := hwB ▸ frc
      have hBo := (hwB ▸ bxc : Bx wB wr.heap.size tObj #[.int .i64 ok, .string on, .slice Af fs.length cf])
      replace hwB := Lib.hid hwB
      have KB := hBo.r3
      have HC := fun W (hW : Fr No wB W) => cloneV_ok No (.slice Af fs.length cf) fs W ((hsf.keep hfB (fun _ h => h) (fun _ _ _ h => h)).keep hW (fun _ h => h) (fun _ _ _ h => h)) hfo
      have hbs := fun W (hW : Fr No wB W) => hW.size
      have hBs := hfB.size
      clear o0 o1 o2 hBo
      refine wp_region_monR 6 18 [mE (mV (.slice Av j cv)), mV (.pointer (some ⟨wr.heap.size, 0, none⟩)), mV (.agg #[.int .i64 ok, .string on]), mV (.pointer (some ⟨wr.heap.size, 2, none⟩)), mV (.slice Af fs.length cf), mC (cloW fs wB.heap.size) (cloW_mono _ _)] (by kernel_rfl) (by kernel_rfl) (by simp) ?_ ?_
      · refine hopC ?_ <| hopC ?_ <| hopC ?_ <| hopC ?_ <| hopC ?_ <| hopC ?_ <| hopZ
        all_goals (intro a' W hW hoff hdep; have hbs := hW.size; have H3 := hoff 3 rfl; have H5 := hoff 5 rfl)
        · exact yE rfl ⟨.slice Av j cv, fun W => by simp [execOp, Act.eval, H3, go_sem], rfl, rfl⟩
        · refine nE rfl ?_; simp [execOp, Act.eval, H5, go_sem, givesUpon]; exact fr1 rfl
        · have D13 : _ = _ := hdep 1 13 rfl; refine nE rfl ?_; clear hoff hdep; simp [execOp, Act.eval, go_sem, givesUpon, *]; exact fr1 rfl
        · refine nE rfl ?_; simp [execOp, Act.eval, H5, go_sem, givesUpon]; exact fr1 rfl
        · have D15 : _ = _ := hdep 3 15 rfl; refine nE rfl ?_; clear hoff hdep; simp [execOp, Act.eval, go_sem, givesUpon, *]; exact fr1 rfl
        · have D16 : _ = _ := hdep 4 16 rfl; refine nE rfl ?_; simp [Act.eval, D16, go_sem, givesUpon]; exact (HC _ hW).mono (by intro e w9 h; obtain ⟨v, rfl, h3, h4⟩ := cloW_gives hbs h; exact ⟨v, rfl, h3, h4⟩)
      intro vs WR hWR hv hne
      obtain ⟨AR5, cR5, e5, htR5, hqR5⟩ := hv 5 (by omega)
      simp only [List.drop_succ_cons, List.drop_zero, putsR_C, putsR_EV, putsR_V, putsR_0, Nat.zero_add, Nat.reduceAdd, e5]
      simp only [Act.put, List.setIfInBounds_toArray, List.set_cons_zero, List.set_cons_succ]
      clear e5 hv
      clear hne
      obtain ⟨ko, hK⟩ := hI.out
      have hlj : (xs.take j).length = j := by rw [List.length_take, Nat.min_eq_left hj]
      have hwR := hWR.size
      have hfwr := hfrh.out
      have hws := hfwr.size
      have hfR2 : Fr No wB (WR.alloc (.cells #[.int .i64 ok, .string on, .slice AR5 fs.length cR5] tObj)) := hWR.trans0 frc
      have hKR := (hK.keep0 hfB).keep0 hfR2
      have hvR : ValRow (WR.alloc (.cells #[.int .i64 ok, .string on, .slice AR5 fs.length cR5] tObj)) (.slice AR5 fs.length cR5) fs := htR5.keep0 frc
      have hrow1 := hKR.1
      rw [hlj] at hrow1
      have hnews := Lib.hid ((bxc : Bx (WR.alloc (.cells #[.int .i64 ok, .string on, .slice AR5 fs.length cR5] tObj)) WR.heap.size tObj [Value.int .i64 ok, .string on, .slice AR5 fs.length cR5].toArray).news)
      have hltK := hK.lt
      have hnn : ∀ q, rowBlk (.slice AR5 fs.length cR5) = some q → q ∉ rowB (.slice Av j cv) ++ ko.flatMap KO.B := fun q hq hx => by have := hltK q hx; have := hqR5 q hq; omega
      have hfin := fun (g' cap' : Nat) (w3 : World) (hrow : RowV w3 tObj 3 (.slice (some ⟨g', 0, none⟩) (j + 1) cap') (j + 1) (ko.flatMap objL.C ++ [.int .i64 ok, .string on, .slice AR5 fs.length cR5])) (hgf : Fr (fun b => rowBlk (.slice Av j cv) = some b) (WR.alloc (.cells #[.int .i64 ok, .string on, .slice AR5 fs.length cR5] tObj)) w3) (hor : rowBlk (.slice Av j cv) = some g' ∨ g' = (WR.alloc (.cells #[.int .i64 ok, .string on, .slice AR5 fs.length cR5] tObj)).heap.size) (hcap : j + 1 ≤ cap') =>
        (show HpRow w.heap.size w3 (.slice (some ⟨g', 0, none⟩) (j + 1) cap') (xs.take (j + 1)) ∧ Fr No w w3 from ⟨by
          have h9 := hKR.snoc (o := ⟨⟨ok, on⟩, fs⟩) (g' := g') (cap' := cap') (W' := w3) z1 hvR (fun q hq => by have := hqR5 q hq; omega) hnn (by rw [hlj]; exact hrow) hgf hor (by rw [hlj]; exact hcap) (by have := hfR2.size; omega)
          rw [hlj, ← htk.out] at h9
          exact h9, ((hfwr.trans0 hfB).trans0 hfR2).trans hgf (fun b hb e => by have := hK.2.2.2 b (List.mem_append_left _ (rowB_c e)); omega)⟩)
      obtain ⟨j0, hj0, hk0, hk1, hk2⟩ := info_parts info_obj
      replace hj0 := Lib.hid hj0
      replace hk0 := Lib.hid hk0
      replace hk1 := Lib.hid hk1
      replace hk2 := Lib.hid hk2
      have hadd : IntKind.i64.wrap ((j : Int) + 1) = ((j + 1 : Nat) : Int) := by rw [IntWalk.i64_in _ (by omega)]; simp
      clear hKR hvR hK hfR2 htR5 hltK KB HC hbs hnn hqR5
      replace hfin := Lib.hid hfin
      go_wp2_with (at_builtin; (refine wpList_append_row _ rfl _ _ 37 rfl 150 j0 (.agg #[.int .i64 0, .string ⟨#[]⟩, .slice none 0 0]) 3 48 Tryz.underlying37 hj0.out hk0.out hk1.out hk2.out rfl (by decide) (.slice Av j cv) j (ko.flatMap objL.C) rfl hrow1 ⟨WR.heap.size, 0, none⟩ 1 1 [Value.int .i64 ok, .string on, .slice AR5 fs.length cR5] rfl rfl hnews.out (by simp [Value.oneCell']) (by decide) (by unfold maxLen; omega) (by omega) ?_); (intro g' cap' w3 hrow hcap hgf hor); (have hfi := Lib.hid (hfin.out _ _ _ hrow hgf hor hcap)))
      exact ⟨⟨j + 1, by omega, by simp, hfi⟩, by simp [intOf]; omega⟩
    · obtain rfl : j = xs.length := by omega
      rw [List.take_length] at hI
      go_wp2_with fail
      refine bodyPost_ret (v := .slice Av xs.length cv) (by simp [results, Tryz.results44, go_sem, *]) rfl ?_
      exact ⟨_, rfl, hI.out, hfrh.out⟩
end Go.Proofs.YtbalicnnlfennaaGreat

/- The reference: what is found of any keepers, the chain of a loadable class, LnkLaid, LnkPick. -/
namespace Go.Proofs.YtbalicnnlfennaaGreat
open Go.RowKit

theorem canS_chain {p : Plan} {r : Ref} (h : canS p r = true) : lodB p = true ∧ ∃ k i : Nat, Here p r k i ∧ chainOf p r = some (chainK p r) := by
  unfold canS canB at h
  rw [Bool.and_eq_true, Bool.and_eq_true] at h
  rcases chainK_cases h.1 r with h1 | h1
  · rw [h1] at h; simp at h
  · exact ⟨h.1, h1⟩
end Go.Proofs.YtbalicnnlfennaaGreat
