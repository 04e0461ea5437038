/- The laws' mark of keepers, and what it leaves; a layout's fields in a row of their own. -/
import Derived.Test.YtoagehacllkchaaGreatMks
import Derived.Test.YtoagehacllkchaaGreatSzL
import Derived.Test.YtoagehacllkchaaGreatGtf
import Derived.Test.YtoagehacllkchaaGreatLfm
namespace Go.Proofs.YtoagehacllkchaaGreat
open Go.RowKit

theorem wtKpr_le (x : Kpr) : wtKpr x ≤ 8 * (1 + szKpr x) := by
  have h1 := szL_len szAsk x.asks
  have h2 := sumL_le wtCls_le x.owns
  unfold wtKpr szKpr
  omega
theorem markPlan_go (lo hi : Nat) (p : Plan) (v : Value) (w : World) (h : Sl (fun b => b < lo ∨ hi ≤ b) w 2 (KprC (fun b => b < lo ∨ hi ≤ b) w) v p.keepers) (hun : Unf lo hi w) (hs : szPlan p ≤ 1048576) :
    ∃ n : Nat, n ≤ 1000000000 ∧ Calls Tryz.prog 21 #[.agg #[v], .int .i64 1] w (MarkPost lo hi n w) := by
  obtain ⟨ms, g, e⟩ := h.wtd (Q := KprW (fun b => b < lo ∨ hi ≤ b) w) wtKpr (fun _ _ h => h.wt)
  have hle := sumL_le wtKpr_le p.keepers
  unfold szPlan at hs
  have hb : sumN ms ≤ 8388608 := by omega
  clear h hle e
  refine ⟨1 + sumN ms, by omega, ?_⟩
  obtain ⟨A, cap, rfl, _, _⟩ := g.form
  obtain ⟨wA, hwA⟩ : ∃ wA, wA = w.alloc (.cells #[.slice A ms.length cap] 32) := ⟨_, rfl⟩
  have hfA : Fr No w wA := hwA ▸ frc
  have hT : Tw (fun b => lo ≤ b ∧ b < hi) w wA := .of0 hfA
  have HM := markKprS_go lo hi _ ms 1 wA (g.tw (R' := KprW (fun b => b < lo ∨ hi ≤ b) wA) hT (fun _ _ _ _ h a b => h.lk hT a b)) (hun.tw hT) (by omega) (by omega)
  go_enter Tryz.func21, Tryz.ntmps21
  go_wp2_with fail
  rw [← hwA]
  refine HM.mono ?_
  rintro e w2 ⟨rfl, hT2⟩
  go_wp2
  go_ret
  exact ⟨by simp, hT.trans hT2⟩

/-- A layout's fields in a row of their own. -/
structure Rw (A : Option Addr) (g L : Nat) (C : Nat → Value) (w : World) : Prop where
  at_ : 0 < L → A = some ⟨g, 0, none⟩ ∧ (∀ o, w.frozen? ⟨g, o, none⟩ = false) ∧ g < w.heap.size
  cells : ∀ i, i < L * 5 → w.cell? ⟨g, 0 + i, none⟩ = some (C i)
theorem Rw.keep {A : Option Addr} {g L : Nat} {C : Nat → Value} {X : Nat → Prop} {w w' : World} (h : Rw A g L C w) (hf : Fr X w w') (hX : ¬ X g) : Rw A g L C w' := by
  refine ⟨fun h0 => ?_, fun i hi => ?_⟩
  · obtain ⟨h1, h2, h3⟩ := h.at_ h0
    exact ⟨h1, fun o => by rw [hf.frozenX o h3 hX]; exact h2 o, Nat.lt_of_lt_of_le h3 hf.size⟩
  · have h3 := (h.at_ (by omega)).2.2
    rw [hf.cellX _ h3 hX]
    exact h.cells i hi
theorem Rw.marked {A : Option Addr} {g L : Nat} {C : Nat → Value} {k : Int} {w w' : World} (h : Rw A g L C w) (hm : Mk5 g 0 k w (L * 5) w') : Rw A g L (mcell k) w' := by
  refine ⟨fun h0 => ?_, hm.cells⟩
  obtain ⟨h1, h2, h3⟩ := h.at_ h0
  exact ⟨h1, fun o => by rw [hm.tw.froz g o h3]; exact h2 o, Nat.lt_of_lt_of_le h3 hm.tw.fr.size⟩
def flC (F : List LFld) (i : Nat) : Value := ((F.flatMap lfCells)[i]?).getD undef
theorem flC_at (F : List LFld) (k : Nat) (hk : k < F.length) (j : Nat) (hj : j < 5) : (lfCells F[k])[j]? = some (flC F (k * 5 + j)) := by
  rw [flC, flat_get5 F k hk j hj, List.getElem?_eq_getElem (by simp [lfCells]; omega)]
  rfl
def rwB (F : List LFld) (base : Nat) : Value → World → Prop := fun v W => ∃ A c g, v = .slice A F.length c ∧ F.length ≤ c ∧ base ≤ g ∧ Rw A g F.length (flC F) W
theorem rwB_mono (F : List LFld) (base : Nat) : ∀ v W W', rwB F base v W → Fr No W W' → rwB F base v W' := fun _ _ _ ⟨A, c, g, h1, h2, h3, h4⟩ hf => ⟨A, c, g, h1, h2, h3, h4.keep hf (fun h => h)⟩
theorem rwB_of {F : List LFld} {base : Nat} {v : Value} {w : World} (h : w.ownsRow base 141 5 v F.length (F.flatMap lfCells)) : rwB F base v w := by
  obtain ⟨_, ⟨rfl, h0⟩ | ⟨g, cap, cur, rfl, hg, hb, h1, h2, h3, h4⟩⟩ := h
  · obtain rfl := List.length_eq_zero_iff.1 h0
    exact ⟨none, 0, base, rfl, Nat.le_refl _, Nat.le_refl _, fun h => absurd h (by simp), fun i h => absurd h (by simp)⟩
  · have hb' : Bx w g 141 cur := hb
    refine ⟨_, cap, g, rfl, h1, hg, fun _ => ⟨rfl, fun o => hb'.frozen o, hb'.lt⟩, fun i hi => ?_⟩
    have hk : i / 5 < F.length := by omega
    have e := flC_at F (i / 5) hk (i % 5) (by omega)
    rw [← flat_get5 F _ hk _ (by omega), show i / 5 * 5 + i % 5 = i by omega] at e
    rw [Nat.zero_add, hb'.cell, ← e, ← h4, List.getElem?_take, if_pos (by omega)]
    simp
theorem Rw.sl {A : Option Addr} {g cap : Nat} {F : List LFld} {X : Nat → Prop} {w : World} (h : Rw A g F.length (flC F) w) (hX : ¬ X g) (h1 : F.length ≤ cap) (h2 : F.length ≤ maxLen) (hn : ∀ x ∈ F, x.of_.name.size ≤ maxLen ∧ x.kind.name.size ≤ maxLen) : Sl X w 5 LFldC (.slice A F.length cap) F := by
  refine ⟨_, cap, rfl, h1, h2, fun h0 => ?_⟩
  refine ⟨g, 0, (h.at_ h0).1, hX, fun k hk => ⟨lfCells F[k], ⟨rfl, hn _ (List.getElem_mem hk)⟩, rfl, fun j hj => ?_⟩⟩
  have e := h.cells (k * 5 + j) (by omega)
  rw [flC_at F k hk j hj, ← e, Nat.add_assoc]
theorem Rw.sorts {A : Option Addr} {g : Nat} {F : List LFld} {w : World} (h : Rw A g F.length (flC F) w) : ∀ i, i < F.length * 5 → ∃ v, w.cell? ⟨g, 0 + i, none⟩ = some v ∧ LkV (mcell 0 i) v := fun i hi => by
  refine ⟨_, h.cells i hi, ?_⟩
  have hk : i / 5 < F.length := by omega
  have e := flC_at F (i / 5) hk (i % 5) (by omega)
  rw [show i / 5 * 5 + i % 5 = i by omega] at e
  have h5 : i % 5 < 5 := by omega
  unfold mcell lfCells at *
  generalize flC F i = u at *
  generalize i % 5 = j at *
  match j, h5 with
  | 0, _ => cases e; rw [if_neg (by decide)]; exact .inr (.inl ⟨_, _, rfl, rfl⟩)
  | 1, _ => cases e; rw [if_pos (by decide)]; exact .inr (.inr ⟨_, _, rfl, rfl⟩)
  | 2, _ => cases e; rw [if_neg (by decide)]; exact .inr (.inl ⟨_, _, rfl, rfl⟩)
  | 3, _ => cases e; rw [if_neg (by decide)]; exact .inr (.inl ⟨_, _, rfl, rfl⟩)
  | 4, _ => cases e; rw [if_pos (by decide)]; exact .inr (.inr ⟨_, _, rfl, rfl⟩)
theorem lfld_names {X : Nat → Prop} {w : World} {v : Value} {F : List LFld} (h : Sl X w 5 LFldC v F) : ∀ x ∈ F, x.of_.name.size ≤ maxLen ∧ x.kind.name.size ≤ maxLen := fun x hx => by
  obtain ⟨A, cap, rfl, _, _⟩ := h.form
  obtain ⟨k, hk, rfl⟩ := List.getElem_of_mem hx
  obtain ⟨_, _, _, _, _, ⟨_, hz⟩, _⟩ := h.cells hk
  exact hz
end Go.Proofs.YtoagehacllkchaaGreat
