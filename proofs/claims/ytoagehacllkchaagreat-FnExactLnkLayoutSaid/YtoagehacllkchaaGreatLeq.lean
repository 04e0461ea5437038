/- The laws' own comparisons: what reads as the same data is equal. -/
import Derived.Test.YtoagehacllkchaaGreatGtf
import Derived.Test.YtoagehacllkchaaGreatEq
import Derived.Test.YtoagehacllkchaaGreatRows
import Derived.WalkSpells
import Derived.WalkLawsBesides
import Derived.Deep.RegionWith
namespace Go.Proofs.YtoagehacllkchaaGreat
open Go.RowKit

set_option maxRecDepth 100000 in
set_option maxHeartbeats 2000000 in
theorem eqRef_go (x : Ref) (cs cs1 : List Value) (w : World) (h : RefC cs x) (h1 : RefC cs1 x) :
    Calls Tryz.prog 122 #[.agg cs.toArray, .agg cs1.toArray] w (BoolFr true w) := by
  obtain ⟨rfl, _⟩ := h
  obtain ⟨rfl, _⟩ := h1
  go_enter Tryz.func122, Tryz.ntmps122
  go_wp2
  go_ret
  exact .mk rfl (by exact frc)

set_option maxRecDepth 100000 in
set_option maxHeartbeats 2000000 in
theorem eqLFld_go (x : LFld) (cs cs1 : List Value) (w : World) (h : LFldC cs x) (h1 : LFldC cs1 x) :
    Calls Tryz.prog 83 #[.agg cs.toArray, .agg cs1.toArray] w (BoolFr true w) := by
  obtain ⟨rfl, z0, z1⟩ := h
  obtain ⟨rfl, _⟩ := h1
  unfold lfCells
  have H_of_ := fun W (_ : Fr No w W) => eqRef_go x.of_ _ _ W ⟨rfl, (by assumption)⟩ ⟨rfl, (by assumption)⟩
  have H_kind := fun W (_ : Fr No w W) => eqKnd_go x.kind _ _ W ⟨rfl, (by assumption)⟩ ⟨rfl, (by assumption)⟩
  go_enter Tryz.func83, Tryz.ntmps83
  have ha0 : Bx ((w.alloc (.cells #[.int .i64 x.of_.keeper, .string x.of_.name, .int .i64 x.at_, .int .i64 x.kind.kind, .string x.kind.name] 141)).alloc (.cells #[.int .i64 x.of_.keeper, .string x.of_.name, .int .i64 x.at_, .int .i64 x.kind.kind, .string x.kind.name] 141)) w.heap.size 141 #[.int .i64 x.of_.keeper, .string x.of_.name, .int .i64 x.at_, .int .i64 x.kind.kind, .string x.kind.name] := (Bx.new_ rfl).alloc _
  have hb0 : Bx ((w.alloc (.cells #[.int .i64 x.of_.keeper, .string x.of_.name, .int .i64 x.at_, .int .i64 x.kind.kind, .string x.kind.name] 141)).alloc (.cells #[.int .i64 x.of_.keeper, .string x.of_.name, .int .i64 x.at_, .int .i64 x.kind.kind, .string x.kind.name] 141)) (w.heap.size + 1) 141 #[.int .i64 x.of_.keeper, .string x.of_.name, .int .i64 x.at_, .int .i64 x.kind.kind, .string x.kind.name] := Bx.new_ (by simp)
  go_wp2_with (first
    | (go_at_call 122; refine (H_of_ _ ?_).mono ?_; (focus (exact frc)); rintro e w1 ⟨rfl, hf1⟩; have ha1 := Bx.keepTo w1 ha0 (by exact frc); have hb1 := Bx.keepTo w1 hb0 (by exact frc); obtain ⟨e1_0, e1_1, e1_2, e1_3, e1_4⟩ := ha1.c5; obtain ⟨f1_0, f1_1, f1_2, f1_3, f1_4⟩ := hb1.c5; have hw1 : Fr No w w1 := (by exact frc))
    | (go_at_call 132; refine (H_kind _ ?_).mono ?_; (focus (exact frc)); rintro e w2 ⟨rfl, hf2⟩; have ha2 := Bx.keepTo w2 ha1 (by exact frc); have hb2 := Bx.keepTo w2 hb1 (by exact frc); obtain ⟨e2_0, e2_1, e2_2, e2_3, e2_4⟩ := ha2.c5; obtain ⟨f2_0, f2_1, f2_2, f2_3, f2_4⟩ := hb2.c5; have hw2 : Fr No w w2 := (by exact frc)))
  go_ret
  exact .mk rfl (by exact frc)

set_option maxRecDepth 100000 in
set_option maxHeartbeats 2000000 in
theorem eqLFldS_go (X Y : Nat → Prop) (v v1 : Value) (xs : List LFld) (w : World) (h : Sl X w 5 LFldC v xs) (g : Sl Y w 5 LFldC v1 xs) :
    Calls Tryz.prog 39 #[v, v1] w (BoolFr true w) := by
  obtain ⟨A, cap, rfl, _, hlen⟩ := h.form
  obtain ⟨B, cap1, rfl, _, _⟩ := g.form
  unfold maxLen at hlen
  go_enter Tryz.func39, Tryz.ntmps39
  go_wp2
  go_loopw [5, 4] (fun i r wr => ∃ k : Nat, k ≤ xs.length ∧ i = .int .i64 k ∧ r = .bool false ∧ Fr No w wr) (fun i _ _ => xs.length - (intOf i).toNat)
  case atStart => exact ⟨0, Nat.zero_le _, rfl, rfl, Fr.refl _ _⟩
  case round =>
    obtain ⟨k, hk, rfl, rfl, hf⟩ := hrel
    by_cases hlt : k < xs.length
    · obtain ⟨b, bf, rfl, _, c0, c1, c2, c3, c4, z0, z1⟩ := (h.keep hf (fun _ h => h.elim) (fun _ _ _ h => h)).lfld hlt
      obtain ⟨a, af, rfl, _, f0, f1, f2, f3, f4, y0, y1⟩ := (g.keep hf (fun _ h => h.elim) (fun _ _ _ h => h)).lfld hlt
      clear h g
      have H := fun W (_ : Fr No wr W) => eqLFld_go xs[k] _ _ W ⟨rfl, z0, z1⟩ ⟨rfl, z0, z1⟩
      generalize xs[k] = x at *
      have c0 := fun W (h : Fr No wr W) => h.keep0 c0
      have f0 := fun W (h : Fr No wr W) => h.keep0 f0
      have c1 := fun W (h : Fr No wr W) => h.keep0 c1
      have f1 := fun W (h : Fr No wr W) => h.keep0 f1
      have c2 := fun W (h : Fr No wr W) => h.keep0 c2
      have f2 := fun W (h : Fr No wr W) => h.keep0 f2
      have c3 := fun W (h : Fr No wr W) => h.keep0 c3
      have f3 := fun W (h : Fr No wr W) => h.keep0 f3
      have c4 := fun W (h : Fr No wr W) => h.keep0 c4
      have f4 := fun W (h : Fr No wr W) => h.keep0 f4
      go_wp2_with fail
      first
        | ((refine wp_region_fr (X := No) (by kernel_rfl) (by kernel_rfl) ?_); (repeat (first | (apply wq_pass; (focus (exact rfl)); simp only [Act.put, List.setIfInBounds_toArray, List.set_cons_zero, List.set_cons_succ]) | (apply wq_run; (focus (exact rfl)); (focus (intro W hW; go_simp; first | done | exact rfl | (go_at_call 83; exact (H W hW).mono (fun _ _ h => ⟨h.1, hW.trans0 h.2⟩)))); simp only [Act.put, List.setIfInBounds_toArray, List.set_cons_zero, List.set_cons_succ]))); refine wpQuiet_nil ?_)
        | ((refine wp_region_frn (X := No) ?_); (repeat (first | (apply wq_pass; (focus (exact rfl)); simp only [Act.put, List.setIfInBounds_toArray, List.set_cons_zero, List.set_cons_succ]) | (apply wq_run; (focus (exact rfl)); (focus (intro W hW; go_simp; first | done | exact rfl | (go_at_call 83; exact (H W hW).mono (fun _ _ h => ⟨h.1, hW.trans0 h.2⟩)))); simp only [Act.put, List.setIfInBounds_toArray, List.set_cons_zero, List.set_cons_succ]))); refine wpQuiet_nil ?_)
      intro w1 hf1
      clear c0 c1 c2 c3 c4 f0 f1 f2 f3 f4 H
      go_wp2
      go_roundw
      case rel => exact ⟨k + 1, by omega, by go_num, rfl, by exact frc⟩
      case measure => simp [intOf]; omega
    · clear h g
      go_wp2
      go_ret
      exact .mk rfl (by exact frc)

end Go.Proofs.YtoagehacllkchaaGreat

