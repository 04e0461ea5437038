/- The reference's l3Has, l3Under, l5May. -/
import Derived.Test.YthdibgikjekneaaGreatLku
import Derived.Test.YthdibgikjekneaaGreatSld
namespace Go.Proofs.YthdibgikjekneaaGreat
open Go.RowKit

set_option maxRecDepth 100000 in
set_option maxHeartbeats 2000000 in
theorem s_has (X : Nat → Prop) (v : Value) (xs : List Ref) (top : Ref) (w : World) (h : Sl X w 2 RefC v xs) :
    Calls Tryz.prog 165 #[v, .agg #[.int .i64 top.keeper, .string top.name]] w (BoolFr (xs.any (fun r => refIs r top)) w) := by
  obtain ⟨A, cap, rfl, _, hlen⟩ := h.form
  unfold maxLen at hlen
  have hU : xs.any (fun r => refIs r top) = xs.any (fun r => refIs r top) := rfl
  obtain ⟨V, hV⟩ : ∃ V, V = xs.any (fun r => refIs r top) := ⟨_, rfl⟩
  rw [← hV]
  obtain ⟨tk, tn⟩ := top
  replace hU := Lib.hid hV
  clear hV
  dsimp only at *
  go_enter Tryz.func165, Tryz.ntmps165
  have B := Bx.new w 34 #[.int .i64 tk, .string tn]
  have hfA : Fr No w (w.alloc (.cells #[.int .i64 tk, .string tn] 34)) := frc
  go_wp2
  generalize w.alloc (.cells #[.int .i64 tk, .string tn] 34) = wA at *
  go_loopw [5] (fun i wr => ∃ j : Nat, j ≤ xs.length ∧ i = .int .i64 j ∧ Hid (∀ x ∈ xs.take j, refIs x ⟨tk, tn⟩ = false) ∧ Fr No wA wr) (fun i _ => xs.length - (intOf i).toNat)
  case atStart => exact ⟨0, Nat.zero_le _, rfl, by simp [Hid], Fr.refl _ _⟩
  case round =>
    obtain ⟨j, hj, rfl, hn, hf⟩ := hrel
    by_cases hlt : j < xs.length
    · obtain ⟨b, bf, rfl, _, c0, c1, z⟩ := (h.keep (R' := RefC) (hfA.trans0 hf) (fun _ h => h.elim) (fun _ _ _ h => h)).ref hlt
      have BW := B.keep hf
      obtain ⟨K0, K2⟩ := BW.c2
      have kl := BW.lt
      clear h BW
      by_cases hm : refIs xs[j] ⟨tk, tn⟩ = true
      · have hV : V = true := by rw [hU.out, List.any_eq_true]; exact ⟨_, List.getElem_mem hlt, hm⟩
        rw [refIs_iff] at hm
        rw [hm] at c0 c1
        dsimp only at c0 c1
        clear hm hU hn
        have c0 := fun W (h : Fr No wr W) => h.keep0 c0
        have c1 := fun W (h : Fr No wr W) => h.keep0 c1
        have K0 := fun W (h : Fr No wr W) => h.keep0 K0
        have K2 := fun W (h : Fr No wr W) => h.keep0 K2
        go_wp2_with fail
        first
          | ((refine wp_region_fr (X := No) (by kernel_rfl) (by kernel_rfl) ?_); (repeat (first | (apply wq_pass; (focus (exact rfl)); simp only [Act.put, List.setIfInBounds_toArray, List.set_cons_zero, List.set_cons_succ]) | (apply wq_run; (focus (exact rfl)); (focus (intro W hW; go_simp; first | done | exact rfl | fail)); simp only [Act.put, List.setIfInBounds_toArray, List.set_cons_zero, List.set_cons_succ]))); refine wpQuiet_nil ?_)
          | ((refine wp_region_frn (X := No) ?_); (repeat (first | (apply wq_pass; (focus (exact rfl)); simp only [Act.put, List.setIfInBounds_toArray, List.set_cons_zero, List.set_cons_succ]) | (apply wq_run; (focus (exact rfl)); (focus (intro W hW; go_simp; first | done | exact rfl | fail)); simp only [Act.put, List.setIfInBounds_toArray, List.set_cons_zero, List.set_cons_succ]))); refine wpQuiet_nil ?_)
        intro w9 hf9
        clear c0 c1 K0 K2
        go_wp2
        go_ret
        exact .mk hV.symm frc
      · have hV : Hid (∀ x ∈ xs.take (j + 1), refIs x ⟨tk, tn⟩ = false) := by
          intro x hx
          rw [List.take_add_one, List.mem_append] at hx
          rcases hx with hx | hx
          · exact hn.out x hx
          · rw [List.getElem?_eq_getElem hlt] at hx
            simp only [Option.toList_some, List.mem_singleton] at hx
            rw [hx]; simpa using hm
        generalize hxj : xs[j] = x at *
        obtain ⟨xk, xn⟩ := x
        dsimp only at c0 c1
        have hx : ¬ xk = tk ∨ (xk = tk ∧ ¬ xn.toList = tn.toList) := by
          have h9 : refIs ⟨xk, xn⟩ ⟨tk, tn⟩ = false := by simpa using hm
          unfold refIs at h9
          by_cases h8 : xk = tk
          · exact .inr ⟨h8, by simpa [h8] using h9⟩
          · exact .inl h8
        clear hm hU hn hxj
        rcases hx with hx | ⟨rfl, hx⟩
        · have hx2 : (xk == tk) = false := by simpa using hx
          have c0 := fun W (h : Fr No wr W) => h.keep0 c0
          have c1 := fun W (h : Fr No wr W) => h.keep0 c1
          have K0 := fun W (h : Fr No wr W) => h.keep0 K0
          have K2 := fun W (h : Fr No wr W) => h.keep0 K2
          go_wp2_with fail
          first
            | ((refine wp_region_fr (X := No) (by kernel_rfl) (by kernel_rfl) ?_); (repeat (first | (apply wq_pass; (focus (exact rfl)); simp only [Act.put, List.setIfInBounds_toArray, List.set_cons_zero, List.set_cons_succ]) | (apply wq_run; (focus (exact rfl)); (focus (intro W hW; go_simp; first | done | exact rfl | fail)); simp only [Act.put, List.setIfInBounds_toArray, List.set_cons_zero, List.set_cons_succ]))); refine wpQuiet_nil ?_)
            | ((refine wp_region_frn (X := No) ?_); (repeat (first | (apply wq_pass; (focus (exact rfl)); simp only [Act.put, List.setIfInBounds_toArray, List.set_cons_zero, List.set_cons_succ]) | (apply wq_run; (focus (exact rfl)); (focus (intro W hW; go_simp; first | done | exact rfl | fail)); simp only [Act.put, List.setIfInBounds_toArray, List.set_cons_zero, List.set_cons_succ]))); refine wpQuiet_nil ?_)
          intro w9 hf9
          clear c0 c1 K0 K2
          go_wp2
          go_roundw
          case rel => exact ⟨j + 1, by omega, by go_num, hV, by exact frc⟩
          case measure => simp [intOf]; omega
        · have hx2 : (xn.toList == tn.toList) = false := by simpa using hx
          have c0 := fun W (h : Fr No wr W) => h.keep0 c0
          have c1 := fun W (h : Fr No wr W) => h.keep0 c1
          have K0 := fun W (h : Fr No wr W) => h.keep0 K0
          have K2 := fun W (h : Fr No wr W) => h.keep0 K2
          go_wp2_with fail
          first
            | ((refine wp_region_fr (X := No) (by kernel_rfl) (by kernel_rfl) ?_); (repeat (first | (apply wq_pass; (focus (exact rfl)); simp only [Act.put, List.setIfInBounds_toArray, List.set_cons_zero, List.set_cons_succ]) | (apply wq_run; (focus (exact rfl)); (focus (intro W hW; go_simp; first | done | exact rfl | fail)); simp only [Act.put, List.setIfInBounds_toArray, List.set_cons_zero, List.set_cons_succ]))); refine wpQuiet_nil ?_)
            | ((refine wp_region_frn (X := No) ?_); (repeat (first | (apply wq_pass; (focus (exact rfl)); simp only [Act.put, List.setIfInBounds_toArray, List.set_cons_zero, List.set_cons_succ]) | (apply wq_run; (focus (exact rfl)); (focus (intro W hW; go_simp; first | done | exact rfl | fail)); simp only [Act.put, List.setIfInBounds_toArray, List.set_cons_zero, List.set_cons_succ]))); refine wpQuiet_nil ?_)
          intro w9 hf9
          clear c0 c1 K0 K2
          go_wp2
          go_roundw
          case rel => exact ⟨j + 1, by omega, by go_num, hV, by exact frc⟩
          case measure => simp [intOf]; omega
    · clear h
      have hV : V = false := by
        rw [hU.out, List.any_eq_false]
        intro x hx
        have := hn.out x (by rwa [List.take_of_length_le (by omega)])
        simpa using this
      clear hU hn
      go_wp2
      go_ret
      exact .mk hV.symm frc

set_option maxRecDepth 100000 in
set_option maxHeartbeats 2000000 in
theorem s_under (X : Nat → Prop) (p : Plan) (v : Value) (k0 : Nat) (s0 : Str) (i0 : Nat) (rs : List Ref) (top : Ref) (w : World) (hp : lodB p = true) (h : Sl X w 2 (KprC X w) v p.keepers) (hh : Here p ⟨k0, s0⟩ k0 i0) (hs : s0.size ≤ maxLen) (hch : chainOf p ⟨k0, s0⟩ = some rs) :
    Calls Tryz.prog 108 #[.agg #[v], .agg #[.int .i64 k0, .string s0], .agg #[.int .i64 top.keeper, .string top.name]] w (BoolFr (rs.any (fun r => refIs r top)) w) := by
  obtain ⟨A, cap, rfl, hcap, hlen⟩ := h.form
  obtain ⟨wA, hwA⟩ : ∃ wA, wA = (((w.alloc (.cells #[.slice A p.keepers.length cap] 32)).alloc (.cells #[.int .i64 k0, .string s0] 34)).alloc (.cells #[.int .i64 top.keeper, .string top.name] 34)) := ⟨_, rfl⟩
  have hfA : Fr No w wA := hwA ▸ frc
  have K2 := (hwA ▸ bxc : Bx wA (w.heap.size + 2) 34 #[.int .i64 top.keeper, .string top.name])
  have HC := s_chain X p _ k0 s0 i0 wA hp (h.keep hfA (fun _ h => h.elim) (fun _ _ _ h => h.keep hfA (fun _ h => h.elim))) hh hs
  rw [hch] at HC
  obtain ⟨tk, tn⟩ := top
  dsimp only at *
  clear h hch hh
  go_enter Tryz.func108, Tryz.ntmps108
  go_wp2_with fail
  rw [← hwA]
  replace hwA := Lib.hid hwA
  refine HC.mono ?_
  rintro e w1 ⟨v1, rfl, hsl, hf1⟩
  have HH := s_has No v1 rs ⟨tk, tn⟩ w1 hsl
  obtain ⟨A1, c1, rfl, _, _⟩ := hsl.form
  have B1 := K2.keep hf1
  obtain ⟨y0, y1⟩ := B1.c2
  have yl := B1.lt
  clear HC hsl
  go_wp2_with fail
  refine HH.mono ?_
  rintro e w2 ⟨rfl, hf2⟩
  clear y0 y1 yl
  go_wp2
  go_ret
  exact .mk rfl (by exact frc)
end Go.Proofs.YthdibgikjekneaaGreat
