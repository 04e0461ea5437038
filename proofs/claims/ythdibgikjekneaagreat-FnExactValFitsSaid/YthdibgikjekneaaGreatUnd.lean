/- The program's under and may: is a class under another; is what is known enough. -/
import Derived.Test.YthdibgikjekneaaGreatLku
import Derived.Test.YthdibgikjekneaaGreatFnd
import Derived.Test.YthdibgikjekneaaGreatMon
namespace Go.Proofs.YthdibgikjekneaaGreat
open Go.RowKit

set_option maxRecDepth 100000 in
set_option maxHeartbeats 2000000 in
theorem under_ok (l bl n : Nat) (p : Plan) (g : Int → Str → Option Int) (low top : Ref) (w : World) (h : Lodge w l bl n p g) (hs : low.name.size ≤ maxLen) :
    Calls Tryz.prog 169 #[.pointer (some ⟨l, 0, none⟩), .agg #[.int .i64 low.keeper, .string low.name], .agg #[.int .i64 top.keeper, .string top.name]] w (BoolFr (underK p low top) w) := by
  obtain ⟨wA, hwA⟩ : ∃ wA, wA = ((w.alloc (.cells #[.int .i64 low.keeper, .string low.name] 34)).alloc (.cells #[.int .i64 top.keeper, .string top.name] 34)) := ⟨_, rfl⟩
  have hfA : Fr No w wA := hwA ▸ frc
  have K1 := (hwA ▸ bxc : Bx wA (w.heap.size + 1) 34 #[.int .i64 top.keeper, .string top.name]).r2
  have HC := chain_ok l bl n p g low wA (h.keep hfA) hs
  have hU : underK p low top = (chainK p low).any (fun r => refIs r top) := rfl
  generalize underK p low top = V at *
  generalize chainK p low = xs at *
  obtain ⟨rk, rn⟩ := low
  obtain ⟨tk, tn⟩ := top
  replace hU := Lib.hid hU
  dsimp only at *
  clear h
  go_enter Tryz.func169, Tryz.ntmps169
  go_wp2_with fail
  rw [← hwA]
  replace hwA := Lib.hid hwA
  refine HC.mono ?_
  rintro e w1 ⟨v, rfl, hsl, hf1⟩
  obtain ⟨A, cap, rfl, _, hlen⟩ := hsl.form
  unfold maxLen at hlen
  clear HC
  go_wp2
  go_loopw [13] (fun i wr => ∃ j : Nat, j ≤ xs.length ∧ i = .int .i64 j ∧ Hid (∀ x ∈ xs.take j, refIs x ⟨tk, tn⟩ = false) ∧ Fr No w1 wr) (fun i _ => xs.length - (intOf i).toNat)
  case atStart => exact ⟨0, Nat.zero_le _, rfl, by simp [Hid], Fr.refl _ _⟩
  case round =>
    obtain ⟨j, hj, rfl, hn, hf⟩ := hrel
    have q : Fr No wA wr := hf1.trans0 hf
    by_cases hlt : j < xs.length
    · obtain ⟨b, bf, rfl, _, c0, c1, z⟩ := (hsl.keep (R' := RefC) hf (fun _ h => h.elim) (fun _ _ _ h => h)).ref hlt
      have K2 := K1 wr q
      clear hsl
      by_cases hm : refIs xs[j] ⟨tk, tn⟩ = true
      · have hV : V = true := by rw [hU.out, List.any_eq_true]; exact ⟨_, List.getElem_mem hlt, hm⟩
        rw [refIs_iff] at hm
        rw [hm] at c0 c1
        dsimp only at c0 c1
        clear hm hU hn
        go_wp2
        go_ret
        exact .mk hV.symm frc
      · have hV : Hid (∀ x ∈ xs.take (j + 1), refIs x ⟨tk, tn⟩ = false) := by
          intro x hx
          rw [List.take_add_one, List.mem_append] at hx
          rcases hx with hx | hx
          · exact hn.out x hx
          · rw [List.getElem?_eq_getElem hlt] at hx
            simp only [Option.toList_some, List.mem_singleton] at hx
            rw [hx]; simpa using hm
        generalize hxj : xs[j] = x at *
        obtain ⟨xk, xn⟩ := x
        have hx : (xk == tk && xn.toList == tn.toList) = false := by
          have h9 : refIs ⟨xk, xn⟩ ⟨tk, tn⟩ = false := by simpa using hm
          unfold refIs at h9
          simpa using h9
        dsimp only at c0 c1
        clear hm hU hn
        go_wp2
        · rename_i h1 h2
          rw [h1, h2] at hx
          simp at hx
        all_goals refine ⟨⟨j + 1, by omega, by go_num, hV, by exact frc⟩, ?_⟩
        all_goals simp [intOf]
        all_goals omega
    · clear hsl
      have hV : V = false := by
        rw [hU.out, List.any_eq_false]
        intro x hx
        have := hn.out x (by rwa [List.take_of_length_le (by omega)])
        simpa using this
      clear hU hn
      go_wp2
      go_ret
      exact .mk hV.symm frc

set_option maxRecDepth 100000 in
set_option maxHeartbeats 2000000 in
theorem may_ok (l bl n : Nat) (p : Plan) (g : Int → Str → Option Int) (k : Int) (a b : Tag) (w : World) (h : Lodge w l bl n p g) (ha : a.name.size ≤ maxLen) (hb : b.name.size ≤ maxLen) :
    Calls Tryz.prog 232 #[.pointer (some ⟨l, 0, none⟩), .int .i64 k, .agg #[.int .i64 a.kind, .string a.name], .agg #[.int .i64 b.kind, .string b.name]] w (BoolFr (mayK p k a b) w) := by
  have HA := fun W (hW : Fr No w W) => find_ok l bl n p g k a.name W (h.keep hW) ha
  have HB := fun W (hW : Fr No w W) => find_ok l bl n p g k b.name W (h.keep hW) hb
  have HU := fun (h1 : (findK p k a.name).2 = 1) W (hW : Fr No w W) => under_ok l bl n p g (findK p k a.name).1 (findK p k b.name).1 W (h.keep hW) (by obtain ⟨k1, i1, _, e1, _⟩ := findK_here h.1 h1; rw [e1]; exact ha)
  obtain ⟨V, hV⟩ : ∃ V, V = mayK p k a b := ⟨_, rfl⟩
  rw [← hV]
  unfold mayK at hV
  unfold refV at HA HB
  generalize underK p (findK p k a.name).1 (findK p k b.name).1 = U at *
  generalize findK p k a.name = qa at *
  generalize findK p k b.name = qb at *
  obtain ⟨⟨ka, na⟩, ca⟩ := qa
  obtain ⟨⟨kb, nb⟩, cb⟩ := qb
  obtain ⟨ak, an⟩ := a
  obtain ⟨bk, bn⟩ := b
  dsimp only at *
  clear h
  by_cases h0 : bk = 0
  · subst h0
    rw [if_pos rfl] at hV
    clear HA HB HU
    go_enter Tryz.func232, Tryz.ntmps232
    go_wp2
    go_ret
    exact .mk hV.symm frc
  rw [if_neg h0] at hV
  by_cases ht : tagEq ⟨ak, an⟩ ⟨bk, bn⟩ = true
  · rw [if_pos ht] at hV
    rw [tagEq_iff] at ht
    cases ht
    clear HA HB HU
    go_enter Tryz.func232, Tryz.ntmps232
    go_wp2
    go_ret
    exact .mk hV.symm frc
  rw [if_neg ht] at hV
  have hx : ¬ (ak = bk ∧ an.toList = bn.toList) := fun hx => ht (by unfold tagEq; simp [hx.1, hx.2])
  clear ht
  by_cases h2 : bk = 2
  · subst h2
    rw [if_neg (by simp)] at hV
    by_cases h3 : ak = 3
    · subst h3
      rw [if_pos rfl] at hV
      clear HA HB HU hx
      go_enter Tryz.func232, Tryz.ntmps232
      go_wp2
      go_ret
      exact .mk hV.symm frc
    rw [if_neg h3] at hV
    by_cases h4 : ak = 2
    · subst h4
      rw [if_neg (by simp)] at hV
      obtain ⟨wA, hwA⟩ : ∃ wA, wA = ((w.alloc (.cells #[.int .i64 2, .string an] 59)).alloc (.cells #[.int .i64 2, .string bn] 59)) := ⟨_, rfl⟩
      have hfA : Fr No w wA := hwA ▸ frc
      have K1 := (hwA ▸ bxc : Bx wA (w.heap.size + 1) 59 #[.int .i64 2, .string bn]).r2
      have hn : ¬ an.toList = bn.toList := fun h => hx ⟨rfl, h⟩
      clear hx h0
      have hcase : (ca = 1 ∧ cb = 1) ∨ (ca = 1 ∧ ¬ cb = 1) ∨ ¬ ca = 1 := by
        by_cases h1 : ca = 1 <;> by_cases h2 : cb = 1 <;> simp [h1, h2]
      replace hV := Lib.hid hV
      rcases hcase with ⟨rfl, rfl⟩ | ⟨rfl, hc2⟩ | hc1
      · have hE : V = U := by rw [hV.out]; simp
        have HU' := HU rfl
        clear HU hV
        go_enter Tryz.func232, Tryz.ntmps232
        go_wp2_with fail
        rw [← hwA]
        replace hwA := Lib.hid hwA
        refine (HA _ hfA).mono ?_
        rintro e w1 ⟨rfl, hf1⟩
        have z1 := K1 w1 hf1
        have R1 := (Bx.new w1 34 #[.int .i64 ka, .string na])
        go_wp2_with fail
        refine (HB _ (by exact frc)).mono ?_
        rintro e w2 ⟨rfl, hf2⟩
        have R2 := R1.keep hf2
        obtain ⟨y0, y1⟩ := R2.c2
        have yl := R2.lt
        clear z1 R1
        go_wp2_with fail
        refine (HU' _ (by exact frc)).mono ?_
        rintro e w3 ⟨rfl, hf3⟩
        clear y0 y1 yl R2
        go_wp2
        go_ret
        exact .mk hE.symm (by exact frc)
      · have hE : V = false := by rw [hV.out]; simp [hc2]
        clear HU hV
        go_enter Tryz.func232, Tryz.ntmps232
        go_wp2_with fail
        rw [← hwA]
        replace hwA := Lib.hid hwA
        refine (HA _ hfA).mono ?_
        rintro e w1 ⟨rfl, hf1⟩
        have z1 := K1 w1 hf1
        go_wp2_with fail
        refine (HB _ (by exact frc)).mono ?_
        rintro e w2 ⟨rfl, hf2⟩
        clear z1
        go_wp2
        go_ret
        exact .mk hE.symm (by exact frc)
      · have hE : V = false := by rw [hV.out]; simp [hc1]
        clear HU hV
        go_enter Tryz.func232, Tryz.ntmps232
        go_wp2_with fail
        rw [← hwA]
        replace hwA := Lib.hid hwA
        refine (HA _ hfA).mono ?_
        rintro e w1 ⟨rfl, hf1⟩
        have z1 := K1 w1 hf1
        go_wp2_with fail
        refine (HB _ (by exact frc)).mono ?_
        rintro e w2 ⟨rfl, hf2⟩
        clear z1
        go_wp2
        go_ret
        exact .mk hE.symm (by exact frc)
    · rw [if_pos h4] at hV
      clear HA HB HU hx
      go_enter Tryz.func232, Tryz.ntmps232
      go_wp2
      go_ret
      exact .mk hV.symm frc
  · rw [if_pos h2] at hV
    clear HA HB HU
    go_enter Tryz.func232, Tryz.ntmps232
    go_wp2
    all_goals first
      | (go_ret; exact .mk hV.symm frc)
      | (exact absurd ⟨by assumption, by assumption⟩ hx)
end Go.Proofs.YthdibgikjekneaaGreat
