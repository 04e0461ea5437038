/- The reference: what is found of any keepers, the chain of a loadable class, LnkLaid, LnkPick. -/
import Derived.Test.YthdibgikjekneaaGreatSlh
namespace Go.Proofs.YthdibgikjekneaaGreat
open Go.RowKit

set_option maxRecDepth 100000 in
set_option maxHeartbeats 4000000 in
theorem s_lodfind (X : Nat → Prop) (p : Plan) (v : Value) (k : Int) (s : Str) (w : World) (h : Sl X w 2 (KprC X w) v p.keepers) (hs : s.size ≤ maxLen) :
    Calls Tryz.prog 124 #[.agg #[v], .int .i64 k, .string s] w (Gives (refV (findS p k s)) w) := by
  obtain ⟨A, cap, rfl, hcap, hlen⟩ := h.form
  unfold maxLen at hlen
  have hB := (Bx.new w 32 #[.slice A p.keepers.length cap]).alloc (.cells #[.int .i64 0, .string ⟨#[]⟩] 34)
  have hZ : Bx ((w.alloc (.cells #[.slice A p.keepers.length cap] 32)).alloc (.cells #[.int .i64 0, .string ⟨#[]⟩] 34)) (w.heap.size + 1) 34 #[.int .i64 0, .string ⟨#[]⟩] := Bx.new_ (by simp)
  have hkw := fun W (hW : Fr No w W) => h.keep (R' := KprC X W) hW (fun _ h => h.elim) (fun _ _ _ h => h.keep hW (fun _ h => h.elim))
  have HK := fun W (hW : Fr No w W) => s_lodok X p _ W (hkw W hW)
  have HN := fun W => s_nam s W hs
  have HL := fun W => s_l1In k 0 ((p.keepers.length : Int) - 1) W
  have wl : IntKind.i64.wrap ((p.keepers.length : Int) - 1) = (p.keepers.length : Int) - 1 := IntWalk.i64_in _ (by omega)
  have hhk : (decide (0 ≤ k) && decide (k ≤ (p.keepers.length : Int) - 1)) = hasK p k := by unfold hasK; rw [Bool.eq_iff_iff]; simp; omega
  rw [hhk] at HL
  obtain ⟨V, hV⟩ : ∃ V, V = findS p k s := ⟨_, rfl⟩
  rw [← hV]
  unfold findS at hV
  cases hp : lodB p
  · rw [hp] at HK hV
    rw [if_neg (by simp)] at hV
    subst hV
    clear h hkw hp hhk
    unfold refV noRef
    dsimp only
    go_enter Tryz.func124, Tryz.ntmps124
    go_wp2_with (go_at_call 44; refine (HK _ (by exact frc)).mono ?_; rintro e w1 ⟨rfl, hf1⟩; have hB1 := hB.keep hf1; have hZ1 := hZ.keep hf1; have b1 := hB1.c1; obtain ⟨z0, z1⟩ := hZ1.c2; have hBl1 := hB1.lt; have hZl1 := hZ1.lt; have zf1 := (fun j => hZ1.frozen j))
    refine bodyPost_ret (v := .tuple #[.agg #[.int .i64 0, .string ⟨#[]⟩], .int .i64 2]) (by simp [results, Tryz.results124, go_sem, *]) rfl ?_
    exact .mk0 (by exact frc)
  · have hp' := Lib.hid hp
    rw [hp] at HK hV
    rw [if_pos rfl] at hV
    cases hk : hasK p k
    · rw [no_find hk] at hV
      subst hV
      rw [hk] at HL
      clear h hkw hp hhk hk
      unfold refV noRef
      dsimp only
      go_enter Tryz.func124, Tryz.ntmps124
      go_wp2_with (first
        | (go_at_call 44; refine (HK _ (by exact frc)).mono ?_; rintro e w1 ⟨rfl, hf1⟩; have hB1 := hB.keep hf1; have hZ1 := hZ.keep hf1; have b1 := hB1.c1; obtain ⟨z0, z1⟩ := hZ1.c2; have hBl1 := hB1.lt; have hZl1 := hZ1.lt; have zf1 := (fun j => hZ1.frozen j))
        | (go_at_call 47; refine (HL _).mono ?_; rintro e w2 ⟨rfl, rfl⟩))
      refine bodyPost_ret (v := .tuple #[.agg #[.int .i64 0, .string ⟨#[]⟩], .int .i64 2]) (by simp [results, Tryz.results124, go_sem, *]) rfl ?_
      exact .mk0 (by exact frc)
    · rw [hk] at HL
      cases hn : namB s
      · rw [bad_find hp'.out hn] at hV
        subst hV
        rw [hn] at HN
        clear h hkw hp hhk hk hn
        unfold refV noRef
        dsimp only
        go_enter Tryz.func124, Tryz.ntmps124
        go_wp2_with (first
          | (go_at_call 44; refine (HK _ (by exact frc)).mono ?_; rintro e w1 ⟨rfl, hf1⟩; have hB1 := hB.keep hf1; have hZ1 := hZ.keep hf1; have b1 := hB1.c1; obtain ⟨z0, z1⟩ := hZ1.c2; have hBl1 := hB1.lt; have hZl1 := hZ1.lt; have zf1 := (fun j => hZ1.frozen j))
          | (go_at_call 47; refine (HL _).mono ?_; rintro e w2 ⟨rfl, rfl⟩)
          | (go_at_call 106; refine (HN _).mono ?_; rintro e w2 ⟨rfl, rfl⟩))
        refine bodyPost_ret (v := .tuple #[.agg #[.int .i64 0, .string ⟨#[]⟩], .int .i64 2]) (by simp [results, Tryz.results124, go_sem, *]) rfl ?_
        exact .mk0 (by exact frc)
      · rw [hn] at HN
        unfold hasK at hk
        rw [Bool.and_eq_true, decide_eq_true_eq, decide_eq_true_eq] at hk
        obtain ⟨k, rfl⟩ := Int.eq_ofNat_of_zero_le hk.1
        have HF := fun W (hW : Fr No w W) => s_find X p _ k s W hp'.out (hkw W hW) (by omega) hs
        rw [← hV] at HF
        clear h hkw hp hhk hk hn hV
        obtain ⟨⟨kc, nm⟩, c⟩ := V
        unfold refV at HF ⊢
        dsimp only at HF ⊢
        go_enter Tryz.func124, Tryz.ntmps124
        go_wp2_with (first
          | (go_at_call 44; refine (HK _ (by exact frc)).mono ?_; rintro e w1 ⟨rfl, hf1⟩; have hB1 := hB.keep hf1; have hZ1 := hZ.keep hf1; have b1 := hB1.c1; obtain ⟨z0, z1⟩ := hZ1.c2; have hBl1 := hB1.lt; have hZl1 := hZ1.lt; have zf1 := (fun j => hZ1.frozen j))
          | (go_at_call 47; refine (HL _).mono ?_; rintro e w2 ⟨rfl, rfl⟩)
          | (go_at_call 106; refine (HN _).mono ?_; rintro e w2 ⟨rfl, rfl⟩)
          | (go_at_call 107; refine (HF _ (by exact frc)).mono ?_; rintro e w2 ⟨rfl, hf2⟩; have hZ2 := hZ1.keep hf2; clear z0 z1 zf1; obtain ⟨z0, z1⟩ := hZ2.c2; have hZl2 := hZ2.lt; have zf2 := (fun j => hZ2.frozen j)))
        refine bodyPost_ret (v := .tuple #[.agg #[.int .i64 kc, .string nm], .int .i64 c]) (by simp [results, Tryz.results124, go_sem, *]) rfl ?_
        exact .mk0 (by exact frc)


set_option maxRecDepth 100000 in
set_option maxHeartbeats 4000000 in
theorem s_lodchain (X : Nat → Prop) (p : Plan) (v : Value) (r : Ref) (w : World) (h : Sl X w 2 (KprC X w) v p.keepers) (hs : r.name.size ≤ maxLen) :
    Calls Tryz.prog 76 #[.agg #[v], .agg #[.int .i64 r.keeper, .string r.name]] w (RefsPost (chainS p r) w) := by
  obtain ⟨A, cap, rfl, hcap, hlen⟩ := h.form
  obtain ⟨rk, rn⟩ := r
  dsimp only at *
  have hB := (Bx.new w 32 #[.slice A p.keepers.length cap]).alloc (.cells #[.int .i64 rk, .string rn] 34)
  have hR : Bx ((w.alloc (.cells #[.slice A p.keepers.length cap] 32)).alloc (.cells #[.int .i64 rk, .string rn] 34)) (w.heap.size + 1) 34 #[.int .i64 rk, .string rn] := Bx.new_ (by simp)
  have hkw := fun W (hW : Fr No w W) => h.keep (R' := KprC X W) hW (fun _ h => h.elim) (fun _ _ _ h => h.keep hW (fun _ h => h.elim))
  have HF := fun W (hW : Fr No w W) => s_lodfind X p _ rk rn W (hkw W hW) hs
  by_cases hc : (findS p rk rn).2 = 1
  · have hp : lodB p = true := by
      cases hp : lodB p
      · unfold findS at hc; rw [hp] at hc; simp at hc
      · rfl
    have hfs : findS p rk rn = findK p rk rn := by unfold findS; rw [if_pos hp]
    have hcs : chainS p ⟨rk, rn⟩ = chainK p ⟨rk, rn⟩ := by unfold chainS; rw [if_pos hp]
    rw [hcs]
    rw [hfs] at hc HF
    obtain ⟨kc, i, pre, hq, hh, hch⟩ := findK_here hp hc
    rw [hq] at HF
    unfold refV at HF
    dsimp only at HF
    by_cases hk : (kc : Int) = rk
    · subst hk
      have hV : Hid (chainK p ⟨kc, rn⟩ = pre) := by
        show chainK p ⟨kc, rn⟩ = pre
        unfold chainK
        dsimp only
        rw [hq, if_pos ⟨rfl, rfl⟩, hch]; rfl
      have HC := fun W (hW : Fr No w W) => s_chain X p _ kc rn i W hp (hkw W hW) hh hs
      rw [hch] at HC
      clear h hkw hfs hcs hc hq hh hch
      go_enter Tryz.func76, Tryz.ntmps76
      go_wp2_with (first
        | (go_at_call 124; refine (HF _ (by exact frc)).mono ?_; rintro e w1 ⟨rfl, hf1⟩; have hB1 := hB.keep hf1; have hR1 := hR.keep hf1; have b1 := hB1.c1; obtain ⟨z0, z1⟩ := hR1.c2; have hBl1 := hB1.lt; have hRl1 := hR1.lt)
        | (go_at_call 125; refine (HC _ (by exact frc)).mono ?_; rintro e w2 ⟨v2, rfl, hsl, hf2⟩; obtain ⟨A2, c2, rfl, _, _⟩ := hsl.form))
      go_ret
      exact ⟨_, rfl, by rw [hV.out]; exact hsl, by exact frc⟩
    · have hV : Hid (chainK p ⟨rk, rn⟩ = []) := by
        show chainK p ⟨rk, rn⟩ = []
        unfold chainK
        dsimp only
        rw [hq, if_neg (fun h => hk h.2)]
      have hk' : ((kc : Int) == rk) = false := by simpa using hk
      have hk'' : ((kc : Int) != rk) = true := by simpa using hk
      clear h hkw hfs hcs hc hq hh hch hk
      go_enter Tryz.func76, Tryz.ntmps76
      go_wp2_with (go_at_call 124; refine (HF _ (by exact frc)).mono ?_; rintro e w1 ⟨rfl, hf1⟩; have hB1 := hB.keep hf1; have hR1 := hR.keep hf1; have b1 := hB1.c1; obtain ⟨z0, z1⟩ := hR1.c2; have hBl1 := hB1.lt; have hRl1 := hR1.lt)
      go_ret
      exact .none_ hV.out (by exact frc)
  · have hV : Hid (chainS p ⟨rk, rn⟩ = []) := by
      show chainS p ⟨rk, rn⟩ = []
      unfold chainS
      cases hp : lodB p
      · rfl
      · rw [if_pos rfl]
        unfold findS at hc
        rw [if_pos hp] at hc
        unfold chainK
        rw [if_neg (fun h => hc h.1)]
    unfold refV at HF
    generalize findS p rk rn = q at *
    obtain ⟨⟨kc, nm⟩, c⟩ := q
    dsimp only at *
    have hc' : (c != 1) = true := by simpa using hc
    clear h hkw hc
    go_enter Tryz.func76, Tryz.ntmps76
    go_wp2_with (go_at_call 124; refine (HF _ (by exact frc)).mono ?_; rintro e w1 ⟨rfl, hf1⟩; have hB1 := hB.keep hf1; have hR1 := hR.keep hf1; have b1 := hB1.c1; obtain ⟨z0, z1⟩ := hR1.c2; have hBl1 := hB1.lt; have hRl1 := hR1.lt)
    go_ret
    exact .none_ hV.out (by exact frc)

set_option maxRecDepth 100000 in
set_option maxHeartbeats 4000000 in
theorem s_lnklaid (X : Nat → Prop) (p : Plan) (v : Value) (r : Ref) (w : World) (h : Sl X w 2 (KprC X w) v p.keepers) (hs : r.name.size ≤ maxLen) :
    Calls Tryz.prog 37 #[.agg #[v], .agg #[.int .i64 r.keeper, .string r.name]] w (BoolFr (canS p r) w) := by
  obtain ⟨A, cap, rfl, hcap, hlen⟩ := h.form
  have hkw := fun W (hW : Fr No w W) => h.keep (R' := KprC X W) hW (fun _ h => h.elim) (fun _ _ _ h => h.keep hW (fun _ h => h.elim))
  have HC := fun W (hW : Fr No w W) => s_lodchain X p _ r W (hkw W hW) hs
  have hB := (Bx.new w 32 #[.slice A p.keepers.length cap]).alloc (.cells #[.int .i64 r.keeper, .string r.name] 34)
  have hR : Bx ((w.alloc (.cells #[.slice A p.keepers.length cap] 32)).alloc (.cells #[.int .i64 r.keeper, .string r.name] 34)) (w.heap.size + 1) 34 #[.int .i64 r.keeper, .string r.name] := Bx.new_ (by simp)
  by_cases hc : chainS p r = []
  · have hV : Hid (canS p r = false) := by
      show canS p r = false
      unfold canS canB
      unfold chainS at hc
      cases hp : lodB p
      · rfl
      · rw [hp, if_pos rfl] at hc; rw [hc]; rfl
    rw [hc] at HC
    clear hc h hkw
    go_enter Tryz.func37, Tryz.ntmps37
    go_wp2_with (go_at_call 76; refine (HC _ (by exact frc)).mono ?_; rintro e w1 ⟨v1, rfl, hsl, hf1⟩; obtain ⟨A1, c1, rfl, _, _⟩ := hsl.form)
    go_ret
    exact .mk hV.out.symm (by exact frc)
  · obtain ⟨hp, k0, i0, hh, hch⟩ : lodB p = true ∧ ∃ k i : Nat, Here p r k i ∧ chainOf p r = some (chainS p r) := by
      unfold chainS at hc ⊢
      cases hp : lodB p
      · rw [hp] at hc; exact absurd rfl hc
      · rw [hp, if_pos rfl] at hc
        rw [if_pos rfl]
        rcases chainK_cases hp r with h | ⟨k, i, h1, h2⟩
        · exact absurd h hc
        · exact ⟨rfl, k, i, h1, h2⟩
    have hV : Hid (canS p r = laidL p (chainS p r)) := by
      show canS p r = _
      unfold canS canB
      unfold chainS at hc ⊢
      rw [hp, if_pos rfl] at hc
      rw [hp, if_pos rfl]
      cases hx : chainK p r with
      | nil => exact absurd hx hc
      | cons a as' => rfl
    have hpos : 0 < (chainS p r).length := List.length_pos_iff.2 hc
    obtain ⟨rk, rn⟩ := r
    obtain rfl : rk = (k0 : Int) := hh.1
    have HL := fun W (hW : Fr No w W) => s_laid X p _ k0 rn i0 W hp (hkw W hW) hh hs
    rw [hch] at HL
    dsimp only [Option.getD_some] at *
    clear hc h hkw hh hch
    generalize chainS p ⟨k0, rn⟩ = xs at *
    generalize laidL p xs = ok at *
    go_enter Tryz.func37, Tryz.ntmps37
    go_wp2_with (first
      | (go_at_call 76; refine (HC _ (by exact frc)).mono ?_; rintro e w1 ⟨v1, rfl, hsl, hf1⟩; obtain ⟨A1, c1, rfl, _, _⟩ := hsl.form; have hB1 := hB.keep hf1; have hR1 := hR.keep hf1; have b1 := hB1.c1; obtain ⟨z0, z1⟩ := hR1.c2; have hBl1 := hB1.lt; have hRl1 := hR1.lt)
      | (go_at_call 77; refine (HL _ (by exact frc)).mono ?_; rintro e w2 ⟨rfl, hf2⟩))
    go_ret
    exact .mk hV.out.symm (by exact frc)

theorem canS_chain {p : Plan} {r : Ref} (h : canS p r = true) : lodB p = true ∧ ∃ k i : Nat, Here p r k i ∧ chainOf p r = some (chainK p r) := by
  unfold canS canB at h
  rw [Bool.and_eq_true, Bool.and_eq_true] at h
  rcases chainK_cases h.1 r with h1 | h1
  · rw [h1] at h; simp at h
  · exact ⟨h.1, h1⟩
end Go.Proofs.YthdibgikjekneaaGreat
