/- The reference: what a keeper finds; the chain of a class that its own keeper finds. -/
import Derived.Test.YtghmnkafpnkojaaGreatSle
namespace Go.Proofs.YtghmnkafpnkojaaGreat
open Go.RowKit

theorem hasK_nat {p : Plan} {k : Nat} (h : k < p.keepers.length) : hasK p k = true := by
  unfold hasK
  rw [decide_eq_true (show (0 : Int) ≤ k by omega), decide_eq_true (show (k : Int) < p.keepers.length by omega)]; rfl
theorem whoseK_nat {p : Plan} {k : Nat} {s : Str} (h : k < p.keepers.length) : whoseK p k s = whose p k s := by unfold whoseK; rw [hasK_nat h]; rfl
theorem findK_some {p : Plan} {k : Int} {s : Str} {r : Ref} {pre : List Ref} (h : whoseK p k s = (r, 1)) (hc : chainOf p r = some pre) : findK p k s = (r, 1) := by
  unfold findK; rw [h, hc]; rfl
theorem findK_above {p : Plan} {k : Int} {s : Str} {r : Ref} (h : whoseK p k s = (r, 1)) (hc : chainOf p r = none) : findK p k s = (noRef, 4) := by
  unfold findK; rw [h, hc]; rfl
theorem findK_not {p : Plan} {k : Int} {s : Str} (h : (whoseK p k s).2 ≠ 1) : findK p k s = (noRef, (whoseK p k s).2) := by
  unfold findK; rw [if_neg h]

set_option maxRecDepth 100000 in
set_option maxHeartbeats 4000000 in
theorem s_find (X : Nat → Prop) (p : Plan) (v : Value) (k0 : Nat) (s : Str) (w : World) (hp : lodB p = true) (h : Sl X w 2 (KprC X w) v p.keepers) (hk0 : k0 < p.keepers.length) (hs : s.size ≤ maxLen) :
    Calls Tryz.prog 77 #[.agg #[v], .int .i64 k0, .string s] w (Gives (refV (findK p k0 s)) w) := by
  obtain ⟨A, cap, rfl, hcap, hlen⟩ := h.form
  have HW := fun W (hW : Fr No w W) => s_whose X p _ k0 s W hp (h.keep hW (fun _ h => h.elim) (fun _ _ _ h => h.keep hW (fun _ h => h.elim))) hk0 hs
  have hkk := whoseK_nat (s := s) hk0
  have hB := (Bx.new w 36 #[.slice A p.keepers.length cap]).alloc (.cells #[.int .i64 0, .string ⟨#[]⟩] 29)
  have hZ : Bx ((w.alloc (.cells #[.slice A p.keepers.length cap] 36)).alloc (.cells #[.int .i64 0, .string ⟨#[]⟩] 29)) (w.heap.size + 1) 29 #[.int .i64 0, .string ⟨#[]⟩] := Bx.new_ (by simp)
  by_cases hc : (whose p k0 s).2 = 1
  · obtain ⟨kc, i, hq, hh⟩ : ∃ kc i : Nat, (whose p k0 s).1 = ⟨kc, s⟩ ∧ Here p ⟨kc, s⟩ kc i := whose_here hp 4 (k0 : Int) (by omega) (by omega) hc
    have hqq : whose p k0 s = (⟨kc, s⟩, 1) := by rw [← hq, ← hc]
    have HC := fun W (hW : Fr No w W) => s_chain X p _ kc s i W hp (h.keep hW (fun _ h => h.elim) (fun _ _ _ h => h.keep hW (fun _ h => h.elim))) hh hs
    rw [hqq] at HW hkk
    unfold refV at HW
    dsimp only at HW
    cases hch : chainOf p ⟨kc, s⟩ with
    | none =>
      rw [findK_above hkk hch]
      rw [hch] at HC
      clear h hq hqq hc hh hch hkk
      unfold refV
      go_enter Tryz.func77, Tryz.ntmps77
      go_wp2_with (first
        | (go_at_call 38; refine (HW _ (by exact frc)).mono ?_; rintro e w1 ⟨rfl, hf1⟩; have hB1 := hB.keep hf1; have hZ1 := hZ.keep hf1; have b1 := hB1.c1; obtain ⟨z0, z1⟩ := hZ1.c2; have hBl1 := hB1.lt; have hZl1 := hZ1.lt; have zf1 := (fun j => hZ1.frozen j))
        | (go_at_call 22; refine (HC _ (by exact frc)).mono ?_; rintro e w2 ⟨v2, rfl, _, hf2⟩; have hZ2 := (hZ1.alloc _).keep hf2; clear z0 z1 zf1; obtain ⟨z0, z1⟩ := hZ2.c2; have hZl2 := hZ2.lt; have zf2 := (fun j => hZ2.frozen j)))
      refine bodyPost_ret (v := .tuple #[.agg #[.int .i64 0, .string ⟨#[]⟩], .int .i64 4]) (by simp [results, Tryz.results77, go_sem, *]) rfl ?_
      exact .mk0 (by exact frc)
    | some pre =>
      rw [findK_some hkk hch]
      rw [hch] at HC
      clear h hq hqq hc hh hch hkk
      unfold refV
      go_enter Tryz.func77, Tryz.ntmps77
      go_wp2_with (first
        | (go_at_call 38; refine (HW _ (by exact frc)).mono ?_; rintro e w1 ⟨rfl, hf1⟩; have hB1 := hB.keep hf1; have hZ1 := hZ.keep hf1; have b1 := hB1.c1; obtain ⟨z0, z1⟩ := hZ1.c2; have hBl1 := hB1.lt; have hZl1 := hZ1.lt; have zf1 := (fun j => hZ1.frozen j))
        | (go_at_call 22; refine (HC _ (by exact frc)).mono ?_; rintro e w2 ⟨v2, rfl, _, hf2⟩; have hZ2 := (hZ1.alloc _).keep hf2; have hN2 := (Bx.new w1 29 #[.int .i64 kc, .string s]).keep hf2; clear z0 z1 zf1; obtain ⟨z0, z1⟩ := hZ2.c2; obtain ⟨m0, m1⟩ := hN2.c2; have hZl2 := hZ2.lt; have hNl2 := hN2.lt; have zf2 := (fun j => hZ2.frozen j)))
      refine bodyPost_ret (v := .tuple #[.agg #[.int .i64 kc, .string s], .int .i64 1]) (by simp [results, Tryz.results77, go_sem, *]) rfl ?_
      exact .mk0 (by exact frc)
  · have hno := whoseK_no (p := p) (s := s) (k := k0) (by rw [hkk]; exact hc)
    rw [findK_not (by rw [hkk]; exact hc), hkk]
    rw [hkk] at hno
    unfold refV at HW ⊢
    rw [hno] at HW
    dsimp only [noRef] at HW ⊢
    generalize (whose p k0 s).2 = c at *
    have hc' : (c != 1) = true := by simpa using hc
    clear hc hno h hkk
    go_enter Tryz.func77, Tryz.ntmps77
    go_wp2_with (go_at_call 38; refine (HW _ (by exact frc)).mono ?_; rintro e w1 ⟨rfl, hf1⟩; have hZ1 := hZ.keep hf1; obtain ⟨z0, z1⟩ := hZ1.c2; have hZl1 := hZ1.lt; have zf1 := (fun j => hZ1.frozen j))
    refine bodyPost_ret (v := .tuple #[.agg #[.int .i64 0, .string ⟨#[]⟩], .int .i64 c]) (by simp [results, Tryz.results77, go_sem, *]) rfl ?_
    exact .mk0 (by exact frc)
end Go.Proofs.YtghmnkafpnkojaaGreat

/- The reference: what is found of any keepers; the chain of a loadable class. -/
namespace Go.Proofs.YtghmnkafpnkojaaGreat
open Go.RowKit

def findS (p : Plan) (k : Int) (s : Str) : Ref × Int := if lodB p then findK p k s else (noRef, 2)
def chainS (p : Plan) (r : Ref) : List Ref := if lodB p then chainK p r else []

set_option maxRecDepth 100000 in
set_option maxHeartbeats 4000000 in
theorem s_lodfind (X : Nat → Prop) (p : Plan) (v : Value) (k : Int) (s : Str) (w : World) (h : Sl X w 2 (KprC X w) v p.keepers) (hs : s.size ≤ maxLen) :
    Calls Tryz.prog 54 #[.agg #[v], .int .i64 k, .string s] w (Gives (refV (findS p k s)) w) := by
  obtain ⟨A, cap, rfl, hcap, hlen⟩ := h.form
  unfold maxLen at hlen
  have hB := (Bx.new w 36 #[.slice A p.keepers.length cap]).alloc (.cells #[.int .i64 0, .string ⟨#[]⟩] 29)
  have hZ : Bx ((w.alloc (.cells #[.slice A p.keepers.length cap] 36)).alloc (.cells #[.int .i64 0, .string ⟨#[]⟩] 29)) (w.heap.size + 1) 29 #[.int .i64 0, .string ⟨#[]⟩] := Bx.new_ (by simp)
  have hkw := fun W (hW : Fr No w W) => h.keep (R' := KprC X W) hW (fun _ h => h.elim) (fun _ _ _ h => h.keep hW (fun _ h => h.elim))
  have HK := fun W (hW : Fr No w W) => s_lodok X p _ W (hkw W hW)
  have HN := fun W => s_nam s W hs
  have HL := fun W => s_l1In k 0 ((p.keepers.length : Int) - 1) W
  have wl : IntKind.i64.wrap ((p.keepers.length : Int) - 1) = (p.keepers.length : Int) - 1 := IntWalk.i64_in _ (by omega)
  have hhk : (decide (0 ≤ k) && decide (k ≤ (p.keepers.length : Int) - 1)) = hasK p k := by unfold hasK; rw [Bool.eq_iff_iff]; simp; omega
  rw [hhk] at HL
  obtain ⟨V, hV⟩ : ∃ V, V = findS p k s := ⟨_, rfl⟩
  rw [← hV]
  unfold findS at hV
  cases hp : lodB p
  · rw [hp] at HK hV
    rw [if_neg (by simp)] at hV
    subst hV
    clear h hkw hp hhk
    unfold refV noRef
    dsimp only
    go_enter Tryz.func54, Tryz.ntmps54
    go_wp2_with (go_at_call 75; refine (HK _ (by exact frc)).mono ?_; rintro e w1 ⟨rfl, hf1⟩; have hB1 := hB.keep hf1; have hZ1 := hZ.keep hf1; have b1 := hB1.c1; obtain ⟨z0, z1⟩ := hZ1.c2; have hBl1 := hB1.lt; have hZl1 := hZ1.lt; have zf1 := (fun j => hZ1.frozen j))
    refine bodyPost_ret (v := .tuple #[.agg #[.int .i64 0, .string ⟨#[]⟩], .int .i64 2]) (by simp [results, Tryz.results54, go_sem, *]) rfl ?_
    exact .mk0 (by exact frc)
  · have hp' := Lib.hid hp
    rw [hp] at HK hV
    rw [if_pos rfl] at hV
    cases hk : hasK p k
    · rw [no_find hk] at hV
      subst hV
      rw [hk] at HL
      clear h hkw hp hhk hk
      unfold refV noRef
      dsimp only
      go_enter Tryz.func54, Tryz.ntmps54
      go_wp2_with (first
        | (go_at_call 75; refine (HK _ (by exact frc)).mono ?_; rintro e w1 ⟨rfl, hf1⟩; have hB1 := hB.keep hf1; have hZ1 := hZ.keep hf1; have b1 := hB1.c1; obtain ⟨z0, z1⟩ := hZ1.c2; have hBl1 := hB1.lt; have hZl1 := hZ1.lt; have zf1 := (fun j => hZ1.frozen j))
        | (go_at_call 76; refine (HL _).mono ?_; rintro e w2 ⟨rfl, rfl⟩))
      refine bodyPost_ret (v := .tuple #[.agg #[.int .i64 0, .string ⟨#[]⟩], .int .i64 2]) (by simp [results, Tryz.results54, go_sem, *]) rfl ?_
      exact .mk0 (by exact frc)
    · rw [hk] at HL
      cases hn : namB s
      · rw [bad_find hp'.out hn] at hV
        subst hV
        rw [hn] at HN
        clear h hkw hp hhk hk hn
        unfold refV noRef
        dsimp only
        go_enter Tryz.func54, Tryz.ntmps54
        go_wp2_with (first
          | (go_at_call 75; refine (HK _ (by exact frc)).mono ?_; rintro e w1 ⟨rfl, hf1⟩; have hB1 := hB.keep hf1; have hZ1 := hZ.keep hf1; have b1 := hB1.c1; obtain ⟨z0, z1⟩ := hZ1.c2; have hBl1 := hB1.lt; have hZl1 := hZ1.lt; have zf1 := (fun j => hZ1.frozen j))
          | (go_at_call 76; refine (HL _).mono ?_; rintro e w2 ⟨rfl, rfl⟩)
          | (go_at_call 21; refine (HN _).mono ?_; rintro e w2 ⟨rfl, rfl⟩))
        refine bodyPost_ret (v := .tuple #[.agg #[.int .i64 0, .string ⟨#[]⟩], .int .i64 2]) (by simp [results, Tryz.results54, go_sem, *]) rfl ?_
        exact .mk0 (by exact frc)
      · rw [hn] at HN
        unfold hasK at hk
        rw [Bool.and_eq_true, decide_eq_true_eq, decide_eq_true_eq] at hk
        obtain ⟨k, rfl⟩ := Int.eq_ofNat_of_zero_le hk.1
        have HF := fun W (hW : Fr No w W) => s_find X p _ k s W hp'.out (hkw W hW) (by omega) hs
        rw [← hV] at HF
        clear h hkw hp hhk hk hn hV
        obtain ⟨⟨kc, nm⟩, c⟩ := V
        unfold refV at HF ⊢
        dsimp only at HF ⊢
        go_enter Tryz.func54, Tryz.ntmps54
        go_wp2_with (first
          | (go_at_call 75; refine (HK _ (by exact frc)).mono ?_; rintro e w1 ⟨rfl, hf1⟩; have hB1 := hB.keep hf1; have hZ1 := hZ.keep hf1; have b1 := hB1.c1; obtain ⟨z0, z1⟩ := hZ1.c2; have hBl1 := hB1.lt; have hZl1 := hZ1.lt; have zf1 := (fun j => hZ1.frozen j))
          | (go_at_call 76; refine (HL _).mono ?_; rintro e w2 ⟨rfl, rfl⟩)
          | (go_at_call 21; refine (HN _).mono ?_; rintro e w2 ⟨rfl, rfl⟩)
          | (go_at_call 77; refine (HF _ (by exact frc)).mono ?_; rintro e w2 ⟨rfl, hf2⟩; have hZ2 := hZ1.keep hf2; clear z0 z1 zf1; obtain ⟨z0, z1⟩ := hZ2.c2; have hZl2 := hZ2.lt; have zf2 := (fun j => hZ2.frozen j)))
        refine bodyPost_ret (v := .tuple #[.agg #[.int .i64 kc, .string nm], .int .i64 c]) (by simp [results, Tryz.results54, go_sem, *]) rfl ?_
        exact .mk0 (by exact frc)

theorem RefsPost.none_ {w w' : World} {xs : List Ref} {A : Option Addr} {c : Nat} (h : xs = []) (hf : Fr No w w') : RefsPost xs w (.returned (.slice A 0 c)) w' := by subst h; exact ⟨_, rfl, Sl.none_ A c, hf⟩

set_option maxRecDepth 100000 in
set_option maxHeartbeats 4000000 in
theorem s_lodchain (X : Nat → Prop) (p : Plan) (v : Value) (r : Ref) (w : World) (h : Sl X w 2 (KprC X w) v p.keepers) (hs : r.name.size ≤ maxLen) :
    Calls Tryz.prog 35 #[.agg #[v], .agg #[.int .i64 r.keeper, .string r.name]] w (RefsPost (chainS p r) w) := by
  obtain ⟨A, cap, rfl, hcap, hlen⟩ := h.form
  obtain ⟨rk, rn⟩ := r
  dsimp only at *
  have hB := (Bx.new w 36 #[.slice A p.keepers.length cap]).alloc (.cells #[.int .i64 rk, .string rn] 29)
  have hR : Bx ((w.alloc (.cells #[.slice A p.keepers.length cap] 36)).alloc (.cells #[.int .i64 rk, .string rn] 29)) (w.heap.size + 1) 29 #[.int .i64 rk, .string rn] := Bx.new_ (by simp)
  have hkw := fun W (hW : Fr No w W) => h.keep (R' := KprC X W) hW (fun _ h => h.elim) (fun _ _ _ h => h.keep hW (fun _ h => h.elim))
  have HF := fun W (hW : Fr No w W) => s_lodfind X p _ rk rn W (hkw W hW) hs
  by_cases hc : (findS p rk rn).2 = 1
  · have hp : lodB p = true := by
      cases hp : lodB p
      · unfold findS at hc; rw [hp] at hc; simp at hc
      · rfl
    have hfs : findS p rk rn = findK p rk rn := by unfold findS; rw [if_pos hp]
    have hcs : chainS p ⟨rk, rn⟩ = chainK p ⟨rk, rn⟩ := by unfold chainS; rw [if_pos hp]
    rw [hcs]
    rw [hfs] at hc HF
    obtain ⟨kc, i, pre, hq, hh, hch⟩ := findK_here hp hc
    rw [hq] at HF
    unfold refV at HF
    dsimp only at HF
    by_cases hk : (kc : Int) = rk
    · subst hk
      have hV : Hid (chainK p ⟨kc, rn⟩ = pre) := by
        show chainK p ⟨kc, rn⟩ = pre
        unfold chainK
        dsimp only
        rw [hq, if_pos ⟨rfl, rfl⟩, hch]; rfl
      have HC := fun W (hW : Fr No w W) => s_chain X p _ kc rn i W hp (hkw W hW) hh hs
      rw [hch] at HC
      clear h hkw hfs hcs hc hq hh hch
      go_enter Tryz.func35, Tryz.ntmps35
      go_wp2_with (first
        | (go_at_call 54; refine (HF _ (by exact frc)).mono ?_; rintro e w1 ⟨rfl, hf1⟩; have hB1 := hB.keep hf1; have hR1 := hR.keep hf1; have b1 := hB1.c1; obtain ⟨z0, z1⟩ := hR1.c2; have hBl1 := hB1.lt; have hRl1 := hR1.lt)
        | (go_at_call 22; refine (HC _ (by exact frc)).mono ?_; rintro e w2 ⟨v2, rfl, hsl, hf2⟩; obtain ⟨A2, c2, rfl, _, _⟩ := hsl.form))
      go_ret
      exact ⟨_, rfl, by rw [hV.out]; exact hsl, by exact frc⟩
    · have hV : Hid (chainK p ⟨rk, rn⟩ = []) := by
        show chainK p ⟨rk, rn⟩ = []
        unfold chainK
        dsimp only
        rw [hq, if_neg (fun h => hk h.2)]
      have hk' : ((kc : Int) == rk) = false := by simpa using hk
      have hk'' : ((kc : Int) != rk) = true := by simpa using hk
      clear h hkw hfs hcs hc hq hh hch hk
      go_enter Tryz.func35, Tryz.ntmps35
      go_wp2_with (go_at_call 54; refine (HF _ (by exact frc)).mono ?_; rintro e w1 ⟨rfl, hf1⟩; have hB1 := hB.keep hf1; have hR1 := hR.keep hf1; have b1 := hB1.c1; obtain ⟨z0, z1⟩ := hR1.c2; have hBl1 := hB1.lt; have hRl1 := hR1.lt)
      go_ret
      exact .none_ hV.out (by exact frc)
  · have hV : Hid (chainS p ⟨rk, rn⟩ = []) := by
      show chainS p ⟨rk, rn⟩ = []
      unfold chainS
      cases hp : lodB p
      · rfl
      · rw [if_pos rfl]
        unfold findS at hc
        rw [if_pos hp] at hc
        unfold chainK
        rw [if_neg (fun h => hc h.1)]
    unfold refV at HF
    generalize findS p rk rn = q at *
    obtain ⟨⟨kc, nm⟩, c⟩ := q
    dsimp only at *
    have hc' : (c != 1) = true := by simpa using hc
    clear h hkw hc
    go_enter Tryz.func35, Tryz.ntmps35
    go_wp2_with (go_at_call 54; refine (HF _ (by exact frc)).mono ?_; rintro e w1 ⟨rfl, hf1⟩; have hB1 := hB.keep hf1; have hR1 := hR.keep hf1; have b1 := hB1.c1; obtain ⟨z0, z1⟩ := hR1.c2; have hBl1 := hB1.lt; have hRl1 := hR1.lt)
    go_ret
    exact .none_ hV.out (by exact frc)
end Go.Proofs.YtghmnkafpnkojaaGreat
