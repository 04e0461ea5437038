/- The reference: what a keeper finds; the chain of a class that its own keeper finds. -/
import Derived.Test.YtghmnkafpnkojaaGreatDoorSle
namespace Go.Proofs.YtghmnkafpnkojaaGreatDoor
open Go.RowKit

theorem hasK_nat {p : Plan} {k : Nat} (h : k < p.keepers.length) : hasK p k = true := by
  unfold hasK
  rw [decide_eq_true (show (0 : Int) ≤ k by omega), decide_eq_true (show (k : Int) < p.keepers.length by omega)]; rfl
theorem whoseK_nat {p : Plan} {k : Nat} {s : Str} (h : k < p.keepers.length) : whoseK p k s = whose p k s := by unfold whoseK; rw [hasK_nat h]; rfl
theorem findK_some {p : Plan} {k : Int} {s : Str} {r : Ref} {pre : List Ref} (h : whoseK p k s = (r, 1)) (hc : chainOf p r = some pre) : findK p k s = (r, 1) := by
  unfold findK; rw [h, hc]; rfl
theorem findK_above {p : Plan} {k : Int} {s : Str} {r : Ref} (h : whoseK p k s = (r, 1)) (hc : chainOf p r = none) : findK p k s = (noRef, 4) := by
  unfold findK; rw [h, hc]; rfl
theorem findK_not {p : Plan} {k : Int} {s : Str} (h : (whoseK p k s).2 ≠ 1) : findK p k s = (noRef, (whoseK p k s).2) := by
  unfold findK; rw [if_neg h]

set_option maxRecDepth 100000 in
set_option maxHeartbeats 4000000 in
theorem s_find (X : Nat → Prop) (p : Plan) (v : Value) (k0 : Nat) (s : Str) (w : World) (hp : lodB p = true) (h : Sl X w 2 (KprC X w) v p.keepers) (hk0 : k0 < p.keepers.length) (hs : s.size ≤ maxLen) :
    Calls Tryz.prog 55 #[.agg #[v], .int .i64 k0, .string s] w (Gives (refV (findK p k0 s)) w) := by
  obtain ⟨A, cap, rfl, hcap, hlen⟩ := h.form
  have HW := fun W (hW : Fr No w W) => s_whose X p _ k0 s W hp (h.keep hW (fun _ h => h.elim) (fun _ _ _ h => h.keep hW (fun _ h => h.elim))) hk0 hs
  have hkk := whoseK_nat (s := s) hk0
  have hB := (Bx.new w 34 #[.slice A p.keepers.length cap]).alloc (.cells #[.int .i64 0, .string ⟨#[]⟩] 27)
  have hZ : Bx ((w.alloc (.cells #[.slice A p.keepers.length cap] 34)).alloc (.cells #[.int .i64 0, .string ⟨#[]⟩] 27)) (w.heap.size + 1) 27 #[.int .i64 0, .string ⟨#[]⟩] := Bx.new_ (by simp)
  by_cases hc : (whose p k0 s).2 = 1
  · obtain ⟨kc, i, hq, hh⟩ : ∃ kc i : Nat, (whose p k0 s).1 = ⟨kc, s⟩ ∧ Here p ⟨kc, s⟩ kc i := whose_here hp 4 (k0 : Int) (by omega) (by omega) hc
    have hqq : whose p k0 s = (⟨kc, s⟩, 1) := by rw [← hq, ← hc]
    have HC := fun W (hW : Fr No w W) => s_chain X p _ kc s i W hp (h.keep hW (fun _ h => h.elim) (fun _ _ _ h => h.keep hW (fun _ h => h.elim))) hh hs
    rw [hqq] at HW hkk
    unfold refV at HW
    dsimp only at HW
    cases hch : chainOf p ⟨kc, s⟩ with
    | none =>
      rw [findK_above hkk hch]
      rw [hch] at HC
      clear h hq hqq hc hh hch hkk
      unfold refV
      go_enter Tryz.func55, Tryz.ntmps55
      go_wp2_with (first
        | (go_at_call 58; refine (HW _ (by exact frc)).mono ?_; rintro e w1 ⟨rfl, hf1⟩; have hB1 := hB.keep hf1; have hZ1 := hZ.keep hf1; have b1 := hB1.c1; obtain ⟨z0, z1⟩ := hZ1.c2; have hBl1 := hB1.lt; have hZl1 := hZ1.lt; have zf1 := (fun j => hZ1.frozen j))
        | (go_at_call 31; refine (HC _ (by exact frc)).mono ?_; rintro e w2 ⟨v2, rfl, _, hf2⟩; have hZ2 := (hZ1.alloc _).keep hf2; clear z0 z1 zf1; obtain ⟨z0, z1⟩ := hZ2.c2; have hZl2 := hZ2.lt; have zf2 := (fun j => hZ2.frozen j)))
      refine bodyPost_ret (v := .tuple #[.agg #[.int .i64 0, .string ⟨#[]⟩], .int .i64 4]) (by simp [results, Tryz.results55, go_sem, *]) rfl ?_
      exact .mk0 (by exact frc)
    | some pre =>
      rw [findK_some hkk hch]
      rw [hch] at HC
      clear h hq hqq hc hh hch hkk
      unfold refV
      go_enter Tryz.func55, Tryz.ntmps55
      go_wp2_with (first
        | (go_at_call 58; refine (HW _ (by exact frc)).mono ?_; rintro e w1 ⟨rfl, hf1⟩; have hB1 := hB.keep hf1; have hZ1 := hZ.keep hf1; have b1 := hB1.c1; obtain ⟨z0, z1⟩ := hZ1.c2; have hBl1 := hB1.lt; have hZl1 := hZ1.lt; have zf1 := (fun j => hZ1.frozen j))
        | (go_at_call 31; refine (HC _ (by exact frc)).mono ?_; rintro e w2 ⟨v2, rfl, _, hf2⟩; have hZ2 := (hZ1.alloc _).keep hf2; have hN2 := (Bx.new w1 27 #[.int .i64 kc, .string s]).keep hf2; clear z0 z1 zf1; obtain ⟨z0, z1⟩ := hZ2.c2; obtain ⟨m0, m1⟩ := hN2.c2; have hZl2 := hZ2.lt; have hNl2 := hN2.lt; have zf2 := (fun j => hZ2.frozen j)))
      refine bodyPost_ret (v := .tuple #[.agg #[.int .i64 kc, .string s], .int .i64 1]) (by simp [results, Tryz.results55, go_sem, *]) rfl ?_
      exact .mk0 (by exact frc)
  · have hno := whoseK_no (p := p) (s := s) (k := k0) (by rw [hkk]; exact hc)
    rw [findK_not (by rw [hkk]; exact hc), hkk]
    rw [hkk] at hno
    unfold refV at HW ⊢
    rw [hno] at HW
    dsimp only [noRef] at HW ⊢
    generalize (whose p k0 s).2 = c at *
    have hc' : (c != 1) = true := by simpa using hc
    clear hc hno h hkk
    go_enter Tryz.func55, Tryz.ntmps55
    go_wp2_with (go_at_call 58; refine (HW _ (by exact frc)).mono ?_; rintro e w1 ⟨rfl, hf1⟩; have hZ1 := hZ.keep hf1; obtain ⟨z0, z1⟩ := hZ1.c2; have hZl1 := hZ1.lt; have zf1 := (fun j => hZ1.frozen j))
    refine bodyPost_ret (v := .tuple #[.agg #[.int .i64 0, .string ⟨#[]⟩], .int .i64 c]) (by simp [results, Tryz.results55, go_sem, *]) rfl ?_
    exact .mk0 (by exact frc)
def findS (p : Plan) (k : Int) (s : Str) : Ref × Int := if lodB p then findK p k s else (noRef, 2)
def chainS (p : Plan) (r : Ref) : List Ref := if lodB p then chainK p r else []
theorem RefsPost.none_ {w w' : World} {xs : List Ref} {A : Option Addr} {c : Nat} (h : xs = []) (hf : Fr No w w') : RefsPost xs w (.returned (.slice A 0 c)) w' := by subst h; exact ⟨_, rfl, Sl.none_ A c, hf⟩
end Go.Proofs.YtghmnkafpnkojaaGreatDoor
