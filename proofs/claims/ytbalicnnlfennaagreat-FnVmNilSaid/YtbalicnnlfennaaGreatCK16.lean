/- The reference: what is found of any keepers, the chain of a loadable class, LnkLaid, LnkPick. -/
import Derived.Test.YtbalicnnlfennaaGreatCG19
namespace Go.Proofs.YtbalicnnlfennaaGreat
open Go.RowKit

theorem canS_chain {p : Plan} {r : Ref} (h : canS p r = true) : lodB p = true ∧ ∃ k i : Nat, Here p r k i ∧ chainOf p r = some (chainK p r) := by
 unfold canS canB at h
 rw [Bool.and_eq_true, Bool.and_eq_true] at h
 rcases chainK_cases h.1 r with h1 | h1
 ·rw [h1] at h; simp at h
 ·exact ⟨h.1, h1⟩
end Go.Proofs.YtbalicnnlfennaaGreat

namespace Go.Proofs.YtbalicnnlfennaaGreat
open Go.RowKit

def clsV (c : Cls) : Value → World → Prop := fun v _ => ∃ Af cf Am cm, v = .agg #[.string c.name, .string c.super, .slice Af c.fields.length cf, .slice Am c.methods.length cm]
theorem clsV_mono (c : Cls) : MonP (clsV c) := fun _ _ _ h _ => h
theorem canB_here {p : Plan} {r : Ref} (hp : lodB p = true) (h : canB p r = true) : ∃ k i : Nat, Here p r k i := by
 obtain ⟨_, k, i, hh, _⟩ := canS_chain (p := p) (r := r) (by unfold canS; rw [hp, h]; rfl)
 exact ⟨k, i, hh⟩
theorem lg_class {l bl n : Nat} {p : Plan} {k i : Nat} {s : Str} {w : World} (h : Lg w l bl n p) (hh : Here p ⟨k, s⟩ k i) (hs : s.size ≤ maxLen) :
  Calls Tryz.prog 63 #[.pointer (some ⟨l, 0, none⟩), .agg #[.int .i64 k, .string s]] w (fun e w' => ∃ v, e = .returned v ∧ clsV (clsAt p ⟨k, s⟩) v w' ∧ Fr No w w') := by
 obtain ⟨g, hL, _⟩ := h
 obtain ⟨Af, cf, Am, cm, _, HC⟩ := here_class hL hh hs
 exact (HC w (Fr.refl _ _)).mono fun e w' h => ⟨_, h.1, ⟨Af, cf, Am, cm, rfl⟩, h.2⟩

set_option maxRecDepth 100000 in
set_option maxHeartbeats 4000000 in
theorem hasMethod_ok (l bl n : Nat) (p : Plan) (m : LMth) (w : World) (h : Lg w l bl n p) (hs : m.of_.name.size ≤ maxLen) (wk : (Lit.int .i64 m.of_.keeper).wf = true) (hn : n < 100000) :
  Calls Tryz.prog 28 #[.pointer (some ⟨l, 0, none⟩), .agg #[.int .i64 m.of_.keeper, .string m.of_.name, .int .i64 m.at_]] w (LgPost (hasMB p m) p l bl (n + 1) w) := by
 obtain ⟨⟨rk, rn⟩, ra⟩ := m
 dsimp only at hs wk ⊢
 obtain ⟨V, hV⟩ : ∃ V, V = hasMB p ⟨⟨rk, rn⟩, ra⟩ := ⟨_, rfl⟩
 rw [← hV]
 unfold hasMB at hV
 dsimp only at hV
 have hp := h.ok
 have hblr := h.lt
 obtain ⟨wA, hwA⟩ : ∃ wA, wA = w.alloc (.cells #[.int .i64 rk, .string rn, .int .i64 ra] 84) := ⟨_, rfl⟩
 have hfA : Fr No w wA := hwA ▸ frc
 have B0 : Bx wA w.heap.size 84 #[.int .i64 rk, .string rn, .int .i64 ra] := hwA ▸ bxc
 have HC := fun m W (hm : m < 100) (h : Lg W l bl (n + m) p) => canLay_ok l bl (n + m) p ⟨rk, rn⟩ W h hs wk (by omega)
 unfold CanPost at HC
 have hG : ∀ m W, GotJ p l bl n wA m W → Fr (fun b => b = bl) wA W := fun _ _ h => h.1
 have hGs : ∀ W, Fr (fun b => b = bl) wA W → wA.heap.size ≤ W.heap.size := fun _ h => h.size
 have KB : ∀ W, Fr (fun b => b = bl) wA W → W.cell? ⟨w.heap.size, 0, none⟩ = some (.int .i64 rk) ∧ W.cell? ⟨w.heap.size, 1, none⟩ = some (.string rn) ∧ W.cell? ⟨w.heap.size, 2, none⟩ = some (.int .i64 ra) ∧ w.heap.size < W.heap.size := fun W hW => by
  have hb := B0.keepX hW (by omega)
  exact ⟨hb.cell 0, hb.cell 1, hb.cell 2, hb.lt⟩
 cases hc : canB p ⟨rk, rn⟩
 ·rw [hc] at HC hV
  have hE : Hid (V = false) := by rw [hV]; rfl
  clear hV hc
  go_enter Tryz.func28, Tryz.ntmps28
  go_wp2_with fail
  rw [← hwA]
  replace hwA := Lib.hid hwA
  refine wp_region_allL [isV (.pointer (some ⟨l, 0, none⟩)), isV (.pointer (some ⟨w.heap.size, 0, none⟩)), isV (.agg #[.int .i64 rk, .string rn]), isV (.bool false), isV (.bool false), isV undef, isV undef, isV undef, isV (.bool false), isV (.bool false), isV undef, isV undef, isV undef, isV undef, isV undef, isV undef, isV undef, isV undef, isV undef, isV (.bool false), isV (.bool false)] [false, false, false, true, false, false, false, false, false, false, false, false, false, false, false, false, false, false, false, false, false] [true, true, true, true, true, false, false, false, true, true, false, false, false, false, false, false, false, false, false, true, true] 1 (GotJ p l bl n wA) (fun W W' => Fr (fun b => b = bl) W W') (by kernel_rfl) (by kernel_rfl) ?_ ?_ ?_ ?_ ?_ (by decide) ?_ ?_ ?_ ?_ ?_
  ·intro o ho d hd; simp only [List.mem_cons, List.not_mem_nil, or_false] at ho; rcases ho with rfl | rfl | rfl | rfl | rfl | rfl | rfl | rfl | rfl | rfl | rfl | rfl | rfl | rfl | rfl | rfl | rfl | rfl | rfl | rfl | rfl <;> (cases hd <;> simp)
  ·intro x hx
   simp only [List.mem_cons, List.not_mem_nil, or_false] at hx
   rcases hx with rfl | rfl | rfl | rfl | rfl | rfl | rfl | rfl | rfl | rfl | rfl | rfl | rfl | rfl | rfl | rfl | rfl | rfl | rfl | rfl | rfl
   ·exact isV_mono _
   ·exact isV_mono _
   ·exact isV_mono _
   ·exact isV_mono _
   ·exact isV_mono _
   ·exact isV_mono _
   ·exact isV_mono _
   ·exact isV_mono _
   ·exact isV_mono _
   ·exact isV_mono _
   ·exact isV_mono _
   ·exact isV_mono _
   ·exact isV_mono _
   ·exact isV_mono _
   ·exact isV_mono _
   ·exact isV_mono _
   ·exact isV_mono _
   ·exact isV_mono _
   ·exact isV_mono _
   ·exact isV_mono _
   ·exact isV_mono _
  ·intro x hx v W W' h hs
   simp only [List.mem_cons, List.not_mem_nil, or_false] at hx
   rcases hx with rfl | rfl | rfl | rfl | rfl | rfl | rfl | rfl | rfl | rfl | rfl | rfl | rfl | rfl | rfl | rfl | rfl | rfl | rfl | rfl | rfl
   ·exact h
   ·exact h
   ·exact h
   ·exact h
   ·exact h
   ·exact h
   ·exact h
   ·exact h
   ·exact h
   ·exact h
   ·exact h
   ·exact h
   ·exact h
   ·exact h
   ·exact h
   ·exact h
   ·exact h
   ·exact h
   ·exact h
   ·exact h
   ·exact h
  ·exact fun _ _ _ h hf => h.to hf
  ·intro k o ho
   rcases k with _ | _ | _ | _ | _ | _ | _ | _ | _ | _ | _ | _ | _ | _ | _ | _ | _ | _ | _ | _ | _ | k
   all_goals (first | (simp at ho; done) | skip)
   all_goals simp only [List.getElem?_cons_zero, List.getElem?_cons_succ, Option.some.injEq] at ho
   all_goals subst ho
   all_goals refine ⟨fun h => ?_, fun g b h v W hv => ?_⟩
   all_goals first | rfl | (cases h; done) | (cases h; obtain rfl : v = Value.bool _ := hv; rfl)
  ·intro k hk h W
   rcases k with _ | _ | _ | _ | _ | _ | _ | _ | _ | _ | _ | _ | _ | _ | _ | _ | _ | _ | _ | _ | _ | k
   all_goals first | (exact rfl) | (cases h; done) | (simp at hk; done) | (simp at hk; omega)
  ·exact ⟨(Fr.refl _ _).drew, (h.keep hfA).keep (Fr.refl _ _).drew⟩
  ·intro k o ho hu hg a' W jc hjc hW0 hoff hdep
   have hW := hG jc _ hW0
   have hbs := hGs _ hW
   have H0 := hoff 0 (by simp)
   have H3 := hoff 3 (by simp)
   simp only [Act.eval] at H0 H3
   rcases k with _ | _ | _ | _ | _ | _ | _ | _ | _ | _ | _ | _ | _ | _ | _ | _ | _ | _ | _ | _ | _ | k
   all_goals (first | (simp at ho; done) | skip)
   all_goals (first | (exact absurd hu (by decide)) | skip)
   all_goals (first | (exact absurd hg (by decide)) | skip)
   all_goals simp only [List.getElem?_cons_zero, List.getElem?_cons_succ, Option.some.injEq] at ho
   all_goals subst ho
   ·unfold opGives
    simp [execOp, Act.eval, H0, go_sem, givesUpon]
    exact ⟨Fr.refl _ _, rfl⟩
   ·unfold opGives
    simp [execOp, Act.eval, H3, go_sem, givesUpon]
    exact ⟨Fr.refl _ _, rfl⟩
   ·have D6 : a'.eval (.tmp 6) = .pointer (some ⟨w.heap.size, 0, none⟩) := hdep ⟨1, .data⟩ (by simp) rfl _ 6 rfl rfl
    simp only [Act.eval] at D6
    unfold opGives
    simp [execOp, Act.eval, go_sem, givesUpon, *]
    exact ⟨Fr.refl _ _, rfl⟩
   ·have D8 : a'.eval (.tmp 8) = .bool false := hdep ⟨3, .data⟩ (by simp) rfl _ 8 rfl rfl
    simp only [Act.eval] at D8
    unfold opGives
    simp [execOp, Act.eval, D8, go_sem, givesUpon]
    exact ⟨Fr.refl _ _, rfl⟩
   ·have D9 : a'.eval (.tmp 9) = .bool false := hdep ⟨4, .data⟩ (by simp) rfl _ 9 rfl rfl
    have D12 : a'.eval (.tmp 12) = undef := hdep ⟨7, .data⟩ (by simp) rfl _ 12 rfl rfl
    simp only [Act.eval] at D9 D12
    unfold opGives
    simp [execOp, Act.eval, go_sem, givesUpon, D9, D12]
    exact ⟨Fr.refl _ _, rfl⟩
   ·have D13 : a'.eval (.tmp 13) = .bool false := hdep ⟨8, .data⟩ (by simp) rfl _ 13 rfl rfl
    simp only [Act.eval] at D13
    unfold opGives
    simp [execOp, Act.eval, D13, go_sem, givesUpon]
    exact ⟨Fr.refl _ _, rfl⟩
   ·have D14 : a'.eval (.tmp 14) = .bool false := hdep ⟨9, .data⟩ (by simp) rfl _ 14 rfl rfl
    have D23 : a'.eval (.tmp 23) = undef := hdep ⟨18, .data⟩ (by simp) rfl _ 23 rfl rfl
    simp only [Act.eval] at D14 D23
    unfold opGives
    simp [execOp, Act.eval, go_sem, givesUpon, D14, D23]
    exact ⟨Fr.refl _ _, rfl⟩
   ·have D24 : a'.eval (.tmp 24) = .bool false := hdep ⟨19, .data⟩ (by simp) rfl _ 24 rfl rfl
    simp only [Act.eval] at D24
    unfold opGives
    simp [execOp, Act.eval, D24, go_sem, givesUpon]
    exact ⟨Fr.refl _ _, rfl⟩
  ·intro k o ho hu a' W jc hjc hW0 hoff hdep
   have hW := hG jc _ hW0
   have hbs := hGs _ hW
   have H0 := hoff 0 (by simp)
   have H3 := hoff 3 (by simp)
   simp only [Act.eval] at H0 H3
   rcases k with _ | _ | _ | _ | _ | _ | _ | _ | _ | _ | _ | _ | _ | _ | _ | _ | _ | _ | _ | _ | _ | k
   all_goals (first | (simp at ho; done) | skip)
   all_goals (first | (exact absurd hu (by decide)) | skip)
   all_goals simp only [List.getElem?_cons_zero, List.getElem?_cons_succ, Option.some.injEq] at ho
   all_goals subst ho
   ·have D5 : a'.eval (.tmp 5) = .pointer (some ⟨l, 0, none⟩) := hdep ⟨0, .data⟩ (by simp) rfl _ 5 rfl rfl
    have D7 : a'.eval (.tmp 7) = .agg #[.int .i64 rk, .string rn] := hdep ⟨2, .data⟩ (by simp) rfl _ 7 rfl rfl
    simp only [Act.eval] at D5 D7
    unfold opGives
    simp [Act.eval, D5, D7, go_sem, givesUpon]
    exact (HC jc W (by omega) hW0.2).mono fun e w' ⟨h1, h2, h3⟩ => ⟨_, h1, ⟨hW0.1.same h2, h3⟩, h2, rfl⟩
  intro vs WR hWR hv
  have e0 : vs 0 = _ := hv 0 (by decide)
  have e1 : vs 1 = _ := hv 1 (by decide)
  have e2 : vs 2 = _ := hv 2 (by decide)
  have e3 : vs 3 = _ := hv 3 (by decide)
  have e4 : vs 4 = _ := hv 4 (by decide)
  have e5 : vs 5 = _ := hv 5 (by decide)
  have e6 : vs 6 = _ := hv 6 (by decide)
  have e7 : vs 7 = _ := hv 7 (by decide)
  have e8 : vs 8 = _ := hv 8 (by decide)
  have e9 : vs 9 = _ := hv 9 (by decide)
  have e10 : vs 10 = _ := hv 10 (by decide)
  have e11 : vs 11 = _ := hv 11 (by decide)
  have e12 : vs 12 = _ := hv 12 (by decide)
  have e13 : vs 13 = _ := hv 13 (by decide)
  have e14 : vs 14 = _ := hv 14 (by decide)
  have e15 : vs 15 = _ := hv 15 (by decide)
  have e16 : vs 16 = _ := hv 16 (by decide)
  have e17 : vs 17 = _ := hv 17 (by decide)
  have e18 : vs 18 = _ := hv 18 (by decide)
  have e19 : vs 19 = _ := hv 19 (by decide)
  have e20 : vs 20 = _ := hv 20 (by decide)
  simp only [putsL, if_true, Nat.zero_add, Nat.reduceAdd, e0, e1, e2, e3, e4, e5, e6, e7, e8, e9, e10, e11, e12, e13, e14, e15, e16, e17, e18, e19, e20]
  simp only [Act.put, List.setIfInBounds_toArray, List.set_cons_zero, List.set_cons_succ]
  clear e0 e1 e2 e3 e4 e5 e6 e7 e8 e9 e10 e11 e12 e13 e14 e15 e16 e17 e18 e19 e20 hv
  go_wp2
  go_ret
  exact .mk hE.out.symm (hfA.of0.same hWR.1) hWR.2
 ·obtain ⟨k0, i0, hh⟩ := canB_here hp hc
  obtain rfl : rk = (k0 : Int) := hh.1
  rw [hc] at HC hV
  rw [Bool.true_and] at hV
  replace hc := Lib.hid hc
  by_cases hlo : 0 ≤ ra
  ·have HCl := fun {m : Nat} W (h : Lg W l bl (n + m) p) => lg_class h hh hs
   generalize clsAt p ⟨k0, rn⟩ = c at *
   by_cases hhi : ra < (c.methods.length : Int)
   ·have hE : Hid (V = true) := by rw [hV, decide_eq_true hlo, decide_eq_true hhi]; rfl
    replace hlo := Lib.hid hlo
    replace hhi := Lib.hid hhi
    clear hV hh
    go_enter Tryz.func28, Tryz.ntmps28
    go_wp2_with fail
    rw [← hwA]
    replace hwA := Lib.hid hwA
    refine wp_region_allL [isV (.pointer (some ⟨l, 0, none⟩)), isV (.pointer (some ⟨w.heap.size, 0, none⟩)), isV (.agg #[.int .i64 k0, .string rn]), isV (.bool true), isV (.bool true), isV (.pointer (some ⟨w.heap.size, 2, none⟩)), isV (.int .i64 ra), isV (.bool true), isV (.bool true), isV (.bool true), isV (.pointer (some ⟨w.heap.size, 2, none⟩)), isV (.int .i64 ra), isV (.pointer (some ⟨l, 0, none⟩)), isV (.pointer (some ⟨w.heap.size, 0, none⟩)), isV (.agg #[.int .i64 k0, .string rn]), clsV c, lenV c.methods.length, isV (.int .i64 c.methods.length), isV (.bool true), isV (.bool true), isV (.bool true)] [false, false, false, true, false, false, false, false, false, false, false, false, false, false, false, false, false, false, false, false, false] [true, true, true, true, true, true, true, true, true, true, true, true, true, true, true, true, true, true, true, true, true] 1 (GotJ p l bl n wA) (fun W W' => Fr (fun b => b = bl) W W') (by kernel_rfl) (by kernel_rfl) ?_ ?_ ?_ ?_ ?_ (by decide) ?_ ?_ ?_ ?_ ?_
    ·intro o ho d hd; simp only [List.mem_cons, List.not_mem_nil, or_false] at ho; rcases ho with rfl | rfl | rfl | rfl | rfl | rfl | rfl | rfl | rfl | rfl | rfl | rfl | rfl | rfl | rfl | rfl | rfl | rfl | rfl | rfl | rfl <;> (cases hd <;> simp)
    ·intro x hx
     simp only [List.mem_cons, List.not_mem_nil, or_false] at hx
     rcases hx with rfl | rfl | rfl | rfl | rfl | rfl | rfl | rfl | rfl | rfl | rfl | rfl | rfl | rfl | rfl | rfl | rfl | rfl | rfl | rfl | rfl
     ·exact isV_mono _
     ·exact isV_mono _
     ·exact isV_mono _
     ·exact isV_mono _
     ·exact isV_mono _
     ·exact isV_mono _
     ·exact isV_mono _
     ·exact isV_mono _
     ·exact isV_mono _
     ·exact isV_mono _
     ·exact isV_mono _
     ·exact isV_mono _
     ·exact isV_mono _
     ·exact isV_mono _
     ·exact isV_mono _
     ·exact clsV_mono _
     ·exact lenV_mono _
     ·exact isV_mono _
     ·exact isV_mono _
     ·exact isV_mono _
     ·exact isV_mono _
    ·intro x hx v W W' h hs
     simp only [List.mem_cons, List.not_mem_nil, or_false] at hx
     rcases hx with rfl | rfl | rfl | rfl | rfl | rfl | rfl | rfl | rfl | rfl | rfl | rfl | rfl | rfl | rfl | rfl | rfl | rfl | rfl | rfl | rfl
     ·exact h
     ·exact h
     ·exact h
     ·exact h
     ·exact h
     ·exact h
     ·exact h
     ·exact h
     ·exact h
     ·exact h
     ·exact h
     ·exact h
     ·exact h
     ·exact h
     ·exact h
     ·exact h
     ·exact h
     ·exact h
     ·exact h
     ·exact h
     ·exact h
    ·exact fun _ _ _ h hf => h.to hf
    ·intro k o ho
     rcases k with _ | _ | _ | _ | _ | _ | _ | _ | _ | _ | _ | _ | _ | _ | _ | _ | _ | _ | _ | _ | _ | k
     all_goals (first | (simp at ho; done) | skip)
     all_goals simp only [List.getElem?_cons_zero, List.getElem?_cons_succ, Option.some.injEq] at ho
     all_goals subst ho
     all_goals refine ⟨fun h => ?_, fun g b h v W hv => ?_⟩
     all_goals first | rfl | (cases h; done) | (cases h; obtain rfl : v = Value.bool _ := hv; rfl)
    ·intro k hk h W; exfalso; revert h; revert hk; revert k; decide
    ·exact ⟨(Fr.refl _ _).drew, (h.keep hfA).keep (Fr.refl _ _).drew⟩
    ·intro k o ho hu hg a' W jc hjc hW0 hoff hdep
     have hW := hG jc _ hW0
     have hbs := hGs _ hW
     have H0 := hoff 0 (by simp)
     have H3 := hoff 3 (by simp)
     simp only [Act.eval] at H0 H3
     rcases k with _ | _ | _ | _ | _ | _ | _ | _ | _ | _ | _ | _ | _ | _ | _ | _ | _ | _ | _ | _ | _ | k
     all_goals (first | (simp at ho; done) | skip)
     all_goals (first | (exact absurd hu (by decide)) | skip)
     all_goals (first | (exact absurd hg (by decide)) | skip)
     all_goals simp only [List.getElem?_cons_zero, List.getElem?_cons_succ, Option.some.injEq] at ho
     all_goals subst ho
     ·unfold opGives
      simp [execOp, Act.eval, H0, go_sem, givesUpon]
      exact ⟨Fr.refl _ _, rfl⟩
     ·unfold opGives
      simp [execOp, Act.eval, H3, go_sem, givesUpon]
      exact ⟨Fr.refl _ _, rfl⟩
     ·have D6 : a'.eval (.tmp 6) = .pointer (some ⟨w.heap.size, 0, none⟩) := hdep ⟨1, .data⟩ (by simp) rfl _ 6 rfl rfl
      simp only [Act.eval] at D6
      unfold opGives
      simp [execOp, Act.eval, go_sem, givesUpon, *]
      exact ⟨Fr.refl _ _, rfl⟩
     ·have D8 : a'.eval (.tmp 8) = .bool true := hdep ⟨3, .data⟩ (by simp) rfl _ 8 rfl rfl
      simp only [Act.eval] at D8
      unfold opGives
      simp [execOp, Act.eval, D8, go_sem, givesUpon]
      exact ⟨Fr.refl _ _, rfl⟩
     ·unfold opGives
      simp [execOp, Act.eval, H3, go_sem, givesUpon]
      exact ⟨Fr.refl _ _, rfl⟩
     ·have D10 : a'.eval (.tmp 10) = .pointer (some ⟨w.heap.size, 2, none⟩) := hdep ⟨5, .data⟩ (by simp) rfl _ 10 rfl rfl
      simp only [Act.eval] at D10
      unfold opGives
      simp [execOp, Act.eval, go_sem, givesUpon, *]
      exact ⟨Fr.refl _ _, rfl⟩
     ·have D11 : a'.eval (.tmp 11) = .int .i64 ra := hdep ⟨6, .data⟩ (by simp) rfl _ 11 rfl rfl
      simp only [Act.eval] at D11
      unfold opGives
      simp [execOp, Act.eval, D11, go_sem, givesUpon]
      exact ⟨Fr.refl _ _, by unfold isV; have := hlo.out; first | (simp [this]; done) | (simp; omega)⟩
     ·have D9 : a'.eval (.tmp 9) = .bool true := hdep ⟨4, .data⟩ (by simp) rfl _ 9 rfl rfl
      have D12 : a'.eval (.tmp 12) = .bool true := hdep ⟨7, .data⟩ (by simp) rfl _ 12 rfl rfl
      simp only [Act.eval] at D9 D12
      unfold opGives
      simp [execOp, Act.eval, go_sem, givesUpon, D9, D12]
      exact ⟨Fr.refl _ _, rfl⟩
     ·have D13 : a'.eval (.tmp 13) = .bool true := hdep ⟨8, .data⟩ (by simp) rfl _ 13 rfl rfl
      simp only [Act.eval] at D13
      unfold opGives
      simp [execOp, Act.eval, D13, go_sem, givesUpon]
      exact ⟨Fr.refl _ _, rfl⟩
     ·unfold opGives
      simp [execOp, Act.eval, H3, go_sem, givesUpon]
      exact ⟨Fr.refl _ _, rfl⟩
     ·have D15 : a'.eval (.tmp 15) = .pointer (some ⟨w.heap.size, 2, none⟩) := hdep ⟨10, .data⟩ (by simp) rfl _ 15 rfl rfl
      simp only [Act.eval] at D15
      unfold opGives
      simp [execOp, Act.eval, go_sem, givesUpon, *]
      exact ⟨Fr.refl _ _, rfl⟩
     ·unfold opGives
      simp [execOp, Act.eval, H0, go_sem, givesUpon]
      exact ⟨Fr.refl _ _, rfl⟩
     ·unfold opGives
      simp [execOp, Act.eval, H3, go_sem, givesUpon]
      exact ⟨Fr.refl _ _, rfl⟩
     ·have D18 : a'.eval (.tmp 18) = .pointer (some ⟨w.heap.size, 0, none⟩) := hdep ⟨13, .data⟩ (by simp) rfl _ 18 rfl rfl
      simp only [Act.eval] at D18
      unfold opGives
      simp [execOp, Act.eval, go_sem, givesUpon, *]
      exact ⟨Fr.refl _ _, rfl⟩
     ·have D17 : a'.eval (.tmp 17) = .pointer (some ⟨l, 0, none⟩) := hdep ⟨12, .data⟩ (by simp) rfl _ 17 rfl rfl
      have D19 : a'.eval (.tmp 19) = .agg #[.int .i64 k0, .string rn] := hdep ⟨14, .data⟩ (by simp) rfl _ 19 rfl rfl
      simp only [Act.eval] at D17 D19
      unfold opGives
      simp [Act.eval, D17, D19, go_sem, givesUpon]
      exact (HCl _ hW0.2).mono fun e w' ⟨v, h1, h2, h3⟩ => ⟨_, h1, h3, h2⟩
     ·obtain ⟨Af, cf, Am, cm, D20⟩ : (clsV c) (a'.eval (.tmp 20)) W := hdep ⟨15, .data⟩ (by simp) rfl _ 20 rfl rfl
      simp only [Act.eval] at D20
      unfold opGives
      simp [execOp, Act.eval, D20, go_sem, givesUpon]
      exact ⟨Fr.refl _ _, _, _, rfl⟩
     ·obtain ⟨Ay, cy, D21⟩ : (lenV c.methods.length) (a'.eval (.tmp 21)) W := hdep ⟨16, .data⟩ (by simp) rfl _ 21 rfl rfl
      simp only [Act.eval] at D21
      unfold opGives
      simp [Act.eval, D21, go_sem, givesUpon]
      exact ⟨Fr.refl _ _, rfl⟩
     ·have D16 : a'.eval (.tmp 16) = .int .i64 ra := hdep ⟨11, .data⟩ (by simp) rfl _ 16 rfl rfl
      have D22 : a'.eval (.tmp 22) = .int .i64 c.methods.length := hdep ⟨17, .data⟩ (by simp) rfl _ 22 rfl rfl
      simp only [Act.eval] at D16 D22
      unfold opGives
      simp [execOp, Act.eval, D16, D22, go_sem, givesUpon]
      exact ⟨Fr.refl _ _, by unfold isV; have := hhi.out; first | (simp [this]; done) | (simp; omega)⟩
     ·have D14 : a'.eval (.tmp 14) = .bool true := hdep ⟨9, .data⟩ (by simp) rfl _ 14 rfl rfl
      have D23 : a'.eval (.tmp 23) = .bool true := hdep ⟨18, .data⟩ (by simp) rfl _ 23 rfl rfl
      simp only [Act.eval] at D14 D23
      unfold opGives
      simp [execOp, Act.eval, go_sem, givesUpon, D14, D23]
      exact ⟨Fr.refl _ _, rfl⟩
     ·have D24 : a'.eval (.tmp 24) = .bool true := hdep ⟨19, .data⟩ (by simp) rfl _ 24 rfl rfl
      simp only [Act.eval] at D24
      unfold opGives
      simp [execOp, Act.eval, D24, go_sem, givesUpon]
      exact ⟨Fr.refl _ _, rfl⟩
    ·intro k o ho hu a' W jc hjc hW0 hoff hdep
     have hW := hG jc _ hW0
     have hbs := hGs _ hW
     have H0 := hoff 0 (by simp)
     have H3 := hoff 3 (by simp)
     simp only [Act.eval] at H0 H3
     rcases k with _ | _ | _ | _ | _ | _ | _ | _ | _ | _ | _ | _ | _ | _ | _ | _ | _ | _ | _ | _ | _ | k
     all_goals (first | (simp at ho; done) | skip)
     all_goals (first | (exact absurd hu (by decide)) | skip)
     all_goals simp only [List.getElem?_cons_zero, List.getElem?_cons_succ, Option.some.injEq] at ho
     all_goals subst ho
     ·have D5 : a'.eval (.tmp 5) = .pointer (some ⟨l, 0, none⟩) := hdep ⟨0, .data⟩ (by simp) rfl _ 5 rfl rfl
      have D7 : a'.eval (.tmp 7) = .agg #[.int .i64 k0, .string rn] := hdep ⟨2, .data⟩ (by simp) rfl _ 7 rfl rfl
      simp only [Act.eval] at D5 D7
      unfold opGives
      simp [Act.eval, D5, D7, go_sem, givesUpon]
      exact (HC jc W (by omega) hW0.2).mono fun e w' ⟨h1, h2, h3⟩ => ⟨_, h1, ⟨hW0.1.same h2, h3⟩, h2, rfl⟩
    intro vs WR hWR hv
    have e0 : vs 0 = _ := hv 0 (by decide)
    have e1 : vs 1 = _ := hv 1 (by decide)
    have e2 : vs 2 = _ := hv 2 (by decide)
    have e3 : vs 3 = _ := hv 3 (by decide)
    have e4 : vs 4 = _ := hv 4 (by decide)
    have e5 : vs 5 = _ := hv 5 (by decide)
    have e6 : vs 6 = _ := hv 6 (by decide)
    have e7 : vs 7 = _ := hv 7 (by decide)
    have e8 : vs 8 = _ := hv 8 (by decide)
    have e9 : vs 9 = _ := hv 9 (by decide)
    have e10 : vs 10 = _ := hv 10 (by decide)
    have e11 : vs 11 = _ := hv 11 (by decide)
    have e12 : vs 12 = _ := hv 12 (by decide)
    have e13 : vs 13 = _ := hv 13 (by decide)
    have e14 : vs 14 = _ := hv 14 (by decide)
    obtain ⟨AfR15, cfR15, AmR15, cmR15, e15⟩ := hv 15 (by decide)
    obtain ⟨AyR16, cyR16, e16⟩ := hv 16 (by decide)
    have e17 : vs 17 = _ := hv 17 (by decide)
    have e18 : vs 18 = _ := hv 18 (by decide)
    have e19 : vs 19 = _ := hv 19 (by decide)
    have e20 : vs 20 = _ := hv 20 (by decide)
    simp only [putsL, if_true, Nat.zero_add, Nat.reduceAdd, e0, e1, e2, e3, e4, e5, e6, e7, e8, e9, e10, e11, e12, e13, e14, e15, e16, e17, e18, e19, e20]
    simp only [Act.put, List.setIfInBounds_toArray, List.set_cons_zero, List.set_cons_succ]
    clear e0 e1 e2 e3 e4 e5 e6 e7 e8 e9 e10 e11 e12 e13 e14 e15 e16 e17 e18 e19 e20 hv
    clear KB HC HCl
    go_wp2
    go_ret
    exact .mk hE.out.symm (hfA.of0.same hWR.1) hWR.2
   ·have hE : Hid (V = false) := by rw [hV, decide_eq_false hhi]; simp [Hid]
    replace hlo := Lib.hid hlo
    replace hhi := Lib.hid hhi
    clear hV hh
    go_enter Tryz.func28, Tryz.ntmps28
    go_wp2_with fail
    rw [← hwA]
    replace hwA := Lib.hid hwA
    refine wp_region_allL [isV (.pointer (some ⟨l, 0, none⟩)), isV (.pointer (some ⟨w.heap.size, 0, none⟩)), isV (.agg #[.int .i64 k0, .string rn]), isV (.bool true), isV (.bool true), isV (.pointer (some ⟨w.heap.size, 2, none⟩)), isV (.int .i64 ra), isV (.bool true), isV (.bool true), isV (.bool true), isV (.pointer (some ⟨w.heap.size, 2, none⟩)), isV (.int .i64 ra), isV (.pointer (some ⟨l, 0, none⟩)), isV (.pointer (some ⟨w.heap.size, 0, none⟩)), isV (.agg #[.int .i64 k0, .string rn]), clsV c, lenV c.methods.length, isV (.int .i64 c.methods.length), isV (.bool false), isV (.bool false), isV (.bool false)] [false, false, false, true, false, false, false, false, false, false, false, false, false, false, false, false, false, false, false, false, false] [true, true, true, true, true, true, true, true, true, true, true, true, true, true, true, true, true, true, true, true, true] 1 (GotJ p l bl n wA) (fun W W' => Fr (fun b => b = bl) W W') (by kernel_rfl) (by kernel_rfl) ?_ ?_ ?_ ?_ ?_ (by decide) ?_ ?_ ?_ ?_ ?_
    ·intro o ho d hd; simp only [List.mem_cons, List.not_mem_nil, or_false] at ho; rcases ho with rfl | rfl | rfl | rfl | rfl | rfl | rfl | rfl | rfl | rfl | rfl | rfl | rfl | rfl | rfl | rfl | rfl | rfl | rfl | rfl | rfl <;> (cases hd <;> simp)
    ·intro x hx
     simp only [List.mem_cons, List.not_mem_nil, or_false] at hx
     rcases hx with rfl | rfl | rfl | rfl | rfl | rfl | rfl | rfl | rfl | rfl | rfl | rfl | rfl | rfl | rfl | rfl | rfl | rfl | rfl | rfl | rfl
     ·exact isV_mono _
     ·exact isV_mono _
     ·exact isV_mono _
     ·exact isV_mono _
     ·exact isV_mono _
     ·exact isV_mono _
     ·exact isV_mono _
     ·exact isV_mono _
     ·exact isV_mono _
     ·exact isV_mono _
     ·exact isV_mono _
     ·exact isV_mono _
     ·exact isV_mono _
     ·exact isV_mono _
     ·exact isV_mono _
     ·exact clsV_mono _
     ·exact lenV_mono _
     ·exact isV_mono _
     ·exact isV_mono _
     ·exact isV_mono _
     ·exact isV_mono _
    ·intro x hx v W W' h hs
     simp only [List.mem_cons, List.not_mem_nil, or_false] at hx
     rcases hx with rfl | rfl | rfl | rfl | rfl | rfl | rfl | rfl | rfl | rfl | rfl | rfl | rfl | rfl | rfl | rfl | rfl | rfl | rfl | rfl | rfl
     ·exact h
     ·exact h
     ·exact h
     ·exact h
     ·exact h
     ·exact h
     ·exact h
     ·exact h
     ·exact h
     ·exact h
     ·exact h
     ·exact h
     ·exact h
     ·exact h
     ·exact h
     ·exact h
     ·exact h
     ·exact h
     ·exact h
     ·exact h
     ·exact h
    ·exact fun _ _ _ h hf => h.to hf
    ·intro k o ho
     rcases k with _ | _ | _ | _ | _ | _ | _ | _ | _ | _ | _ | _ | _ | _ | _ | _ | _ | _ | _ | _ | _ | k
     all_goals (first | (simp at ho; done) | skip)
     all_goals simp only [List.getElem?_cons_zero, List.getElem?_cons_succ, Option.some.injEq] at ho
     all_goals subst ho
     all_goals refine ⟨fun h => ?_, fun g b h v W hv => ?_⟩
     all_goals first | rfl | (cases h; done) | (cases h; obtain rfl : v = Value.bool _ := hv; rfl)
    ·intro k hk h W; exfalso; revert h; revert hk; revert k; decide
    ·exact ⟨(Fr.refl _ _).drew, (h.keep hfA).keep (Fr.refl _ _).drew⟩
    ·intro k o ho hu hg a' W jc hjc hW0 hoff hdep
     have hW := hG jc _ hW0
     have hbs := hGs _ hW
     have H0 := hoff 0 (by simp)
     have H3 := hoff 3 (by simp)
     simp only [Act.eval] at H0 H3
     rcases k with _ | _ | _ | _ | _ | _ | _ | _ | _ | _ | _ | _ | _ | _ | _ | _ | _ | _ | _ | _ | _ | k
     all_goals (first | (simp at ho; done) | skip)
     all_goals (first | (exact absurd hu (by decide)) | skip)
     all_goals (first | (exact absurd hg (by decide)) | skip)
     all_goals simp only [List.getElem?_cons_zero, List.getElem?_cons_succ, Option.some.injEq] at ho
     all_goals subst ho
     ·unfold opGives
      simp [execOp, Act.eval, H0, go_sem, givesUpon]
      exact ⟨Fr.refl _ _, rfl⟩
     ·unfold opGives
      simp [execOp, Act.eval, H3, go_sem, givesUpon]
      exact ⟨Fr.refl _ _, rfl⟩
     ·have D6 : a'.eval (.tmp 6) = .pointer (some ⟨w.heap.size, 0, none⟩) := hdep ⟨1, .data⟩ (by simp) rfl _ 6 rfl rfl
      simp only [Act.eval] at D6
      unfold opGives
      simp [execOp, Act.eval, go_sem, givesUpon, *]
      exact ⟨Fr.refl _ _, rfl⟩
     ·have D8 : a'.eval (.tmp 8) = .bool true := hdep ⟨3, .data⟩ (by simp) rfl _ 8 rfl rfl
      simp only [Act.eval] at D8
      unfold opGives
      simp [execOp, Act.eval, D8, go_sem, givesUpon]
      exact ⟨Fr.refl _ _, rfl⟩
     ·unfold opGives
      simp [execOp, Act.eval, H3, go_sem, givesUpon]
      exact ⟨Fr.refl _ _, rfl⟩
     ·have D10 : a'.eval (.tmp 10) = .pointer (some ⟨w.heap.size, 2, none⟩) := hdep ⟨5, .data⟩ (by simp) rfl _ 10 rfl rfl
      simp only [Act.eval] at D10
      unfold opGives
      simp [execOp, Act.eval, go_sem, givesUpon, *]
      exact ⟨Fr.refl _ _, rfl⟩
     ·have D11 : a'.eval (.tmp 11) = .int .i64 ra := hdep ⟨6, .data⟩ (by simp) rfl _ 11 rfl rfl
      simp only [Act.eval] at D11
      unfold opGives
      simp [execOp, Act.eval, D11, go_sem, givesUpon]
      exact ⟨Fr.refl _ _, by unfold isV; have := hlo.out; first | (simp [this]; done) | (simp; omega)⟩
     ·have D9 : a'.eval (.tmp 9) = .bool true := hdep ⟨4, .data⟩ (by simp) rfl _ 9 rfl rfl
      have D12 : a'.eval (.tmp 12) = .bool true := hdep ⟨7, .data⟩ (by simp) rfl _ 12 rfl rfl
      simp only [Act.eval] at D9 D12
      unfold opGives
      simp [execOp, Act.eval, go_sem, givesUpon, D9, D12]
      exact ⟨Fr.refl _ _, rfl⟩
     ·have D13 : a'.eval (.tmp 13) = .bool true := hdep ⟨8, .data⟩ (by simp) rfl _ 13 rfl rfl
      simp only [Act.eval] at D13
      unfold opGives
      simp [execOp, Act.eval, D13, go_sem, givesUpon]
      exact ⟨Fr.refl _ _, rfl⟩
     ·unfold opGives
      simp [execOp, Act.eval, H3, go_sem, givesUpon]
      exact ⟨Fr.refl _ _, rfl⟩
     ·have D15 : a'.eval (.tmp 15) = .pointer (some ⟨w.heap.size, 2, none⟩) := hdep ⟨10, .data⟩ (by simp) rfl _ 15 rfl rfl
      simp only [Act.eval] at D15
      unfold opGives
      simp [execOp, Act.eval, go_sem, givesUpon, *]
      exact ⟨Fr.refl _ _, rfl⟩
     ·unfold opGives
      simp [execOp, Act.eval, H0, go_sem, givesUpon]
      exact ⟨Fr.refl _ _, rfl⟩
     ·unfold opGives
      simp [execOp, Act.eval, H3, go_sem, givesUpon]
      exact ⟨Fr.refl _ _, rfl⟩
     ·have D18 : a'.eval (.tmp 18) = .pointer (some ⟨w.heap.size, 0, none⟩) := hdep ⟨13, .data⟩ (by simp) rfl _ 18 rfl rfl
      simp only [Act.eval] at D18
      unfold opGives
      simp [execOp, Act.eval, go_sem, givesUpon, *]
      exact ⟨Fr.refl _ _, rfl⟩
     ·have D17 : a'.eval (.tmp 17) = .pointer (some ⟨l, 0, none⟩) := hdep ⟨12, .data⟩ (by simp) rfl _ 17 rfl rfl
      have D19 : a'.eval (.tmp 19) = .agg #[.int .i64 k0, .string rn] := hdep ⟨14, .data⟩ (by simp) rfl _ 19 rfl rfl
      simp only [Act.eval] at D17 D19
      unfold opGives
      simp [Act.eval, D17, D19, go_sem, givesUpon]
      exact (HCl _ hW0.2).mono fun e w' ⟨v, h1, h2, h3⟩ => ⟨_, h1, h3, h2⟩
     ·obtain ⟨Af, cf, Am, cm, D20⟩ : (clsV c) (a'.eval (.tmp 20)) W := hdep ⟨15, .data⟩ (by simp) rfl _ 20 rfl rfl
      simp only [Act.eval] at D20
      unfold opGives
      simp [execOp, Act.eval, D20, go_sem, givesUpon]
      exact ⟨Fr.refl _ _, _, _, rfl⟩
     ·obtain ⟨Ay, cy, D21⟩ : (lenV c.methods.length) (a'.eval (.tmp 21)) W := hdep ⟨16, .data⟩ (by simp) rfl _ 21 rfl rfl
      simp only [Act.eval] at D21
      unfold opGives
      simp [Act.eval, D21, go_sem, givesUpon]
      exact ⟨Fr.refl _ _, rfl⟩
     ·have D16 : a'.eval (.tmp 16) = .int .i64 ra := hdep ⟨11, .data⟩ (by simp) rfl _ 16 rfl rfl
      have D22 : a'.eval (.tmp 22) = .int .i64 c.methods.length := hdep ⟨17, .data⟩ (by simp) rfl _ 22 rfl rfl
      simp only [Act.eval] at D16 D22
      unfold opGives
      simp [execOp, Act.eval, D16, D22, go_sem, givesUpon]
      exact ⟨Fr.refl _ _, by unfold isV; have := hhi.out; first | (simp [this]; done) | (simp; omega)⟩
     ·have D14 : a'.eval (.tmp 14) = .bool true := hdep ⟨9, .data⟩ (by simp) rfl _ 14 rfl rfl
      have D23 : a'.eval (.tmp 23) = .bool false := hdep ⟨18, .data⟩ (by simp) rfl _ 23 rfl rfl
      simp only [Act.eval] at D14 D23
      unfold opGives
      simp [execOp, Act.eval, go_sem, givesUpon, D14, D23]
      exact ⟨Fr.refl _ _, rfl⟩
     ·have D24 : a'.eval (.tmp 24) = .bool false := hdep ⟨19, .data⟩ (by simp) rfl _ 24 rfl rfl
      simp only [Act.eval] at D24
      unfold opGives
      simp [execOp, Act.eval, D24, go_sem, givesUpon]
      exact ⟨Fr.refl _ _, rfl⟩
    ·intro k o ho hu a' W jc hjc hW0 hoff hdep
     have hW := hG jc _ hW0
     have hbs := hGs _ hW
     have H0 := hoff 0 (by simp)
     have H3 := hoff 3 (by simp)
     simp only [Act.eval] at H0 H3
     rcases k with _ | _ | _ | _ | _ | _ | _ | _ | _ | _ | _ | _ | _ | _ | _ | _ | _ | _ | _ | _ | _ | k
     all_goals (first | (simp at ho; done) | skip)
     all_goals (first | (exact absurd hu (by decide)) | skip)
     all_goals simp only [List.getElem?_cons_zero, List.getElem?_cons_succ, Option.some.injEq] at ho
     all_goals subst ho
     ·have D5 : a'.eval (.tmp 5) = .pointer (some ⟨l, 0, none⟩) := hdep ⟨0, .data⟩ (by simp) rfl _ 5 rfl rfl
      have D7 : a'.eval (.tmp 7) = .agg #[.int .i64 k0, .string rn] := hdep ⟨2, .data⟩ (by simp) rfl _ 7 rfl rfl
      simp only [Act.eval] at D5 D7
      unfold opGives
      simp [Act.eval, D5, D7, go_sem, givesUpon]
      exact (HC jc W (by omega) hW0.2).mono fun e w' ⟨h1, h2, h3⟩ => ⟨_, h1, ⟨hW0.1.same h2, h3⟩, h2, rfl⟩
    intro vs WR hWR hv
    have e0 : vs 0 = _ := hv 0 (by decide)
    have e1 : vs 1 = _ := hv 1 (by decide)
    have e2 : vs 2 = _ := hv 2 (by decide)
    have e3 : vs 3 = _ := hv 3 (by decide)
    have e4 : vs 4 = _ := hv 4 (by decide)
    have e5 : vs 5 = _ := hv 5 (by decide)
    have e6 : vs 6 = _ := hv 6 (by decide)
    have e7 : vs 7 = _ := hv 7 (by decide)
    have e8 : vs 8 = _ := hv 8 (by decide)
    have e9 : vs 9 = _ := hv 9 (by decide)
    have e10 : vs 10 = _ := hv 10 (by decide)
    have e11 : vs 11 = _ := hv 11 (by decide)
    have e12 : vs 12 = _ := hv 12 (by decide)
    have e13 : vs 13 = _ := hv 13 (by decide)
    have e14 : vs 14 = _ := hv 14 (by decide)
    obtain ⟨AfR15, cfR15, AmR15, cmR15, e15⟩ := hv 15 (by decide)
    obtain ⟨AyR16, cyR16, e16⟩ := hv 16 (by decide)
    have e17 : vs 17 = _ := hv 17 (by decide)
    have e18 : vs 18 = _ := hv 18 (by decide)
    have e19 : vs 19 = _ := hv 19 (by decide)
    have e20 : vs 20 = _ := hv 20 (by decide)
    simp only [putsL, if_true, Nat.zero_add, Nat.reduceAdd, e0, e1, e2, e3, e4, e5, e6, e7, e8, e9, e10, e11, e12, e13, e14, e15, e16, e17, e18, e19, e20]
    simp only [Act.put, List.setIfInBounds_toArray, List.set_cons_zero, List.set_cons_succ]
    clear e0 e1 e2 e3 e4 e5 e6 e7 e8 e9 e10 e11 e12 e13 e14 e15 e16 e17 e18 e19 e20 hv
    clear KB HC HCl
    go_wp2
    go_ret
    exact .mk hE.out.symm (hfA.of0.same hWR.1) hWR.2
  ·have hE : Hid (V = false) := by rw [hV, decide_eq_false hlo]; rfl
   replace hlo := Lib.hid hlo
   clear hV hh
   go_enter Tryz.func28, Tryz.ntmps28
   go_wp2_with fail
   rw [← hwA]
   replace hwA := Lib.hid hwA
   refine wp_region_allL [isV (.pointer (some ⟨l, 0, none⟩)), isV (.pointer (some ⟨w.heap.size, 0, none⟩)), isV (.agg #[.int .i64 k0, .string rn]), isV (.bool true), isV (.bool true), isV (.pointer (some ⟨w.heap.size, 2, none⟩)), isV (.int .i64 ra), isV (.bool false), isV (.bool false), isV (.bool false), isV undef, isV undef, isV undef, isV undef, isV undef, isV undef, isV undef, isV undef, isV undef, isV (.bool false), isV (.bool false)] [false, false, false, true, false, false, false, false, false, false, false, false, false, false, false, false, false, false, false, false, false] [true, true, true, true, true, true, true, true, true, true, false, false, false, false, false, false, false, false, false, true, true] 1 (GotJ p l bl n wA) (fun W W' => Fr (fun b => b = bl) W W') (by kernel_rfl) (by kernel_rfl) ?_ ?_ ?_ ?_ ?_ (by decide) ?_ ?_ ?_ ?_ ?_
   ·intro o ho d hd; simp only [List.mem_cons, List.not_mem_nil, or_false] at ho; rcases ho with rfl | rfl | rfl | rfl | rfl | rfl | rfl | rfl | rfl | rfl | rfl | rfl | rfl | rfl | rfl | rfl | rfl | rfl | rfl | rfl | rfl <;> (cases hd <;> simp)
   ·intro x hx
    simp only [List.mem_cons, List.not_mem_nil, or_false] at hx
    rcases hx with rfl | rfl | rfl | rfl | rfl | rfl | rfl | rfl | rfl | rfl | rfl | rfl | rfl | rfl | rfl | rfl | rfl | rfl | rfl | rfl | rfl
    ·exact isV_mono _
    ·exact isV_mono _
    ·exact isV_mono _
    ·exact isV_mono _
    ·exact isV_mono _
    ·exact isV_mono _
    ·exact isV_mono _
    ·exact isV_mono _
    ·exact isV_mono _
    ·exact isV_mono _
    ·exact isV_mono _
    ·exact isV_mono _
    ·exact isV_mono _
    ·exact isV_mono _
    ·exact isV_mono _
    ·exact isV_mono _
    ·exact isV_mono _
    ·exact isV_mono _
    ·exact isV_mono _
    ·exact isV_mono _
    ·exact isV_mono _
   ·intro x hx v W W' h hs
    simp only [List.mem_cons, List.not_mem_nil, or_false] at hx
    rcases hx with rfl | rfl | rfl | rfl | rfl | rfl | rfl | rfl | rfl | rfl | rfl | rfl | rfl | rfl | rfl | rfl | rfl | rfl | rfl | rfl | rfl
    ·exact h
    ·exact h
    ·exact h
    ·exact h
    ·exact h
    ·exact h
    ·exact h
    ·exact h
    ·exact h
    ·exact h
    ·exact h
    ·exact h
    ·exact h
    ·exact h
    ·exact h
    ·exact h
    ·exact h
    ·exact h
    ·exact h
    ·exact h
    ·exact h
   ·exact fun _ _ _ h hf => h.to hf
   ·intro k o ho
    rcases k with _ | _ | _ | _ | _ | _ | _ | _ | _ | _ | _ | _ | _ | _ | _ | _ | _ | _ | _ | _ | _ | k
    all_goals (first | (simp at ho; done) | skip)
    all_goals simp only [List.getElem?_cons_zero, List.getElem?_cons_succ, Option.some.injEq] at ho
    all_goals subst ho
    all_goals refine ⟨fun h => ?_, fun g b h v W hv => ?_⟩
    all_goals first | rfl | (cases h; done) | (cases h; obtain rfl : v = Value.bool _ := hv; rfl)
   ·intro k hk h W
    rcases k with _ | _ | _ | _ | _ | _ | _ | _ | _ | _ | _ | _ | _ | _ | _ | _ | _ | _ | _ | _ | _ | k
    all_goals first | (exact rfl) | (cases h; done) | (simp at hk; done) | (simp at hk; omega)
   ·exact ⟨(Fr.refl _ _).drew, (h.keep hfA).keep (Fr.refl _ _).drew⟩
   ·intro k o ho hu hg a' W jc hjc hW0 hoff hdep
    have hW := hG jc _ hW0
    have hbs := hGs _ hW
    have H0 := hoff 0 (by simp)
    have H3 := hoff 3 (by simp)
    simp only [Act.eval] at H0 H3
    rcases k with _ | _ | _ | _ | _ | _ | _ | _ | _ | _ | _ | _ | _ | _ | _ | _ | _ | _ | _ | _ | _ | k
    all_goals (first | (simp at ho; done) | skip)
    all_goals (first | (exact absurd hu (by decide)) | skip)
    all_goals (first | (exact absurd hg (by decide)) | skip)
    all_goals simp only [List.getElem?_cons_zero, List.getElem?_cons_succ, Option.some.injEq] at ho
    all_goals subst ho
    ·unfold opGives
     simp [execOp, Act.eval, H0, go_sem, givesUpon]
     exact ⟨Fr.refl _ _, rfl⟩
    ·unfold opGives
     simp [execOp, Act.eval, H3, go_sem, givesUpon]
     exact ⟨Fr.refl _ _, rfl⟩
    ·have D6 : a'.eval (.tmp 6) = .pointer (some ⟨w.heap.size, 0, none⟩) := hdep ⟨1, .data⟩ (by simp) rfl _ 6 rfl rfl
     simp only [Act.eval] at D6
     unfold opGives
     simp [execOp, Act.eval, go_sem, givesUpon, *]
     exact ⟨Fr.refl _ _, rfl⟩
    ·have D8 : a'.eval (.tmp 8) = .bool true := hdep ⟨3, .data⟩ (by simp) rfl _ 8 rfl rfl
     simp only [Act.eval] at D8
     unfold opGives
     simp [execOp, Act.eval, D8, go_sem, givesUpon]
     exact ⟨Fr.refl _ _, rfl⟩
    ·unfold opGives
     simp [execOp, Act.eval, H3, go_sem, givesUpon]
     exact ⟨Fr.refl _ _, rfl⟩
    ·have D10 : a'.eval (.tmp 10) = .pointer (some ⟨w.heap.size, 2, none⟩) := hdep ⟨5, .data⟩ (by simp) rfl _ 10 rfl rfl
     simp only [Act.eval] at D10
     unfold opGives
     simp [execOp, Act.eval, go_sem, givesUpon, *]
     exact ⟨Fr.refl _ _, rfl⟩
    ·have D11 : a'.eval (.tmp 11) = .int .i64 ra := hdep ⟨6, .data⟩ (by simp) rfl _ 11 rfl rfl
     simp only [Act.eval] at D11
     unfold opGives
     simp [execOp, Act.eval, D11, go_sem, givesUpon]
     exact ⟨Fr.refl _ _, by unfold isV; have := hlo.out; first | (simp [this]; done) | (simp; omega)⟩
    ·have D9 : a'.eval (.tmp 9) = .bool true := hdep ⟨4, .data⟩ (by simp) rfl _ 9 rfl rfl
     have D12 : a'.eval (.tmp 12) = .bool false := hdep ⟨7, .data⟩ (by simp) rfl _ 12 rfl rfl
     simp only [Act.eval] at D9 D12
     unfold opGives
     simp [execOp, Act.eval, go_sem, givesUpon, D9, D12]
     exact ⟨Fr.refl _ _, rfl⟩
    ·have D13 : a'.eval (.tmp 13) = .bool false := hdep ⟨8, .data⟩ (by simp) rfl _ 13 rfl rfl
     simp only [Act.eval] at D13
     unfold opGives
     simp [execOp, Act.eval, D13, go_sem, givesUpon]
     exact ⟨Fr.refl _ _, rfl⟩
    ·have D14 : a'.eval (.tmp 14) = .bool false := hdep ⟨9, .data⟩ (by simp) rfl _ 14 rfl rfl
     have D23 : a'.eval (.tmp 23) = undef := hdep ⟨18, .data⟩ (by simp) rfl _ 23 rfl rfl
     simp only [Act.eval] at D14 D23
     unfold opGives
     simp [execOp, Act.eval, go_sem, givesUpon, D14, D23]
     exact ⟨Fr.refl _ _, rfl⟩
    ·have D24 : a'.eval (.tmp 24) = .bool false := hdep ⟨19, .data⟩ (by simp) rfl _ 24 rfl rfl
     simp only [Act.eval] at D24
     unfold opGives
     simp [execOp, Act.eval, D24, go_sem, givesUpon]
     exact ⟨Fr.refl _ _, rfl⟩
   ·intro k o ho hu a' W jc hjc hW0 hoff hdep
    have hW := hG jc _ hW0
    have hbs := hGs _ hW
    have H0 := hoff 0 (by simp)
    have H3 := hoff 3 (by simp)
    simp only [Act.eval] at H0 H3
    rcases k with _ | _ | _ | _ | _ | _ | _ | _ | _ | _ | _ | _ | _ | _ | _ | _ | _ | _ | _ | _ | _ | k
    all_goals (first | (simp at ho; done) | skip)
    all_goals (first | (exact absurd hu (by decide)) | skip)
    all_goals simp only [List.getElem?_cons_zero, List.getElem?_cons_succ, Option.some.injEq] at ho
    all_goals subst ho
    ·have D5 : a'.eval (.tmp 5) = .pointer (some ⟨l, 0, none⟩) := hdep ⟨0, .data⟩ (by simp) rfl _ 5 rfl rfl
     have D7 : a'.eval (.tmp 7) = .agg #[.int .i64 k0, .string rn] := hdep ⟨2, .data⟩ (by simp) rfl _ 7 rfl rfl
     simp only [Act.eval] at D5 D7
     unfold opGives
     simp [Act.eval, D5, D7, go_sem, givesUpon]
     exact (HC jc W (by omega) hW0.2).mono fun e w' ⟨h1, h2, h3⟩ => ⟨_, h1, ⟨hW0.1.same h2, h3⟩, h2, rfl⟩
   intro vs WR hWR hv
   have e0 : vs 0 = _ := hv 0 (by decide)
   have e1 : vs 1 = _ := hv 1 (by decide)
   have e2 : vs 2 = _ := hv 2 (by decide)
   have e3 : vs 3 = _ := hv 3 (by decide)
   have e4 : vs 4 = _ := hv 4 (by decide)
   have e5 : vs 5 = _ := hv 5 (by decide)
   have e6 : vs 6 = _ := hv 6 (by decide)
   have e7 : vs 7 = _ := hv 7 (by decide)
   have e8 : vs 8 = _ := hv 8 (by decide)
   have e9 : vs 9 = _ := hv 9 (by decide)
   have e10 : vs 10 = _ := hv 10 (by decide)
   have e11 : vs 11 = _ := hv 11 (by decide)
   have e12 : vs 12 = _ := hv 12 (by decide)
   have e13 : vs 13 = _ := hv 13 (by decide)
   have e14 : vs 14 = _ := hv 14 (by decide)
   have e15 : vs 15 = _ := hv 15 (by decide)
   have e16 : vs 16 = _ := hv 16 (by decide)
   have e17 : vs 17 = _ := hv 17 (by decide)
   have e18 : vs 18 = _ := hv 18 (by decide)
   have e19 : vs 19 = _ := hv 19 (by decide)
   have e20 : vs 20 = _ := hv 20 (by decide)
   simp only [putsL, if_true, Nat.zero_add, Nat.reduceAdd, e0, e1, e2, e3, e4, e5, e6, e7, e8, e9, e10, e11, e12, e13, e14, e15, e16, e17, e18, e19, e20]
   simp only [Act.put, List.setIfInBounds_toArray, List.set_cons_zero, List.set_cons_succ]
   clear e0 e1 e2 e3 e4 e5 e6 e7 e8 e9 e10 e11 e12 e13 e14 e15 e16 e17 e18 e19 e20 hv
   clear KB HC
   go_wp2
   go_ret
   exact .mk hE.out.symm (hfA.of0.same hWR.1) hWR.2
end Go.Proofs.YtbalicnnlfennaaGreat

namespace Go.Proofs.YtbalicnnlfennaaGreat
open Go.RowKit

section
variable {w : World}
theorem Bx.r6 {g : Nat} {t : TypeId} {c0 c1 c2 c3 c4 c5 : Value} (h : Bx w g t #[c0, c1, c2, c3, c4, c5]) : ∀ W, Fr No w W → W.cell? ⟨g, 0, none⟩ = some c0 ∧ W.cell? ⟨g, 1, none⟩ = some c1 ∧ W.cell? ⟨g, 2, none⟩ = some c2 ∧ W.cell? ⟨g, 3, none⟩ = some c3 ∧ W.cell? ⟨g, 4, none⟩ = some c4 ∧ W.cell? ⟨g, 5, none⟩ = some c5 ∧ (∀ j, W.frozen? ⟨g, j, none⟩ = false) ∧ g < W.heap.size := fun _ hW =>
 ⟨(h.keep hW).cell 0, (h.keep hW).cell 1, (h.keep hW).cell 2, (h.keep hW).cell 3, (h.keep hW).cell 4, (h.keep hW).cell 5, fun j => (h.keep hW).frozen j, (h.keep hW).lt⟩
end
theorem frmB_no {p : Plan} {many : Nat} {f : Cal} (g : hasMB p f.of_ = false ∨ f.pc < 0 ∨ ((mthOf p f.of_).code.length : Int) ≤ f.pc ∨ (f.locals.length : Int) ≠ (mthOf p f.of_).locals ∨ (mthOf p f.of_).stack < (f.stack.length : Int) ∨ f.locals.all (valB many) = false ∨ f.stack.all (valB many) = false) : frmB p many f = false := by
 unfold frmB
 rcases g with g | g | g | g | g | g | g
 ·rw [g]; simp
 ·rw [decide_eq_false (show ¬ 0 ≤ f.pc by omega)]; simp
 ·rw [decide_eq_false (show ¬ f.pc < ((mthOf p f.of_).code.length : Int) by omega)]; simp
 ·rw [decide_eq_false g]; simp
 ·rw [decide_eq_false (show ¬ (f.stack.length : Int) ≤ (mthOf p f.of_).stack by omega)]; simp
 ·rw [g]; simp
 ·rw [g]; simp
theorem frmB_yes {p : Plan} {many : Nat} {f : Cal} (g1 : hasMB p f.of_ = true) (g2 : 0 ≤ f.pc) (g3 : f.pc < ((mthOf p f.of_).code.length : Int)) (g4 : (f.locals.length : Int) = (mthOf p f.of_).locals) (g5 : (f.stack.length : Int) ≤ (mthOf p f.of_).stack) (g6 : f.locals.all (valB many) = true) (g7 : f.stack.all (valB many) = true) : frmB p many f = true := by
 simp only [frmB, g1, g2, g3, g4, g5, g6, g7, decide_true, Bool.and_true]
theorem hasMB_here {p : Plan} {m : LMth} (hp : lodB p = true) (h : hasMB p m = true) : ∃ k i a : Nat, m.of_.keeper = k ∧ m.at_ = a ∧ Here p m.of_ k i ∧ ∃ ha : a < (clsAt p m.of_).methods.length, mthOf p m = (clsAt p m.of_).methods[a] := by
 unfold hasMB at h
 simp only [Bool.and_eq_true, decide_eq_true_eq] at h
 obtain ⟨⟨h1, h2⟩, h3⟩ := h
 obtain ⟨k, i, hh⟩ := canB_here hp h1
 have ha : m.at_.toNat < (clsAt p m.of_).methods.length := by omega
 refine ⟨k, i, m.at_.toNat, hh.1, by omega, hh, ha, ?_⟩
 unfold mthOf
 simp [List.getD, List.getElem?_eq_getElem ha]

set_option maxRecDepth 100000 in
set_option maxHeartbeats 4000000 in
theorem frame_ok (X : Nat → Prop) (l bl n : Nat) (p : Plan) (f : Cal) (cs : List Value) (many : Nat) (w : World) (h : Lg w l bl n p) (hf : CalC X w cs f) (hX : X bl) (wk : (Lit.int .i64 f.of_.of_.keeper).wf = true) (hn : n < 100000) :
  Calls Tryz.prog 41 #[.pointer (some ⟨l, 0, none⟩), .agg cs.toArray, .int .i64 many] w (LgPost (frmB p many f) p l bl (n + 1) w) := by
 obtain ⟨vl, vs, rfl, hnm, hl, hst⟩ := hf
 obtain ⟨Al, cl, rfl, _, hll⟩ := hl.form
 obtain ⟨As, cs', rfl, _, hsl⟩ := hst.form
 unfold maxLen at hll hsl
 have hp := h.ok
 have hblr := h.lt
 obtain ⟨wA, hwA⟩ : ∃ wA, wA = w.alloc (.cells #[.int .i64 f.of_.of_.keeper, .string f.of_.of_.name, .int .i64 f.of_.at_, .int .i64 f.pc, .slice Al f.locals.length cl, .slice As f.stack.length cs'] 107) := ⟨_, rfl⟩
 have hfA : Fr No w wA := hwA ▸ frc
 have B0 : Bx wA w.heap.size 107 #[.int .i64 f.of_.of_.keeper, .string f.of_.of_.name, .int .i64 f.of_.at_, .int .i64 f.pc, .slice Al f.locals.length cl, .slice As f.stack.length cs'] := hwA ▸ bxc
 have HM := hasMethod_ok l bl n p f.of_ wA (h.keep hfA) hnm wk hn
 have hl := hl.keep (R' := ValC) hfA (fun _ h => h.elim) (fun _ _ _ h => h)
 have hst := hst.keep (R' := ValC) hfA (fun _ h => h.elim) (fun _ _ _ h => h)
 obtain ⟨V, hV⟩ : ∃ V, V = frmB p many f := ⟨_, rfl⟩
 rw [← hV]
 replace hV := Lib.hid hV
 unfold LgPost at HM
 obtain ⟨y0, y1, y2, y3, y4, y5⟩ := B0.c6
 have yl := B0.lt
 have hsA := hfA.size
 clear h
 cases g1 : hasMB p f.of_
 ·rw [g1] at HM
  have hE : Hid (V = false) := hV.out.trans (frmB_no (.inl g1))
  clear hV g1 hl hst
  go_enter Tryz.func41, Tryz.ntmps41
  go_wp2_with fail
  rw [← hwA]
  replace hwA := Lib.hid hwA
  refine HM.mono ?_
  rintro e w1 ⟨rfl, hf1, hL1⟩
  clear y0 y1 y2 y3 y4 y5 yl
  go_wp2
  go_ret
  exact .mk hE.out.symm (hfA.of0.same hf1) hL1
 ·rw [g1] at HM
  obtain ⟨k, i, a, hk, ha, hh, hal, hmo⟩ := hasMB_here hp g1
  have hcl : (⟨(k : Int), f.of_.of_.name⟩ : Ref) = f.of_.of_ := by cases ho9 : f.of_.of_; rw [ho9] at hk; dsimp only at hk; subst hk; rfl
  have hMV : ∀ (g : Int → Str → Option Int) W, Lodge W l bl (n + 1) p g → ∃ cs : List Value, MthC (fun b => b = bl) W cs (mthOf p f.of_) ∧ ∀ W', Fr No W W' → Calls Tryz.prog 36 #[.pointer (some ⟨l, 0, none⟩), .agg #[.int .i64 f.of_.of_.keeper, .string f.of_.of_.name, .int .i64 f.of_.at_]] W' (Gives (.agg cs.toArray) W') := fun g W hL => by
   have h9 := method_val (a := a) hL (s := f.of_.of_.name) (k := k) (i := i) (by rw [hcl]; exact hh) hnm (by rw [hcl]; exact hal)
   obtain ⟨cs, h1, h2⟩ := h9
   rw [← hk, ← ha] at h2
   refine ⟨cs, ?_, h2⟩
   have hme : (clsAt p ⟨(k : Int), f.of_.of_.name⟩).methods[a]'(by rw [hcl]; exact hal) = mthOf p f.of_ := by rw [hmo]; congr 1; rw [hcl]
   rwa [hme] at h1
  have g1 := Lib.hid g1
  clear hk ha hh hmo hcl
  go_enter Tryz.func41, Tryz.ntmps41
  go_wp2_with fail
  rw [← hwA]
  replace hwA := Lib.hid hwA
  refine HM.mono ?_
  rintro e w1 ⟨rfl, hf1, hL1⟩
  have hw1 : Fr (fun b => b = bl) w w1 := hfA.of0.same hf1
  have B1 := B0.keepX hf1 (by omega)
  have hl1 := hl.keep (R' := ValC) hf1 (fun b hb => hb ▸ hX) (fun _ _ _ h => h)
  have hst1 := hst.keep (R' := ValC) hf1 (fun b hb => hb ▸ hX) (fun _ _ _ h => h)
  obtain ⟨g, hLo, hgr⟩ := hL1
  obtain ⟨csm, hmc, HMt⟩ := hMV g w1 hLo
  clear y0 y1 y2 y3 y4 y5 yl HM hMV hl hst B0
  obtain ⟨y0, y1, y2, y3, y4, y5⟩ := B1.c6
  have yl := B1.lt
  generalize hmM : mthOf p f.of_ = m at *
  obtain ⟨va, vc, vm, rfl, _, _, hva, hco, hvm⟩ := hmc
  obtain ⟨Ac, cc, rfl, _, hcl⟩ := hco.form
  obtain ⟨Aa, ca, rfl, _, _⟩ := hva.form
  obtain ⟨Am, cm, rfl, _, _⟩ := hvm.form
  unfold maxLen at hcl
  clear hco hva hvm
  have HVl := fun W (hW : Fr No w1 W) => values_ok X _ f.locals (many : Int) W (hl1.keep (R' := ValC) hW (fun _ h => h.elim) (fun _ _ _ h => h))
  have HVs := fun W (hW : Fr No w1 W) => values_ok X _ f.stack (many : Int) W (hst1.keep (R' := ValC) hW (fun _ h => h.elim) (fun _ _ _ h => h))
  have hend : ∀ W, Fr No w1 W → ∀ b, b = V → LgPost V p l bl (n + 1) w (.returned (.bool b)) W := fun W hW b hb => .mk hb (hw1.trans0 hW) ⟨g, hLo.keep hW, hgr⟩
  have KF := B1.r6
  clear hl1 hst1 hLo hgr hw1 B1
  go_wp2_with fail
  refine (HMt _ (Fr.refl _ _)).mono ?_
  rintro e w2 ⟨rfl, hf2⟩
  obtain ⟨x0, x1, x2, x3, x4, x5, xf, xl⟩ := KF w2 hf2
  clear y0 y1 y2 y3 y4 y5 yl HMt
  have hpc : f.pc < 0 ∨ (0 ≤ f.pc ∧ (m.code.length : Int) ≤ f.pc) ∨ (0 ≤ f.pc ∧ f.pc < (m.code.length : Int) ∧ (f.locals.length : Int) ≠ m.locals) ∨ (0 ≤ f.pc ∧ f.pc < (m.code.length : Int) ∧ (f.locals.length : Int) = m.locals ∧ m.stack < (f.stack.length : Int)) ∨ (0 ≤ f.pc ∧ f.pc < (m.code.length : Int) ∧ (f.locals.length : Int) = m.locals ∧ (f.stack.length : Int) ≤ m.stack) := by omega
  rcases hpc with g2 | ⟨g2, g3⟩ | ⟨g2, g3, g4⟩ | ⟨g2, g3, g4, g5⟩ | ⟨g2, g3, g4, g5⟩
  ·have hE : Hid (V = false) := hV.out.trans (frmB_no (.inr (.inl g2)))
   clear hV
   go_wp2
   go_ret
   exact hend _ frc _ hE.out.symm
  ·have hE : Hid (V = false) := hV.out.trans (frmB_no (.inr (.inr (.inl (by rw [hmM]; exact g3)))))
   clear hV
   go_wp2
   go_ret
   exact hend _ frc _ hE.out.symm
  ·have hE : Hid (V = false) := hV.out.trans (frmB_no (.inr (.inr (.inr (.inl (by rw [hmM]; exact g4))))))
   clear hV
   go_wp2
   go_ret
   exact hend _ frc _ hE.out.symm
  ·have hE : Hid (V = false) := hV.out.trans (frmB_no (.inr (.inr (.inr (.inr (.inl (by rw [hmM]; exact g5)))))))
   clear hV
   replace g4 := g4.symm
   go_wp2
   go_ret
   exact hend _ frc _ hE.out.symm
  ·have hno := fun h => hV.out.trans (frmB_no (p := p) (many := many) (f := f) h)
   have hyes := fun h1 h2 => hV.out.trans (frmB_yes (p := p) (many := many) (f := f) g1.out g2 (by rw [hmM]; exact g3) (by rw [hmM]; exact g4) (by rw [hmM]; exact g5) h1 h2)
   replace g4 := g4.symm
   clear hV
   cases h6 : f.locals.all (valB many)
   ·have hE : Hid (V = false) := hno (.inr (.inr (.inr (.inr (.inr (.inl h6))))))
    rw [h6] at HVl
    clear hno hyes h6
    go_wp2_with (go_at_call_of 80 (Value.slice Al f.locals.length cl); refine (HVl _ (by exact frc)).mono ?_; rintro e w3 ⟨rfl, hf3⟩)
    go_ret
    exact hend _ frc _ hE.out.symm
   ·rw [h6] at HVl
    cases h7 : f.stack.all (valB many)
    ·have hE : Hid (V = false) := hno (.inr (.inr (.inr (.inr (.inr (.inr h7))))))
     rw [h7] at HVs
     clear hno hyes h6 h7
     go_wp2_with (first
      | (go_at_call_of 80 (Value.slice Al f.locals.length cl); refine (HVl _ (by exact frc)).mono ?_; rintro e w3 ⟨rfl, hf3⟩; have q3 : Fr No w1 w3 := (by exact frc); obtain ⟨z0, z1, z2, z3, z4, z5, zf, zl⟩ := KF w3 q3)
      | (go_at_call 80; refine (HVs _ (by exact frc)).mono ?_; rintro e w4 ⟨rfl, hf4⟩))
     go_ret
     exact hend _ frc _ hE.out.symm
    ·have hE : Hid (V = true) := hyes h6 h7
     rw [h7] at HVs
     clear hno hyes h6 h7
     go_wp2_with (first
      | (go_at_call_of 80 (Value.slice Al f.locals.length cl); refine (HVl _ (by exact frc)).mono ?_; rintro e w3 ⟨rfl, hf3⟩; have q3 : Fr No w1 w3 := (by exact frc); obtain ⟨z0, z1, z2, z3, z4, z5, zf, zl⟩ := KF w3 q3)
      | (go_at_call 80; refine (HVs _ (by exact frc)).mono ?_; rintro e w4 ⟨rfl, hf4⟩))
     go_ret
     exact hend _ frc _ hE.out.symm
end Go.Proofs.YtbalicnnlfennaaGreat

namespace Go.Proofs.YtbalicnnlfennaaGreat
open Go.RowKit

theorem stB_no {p : Plan} {s : St} (g : s.status < 1 ∨ 10 < s.status ∨ 12 < s.heap.length ∨ 40 < s.outs.length ∨ 8 < s.frames.length ∨ (0 < s.frames.length ∧ s.status ≠ 1) ∨ (s.frames.length = 0 ∧ s.status = 1) ∨ s.outs.all numB = false ∨ s.frames.all (frmB p s.heap.length) = false ∨ heapB p s.heap = false ∨ valB s.heap.length s.back = false) : stB p s = false := by
 unfold stB
 rcases g with g | g | g | g | g | ⟨g, h⟩ | ⟨g, h⟩ | g | g | g | g
 ·rw [decide_eq_false (show ¬ 1 ≤ s.status by omega)]; simp
 ·rw [decide_eq_false (show ¬ s.status ≤ 10 by omega)]; simp
 ·rw [decide_eq_false (show ¬ s.heap.length ≤ 12 by omega)]; simp
 ·rw [decide_eq_false (show ¬ s.outs.length ≤ 40 by omega)]; simp
 ·rw [decide_eq_false (show ¬ s.frames.length ≤ 8 by omega)]; simp
 ·rw [decide_eq_true g, decide_eq_false h]; simp
 ·rw [decide_eq_false (show ¬ 0 < s.frames.length by omega), decide_eq_true h]; simp
 ·rw [g]; simp
 ·rw [g]; simp
 ·rw [g]; simp
 ·rw [g]; simp
theorem stB_yes {p : Plan} {s : St} (g1 : 1 ≤ s.status) (g2 : s.status ≤ 10) (g3 : s.heap.length ≤ 12) (g4 : s.outs.length ≤ 40) (g5 : s.frames.length ≤ 8) (g6 : (0 < s.frames.length ∧ s.status = 1) ∨ (s.frames.length = 0 ∧ s.status ≠ 1)) (g7 : s.outs.all numB = true) (g8 : s.frames.all (frmB p s.heap.length) = true) (g9 : heapB p s.heap = true) (g10 : valB s.heap.length s.back = true) : stB p s = true := by
 unfold stB
 rw [decide_eq_true g1, decide_eq_true g2, decide_eq_true g3, decide_eq_true g4, decide_eq_true g5, g7, g8, g9, g10]
 rcases g6 with ⟨h1, h2⟩ | ⟨h1, h2⟩
 ·rw [decide_eq_true h1, decide_eq_true h2]; rfl
 ·rw [decide_eq_false (show ¬ 0 < s.frames.length by omega), decide_eq_false h2]; rfl

set_option maxRecDepth 100000 in
set_option maxHeartbeats 8000000 in
theorem vm_ok (X : Nat → Prop) (l bl n : Nat) (p : Plan) (s : St) (cs : List Value) (w : World) (h : Lg w l bl n p) (hs : StC X w cs s) (hX : X bl) (hwf : ∀ o ∈ s.heap, (Lit.int .i64 o.of_.keeper).wf = true) (hwg : ∀ f ∈ s.frames, (Lit.int .i64 f.of_.of_.keeper).wf = true) (hn : n < 10000) :
  Calls Tryz.prog 24 #[.pointer (some ⟨l, 0, none⟩), .agg cs.toArray] w (LgPost (stB p s) p l bl (n + 40) w) := by
 obtain ⟨vf, vh, vo, rfl, hf, hh, ho⟩ := hs
 obtain ⟨Af, cf, rfl, _, hfl⟩ := hf.form
 obtain ⟨Ah, ch, rfl, _, hhl⟩ := hh.form
 obtain ⟨Ao, co, rfl, _, hol⟩ := ho.form
 unfold maxLen at hfl hhl hol
 have hblr := h.lt
 obtain ⟨wA, hwA⟩ : ∃ wA, wA = w.alloc (.cells #[.int .i64 s.status, .slice Af s.frames.length cf, .slice Ah s.heap.length ch, .slice Ao s.outs.length co, .int .i64 s.back.kind, .int .i64 s.back.n] 42) := ⟨_, rfl⟩
 have hfA : Fr No w wA := hwA ▸ frc
 have B0 : Bx wA w.heap.size 42 #[.int .i64 s.status, .slice Af s.frames.length cf, .slice Ah s.heap.length ch, .slice Ao s.outs.length co, .int .i64 s.back.kind, .int .i64 s.back.n] := hwA ▸ bxc
 have hf := hf.keep (R' := CalC X wA) hfA (fun _ h => h.elim) (fun _ _ _ h => h.keep hfA (fun _ h => h.elim))
 have hh := hh.keep (R' := ObjC X wA) hfA (fun _ h => h.elim) (fun _ _ _ h => h.keep hfA (fun _ h => h.elim))
 have ho := ho.keep (R' := OutC) hfA (fun _ h => h.elim) (fun _ _ _ h => h)
 have hLA := h.keep hfA
 obtain ⟨V, hV⟩ : ∃ V, V = stB p s := ⟨_, rfl⟩
 rw [← hV]
 replace hV := Lib.hid hV
 have hsA := hfA.size
 have hBl := B0.lt
 have hcase : s.status < 1 ∨ (1 ≤ s.status ∧ 10 < s.status) ∨ ((1 ≤ s.status ∧ s.status ≤ 10) ∧ 12 < s.heap.length) ∨ ((1 ≤ s.status ∧ s.status ≤ 10) ∧ s.heap.length ≤ 12 ∧ 40 < s.outs.length) ∨ ((1 ≤ s.status ∧ s.status ≤ 10) ∧ (s.heap.length ≤ 12 ∧ s.outs.length ≤ 40) ∧ 8 < s.frames.length) ∨
   ((1 ≤ s.status ∧ s.status ≤ 10) ∧ (s.heap.length ≤ 12 ∧ s.outs.length ≤ 40) ∧ s.frames.length ≤ 8) := by omega
 have hno0 := fun g => Lib.hid (hV.out.trans (stB_no (p := p) (s := s) g))
 have hend : ∀ W m b, GotJ p l bl n wA m W → m ≤ 40 → b = V → LgPost V p l bl (n + 40) w (.returned (.bool b)) W := fun W m b hW hm hb => .mk hb (hfA.of0.same hW.1) (hW.2.mono (by omega))
 have hG0 : GotJ p l bl n wA 0 wA := ⟨Fr.refl _ _, hLA⟩
 rcases hcase with g | ⟨g1, g⟩ | ⟨⟨g1, g2⟩, g⟩ | ⟨⟨g1, g2⟩, g3, g⟩ | ⟨⟨g1, g2⟩, ⟨g3, g4⟩, g⟩ | ⟨⟨g1, g2⟩, ⟨g3, g4⟩, g5⟩
 ·have hE := hno0 (.inl g)
  obtain ⟨y0, y1, y2, y3, y4, y5⟩ := B0.c6
  clear hno0 hV hf hh ho
  go_enter Tryz.func24, Tryz.ntmps24
  go_wp2
  go_ret
  exact hend _ 0 _ (hwA ▸ hG0) (by omega) hE.out.symm
 ·have hE := hno0 (.inr (.inl g))
  clear hno0 hV hf hh ho
  go_enter Tryz.func24, Tryz.ntmps24
  go_wp2
  go_ret
  exact hend _ 0 _ (hwA ▸ hG0) (by omega) hE.out.symm
 ·have hE := hno0 (.inr (.inr (.inl g)))
  clear hno0 hV hf hh ho
  go_enter Tryz.func24, Tryz.ntmps24
  go_wp2
  go_ret
  exact hend _ 0 _ (hwA ▸ hG0) (by omega) hE.out.symm
 ·have hE := hno0 (.inr (.inr (.inr (.inl g))))
  clear hno0 hV hf hh ho
  go_enter Tryz.func24, Tryz.ntmps24
  go_wp2
  go_ret
  exact hend _ 0 _ (hwA ▸ hG0) (by omega) hE.out.symm
 ·have hE := hno0 (.inr (.inr (.inr (.inr (.inl g)))))
  clear hno0 hV hf hh ho
  go_enter Tryz.func24, Tryz.ntmps24
  go_wp2
  go_ret
  exact hend _ 0 _ (hwA ▸ hG0) (by omega) hE.out.symm
 have hcase : (0 < s.frames.length ∧ s.status ≠ 1) ∨ (s.frames.length = 0 ∧ s.status = 1) ∨ (0 < s.frames.length ∧ s.status = 1) ∨ (s.frames.length = 0 ∧ s.status ≠ 1) := by omega
 have hyes := fun g6 g7 g8 g9 g10 => Lib.hid (hV.out.trans (stB_yes (p := p) (s := s) g1 g2 g3 g4 g5 g6 g7 g8 g9 g10))
 have KB : ∀ W, Fr (fun b => b = bl) wA W → W.cell? ⟨w.heap.size, 0, none⟩ = some (.int .i64 s.status) ∧ W.cell? ⟨w.heap.size, 1, none⟩ = some (.slice Af s.frames.length cf) ∧ W.cell? ⟨w.heap.size, 2, none⟩ = some (.slice Ah s.heap.length ch) ∧ W.cell? ⟨w.heap.size, 3, none⟩ = some (.slice Ao s.outs.length co) ∧ W.cell? ⟨w.heap.size, 4, none⟩ = some (.int .i64 s.back.kind) ∧ W.cell? ⟨w.heap.size, 5, none⟩ = some (.int .i64 s.back.n) ∧ w.heap.size < W.heap.size := fun W hW => by
  have hb := B0.keepX hW (by omega)
  exact ⟨hb.cell 0, hb.cell 1, hb.cell 2, hb.cell 3, hb.cell 4, hb.cell 5, hb.lt⟩
 rcases hcase with ⟨g6, g7⟩ | ⟨g6, g7⟩ | ⟨g6, g7⟩ | ⟨g6, g7⟩
 ·have hE := hno0 (.inr (.inr (.inr (.inr (.inr (.inl ⟨g6, g7⟩))))))
  have hb : (s.status == 1) = false := by simpa using g7
  clear hno0 hyes hV hf hh ho KB
  go_enter Tryz.func24, Tryz.ntmps24
  go_wp2
  go_ret
  exact hend _ 0 _ (hwA ▸ hG0) (by omega) hE.out.symm
 ·have hE := hno0 (.inr (.inr (.inr (.inr (.inr (.inr (.inl ⟨g6, g7⟩)))))))
  have hb1 : decide (0 < s.frames.length) = false := decide_eq_false (by omega)
  have hb2 : (s.status == 1) = true := by simpa using g7
  replace g6 := Lib.hid g6
  replace g7 := Lib.hid g7
  clear hno0 hyes hV hf hh ho KB
  go_enter Tryz.func24, Tryz.ntmps24
  go_wp2
  go_ret
  exact hend _ 0 _ (hwA ▸ hG0) (by omega) hE.out.symm
 ·have hyes := fun h7 h8 h9 h10 => hyes (by omega) h7 h8 h9 h10
  have hb1 : decide (0 < s.frames.length) = true := decide_eq_true (by omega)
  have hb2 : (s.status == 1) = true := by simpa using g7
  replace g6 := Lib.hid g6
  replace g7 := Lib.hid g7
  have hno1 := fun g => hno0 (.inr (.inr (.inr (.inr (.inr (.inr (.inr g)))))))
  clear hno0 hV
  obtain ⟨y0, y1, y2, y3, y4, y5⟩ := B0.c6
  go_enter Tryz.func24, Tryz.ntmps24
  go_wp2_with fail
  rw [← hwA]
  replace hwA := Lib.hid hwA
  clear y0 y1 y2 y3 y4 y5
  go_loopw [44] (fun i wr => ∃ j : Nat, j ≤ s.outs.length ∧ i = .int .i64 j ∧ Hid ((s.outs.take j).all numB = true) ∧ Fr No wA wr) (fun i _ => s.outs.length - (intOf i).toNat)
  case atStart => exact ⟨0, Nat.zero_le _, rfl, by simp [Hid], Fr.refl _ _⟩
  case round =>
   obtain ⟨j, hj, rfl, hnn, hf9⟩ := hrel
   by_cases hlt : j < s.outs.length
   ·obtain ⟨b, bf, rfl, _, c0⟩ := (ho.keep (R' := OutC) hf9 (fun _ h => h.elim) (fun _ _ _ h => h)).num hlt
    have HN := fun W => num_ok s.outs[j] W
    have hy := fun h => Lib.hid (allB_step (f := numB) hlt hnn.out h)
    have hno2 := fun h => hno1 (.inl (allB_no (f := numB) hlt h))
    clear ho hnn
    generalize s.outs[j] = x at *
    cases hx : numB x
    ·have hE := hno2 hx
     rw [hx] at HN
     clear hx hy hno2 hno1 hyes
     go_wp2_with (go_at_call 22; refine (HN _).mono ?_; rintro e w1 ⟨rfl, hf1⟩)
     go_ret
     exact hend _ 0 _ ⟨(hf9.trans0 hf1).of0, hLA.keep (hf9.trans0 hf1)⟩ (by omega) hE.out.symm
    ·have hy := hy hx
     rw [hx] at HN
     clear hx hno2 hno1 hyes
     go_wp2_with (go_at_call 22; refine (HN _).mono ?_; rintro e w1 ⟨rfl, hf1⟩)
     go_roundw
     case rel => exact ⟨j + 1, by omega, by go_num, hy, hf9.trans0 hf1⟩
     case measure => simp [intOf]; omega
   ·have h7 : s.outs.all numB = true := allB_yes (by omega) hnn.out
    have hyes := fun h8 h9 h10 => hyes h7 h8 h9 h10
    clear h7 hnn ho
    obtain ⟨y0, y1, y2, y3, y4, y5, yl⟩ := KB wr hf9.of0
    go_wp2_with fail
    clear y0 y1 y2 y3 y4 y5 yl
    have hL9 := hLA.keep hf9
    go_loopw [55] (fun i wq => ∃ j : Nat, j ≤ s.frames.length ∧ i = .int .i64 j ∧ Hid ((s.frames.take j).all (frmB p s.heap.length) = true) ∧ GotJ p l bl n wA j wq) (fun i _ => s.frames.length - (intOf i).toNat)
    case atStart => exact ⟨0, Nat.zero_le _, rfl, by simp [Hid], hf9.of0, hL9⟩
    case round =>
     obtain ⟨j2, hj2, rfl, hnn, hq, hLq⟩ := hrel
     by_cases hlt : j2 < s.frames.length
     ·obtain ⟨b, bf, Al, cl, As, cs, rfl, _, c0, c1, c2, c3, c4, c5, z0, hl1, hs1, _, hll, _, hsl⟩ := (hf.keep (R' := CalC X wr) hq (fun b hb => hb ▸ hX) (fun _ _ _ h => h.keep hq (fun b hb => hb ▸ hX))).cal hlt
      have hwf9 := hwg _ (List.getElem_mem hlt)
      have hy := fun h => Lib.hid (allB_step (f := frmB p s.heap.length) hlt hnn.out h)
      have hno2 := fun h => hno1 (.inr (.inl (allB_no (f := frmB p s.heap.length) hlt h)))
      clear hf hnn
      generalize s.frames[j2] = f at *
      have HF := fun W (hW : Fr No wr W) => frame_ok X l bl (n + j2) p f [.int .i64 f.of_.of_.keeper, .string f.of_.of_.name, .int .i64 f.of_.at_, .int .i64 f.pc, .slice Al f.locals.length cl, .slice As f.stack.length cs] s.heap.length W (hLq.keep hW) ⟨_, _, rfl, z0, hl1.keep hW (fun _ h => h.elim) (fun _ _ _ h => h), hs1.keep hW (fun _ h => h.elim) (fun _ _ _ h => h)⟩ hX hwf9 (by omega)
      unfold LgPost at HF
      obtain ⟨y0, y1, y2, y3, y4, y5, yl⟩ := KB wr hq
      have hwq := hq.size
      clear hl1 hs1
      cases hx : frmB p s.heap.length f
      ·have hE := hno2 hx
       rw [hx] at HF
       clear hx hy hno2 hno1 hyes
       go_wp2_with (go_at_call 41; refine (HF _ frc).mono ?_; rintro e w1 ⟨rfl, hf1, hL1⟩)
       go_ret
       exact hend _ (j2 + 1) _ ⟨(hq.trans0 frc).same hf1, hL1⟩ (by omega) hE.out.symm
      ·have hy := hy hx
       rw [hx] at HF
       clear hx hno2 hno1 hyes
       go_wp2_with (go_at_call 41; refine (HF _ frc).mono ?_; rintro e w1 ⟨rfl, hf1, hL1⟩)
       go_roundw
       case rel => exact ⟨j2 + 1, by omega, by go_num, hy, (hq.trans0 frc).same hf1, hL1⟩
       case measure => simp [intOf]; omega
     ·have h8 : s.frames.all (frmB p s.heap.length) = true := allB_yes (by omega) hnn.out
      have hyes := fun h9 h10 => hyes h8 h9 h10
      obtain ⟨y0, y1, y2, y3, y4, y5, yl⟩ := KB wr hq
      have HHp := heap_ok X l bl (n + j2) p _ s.heap wr hLq (hh.keep (R' := ObjC X wr) hq (fun b hb => hb ▸ hX) (fun _ _ _ h => h.keep hq (fun b hb => hb ▸ hX))) hX hwf (by omega)
      unfold LgPost at HHp
      have HV := fun W => value_ok s.back (s.heap.length : Int) W
      have hwq := hq.size
      clear h8 hnn hf hh
      cases g9 : heapB p s.heap
      ·have hE := hno1 (.inr (.inr (.inl g9)))
       rw [g9] at HHp
       clear hno1 hyes g9
       go_wp2_with (go_at_call 42; refine HHp.mono ?_; rintro e w1 ⟨rfl, hf1, hL1⟩)
       go_ret
       exact hend _ (j2 + 24) _ ⟨hq.same hf1, hL1⟩ (by omega) hE.out.symm
      ·rw [g9] at HHp
       go_wp2_with fail
       refine HHp.mono ?_
       rintro e w1 ⟨rfl, hf1, hL1⟩
       obtain ⟨x0, x1, x2, x3, x4, x5, xl⟩ := KB w1 (hq.same hf1)
       clear y0 y1 y2 y3 y4 y5 yl
       cases g10 : valB s.heap.length s.back
       ·have hE := hno1 (.inr (.inr (.inr g10)))
        rw [g10] at HV
        clear hno1 hyes g9 g10
        go_wp2_with (go_at_call 43; refine (HV _).mono ?_; rintro e w2 ⟨rfl, hf2⟩)
        go_ret
        exact hend _ (j2 + 24) _ ⟨(hq.same hf1).trans0 hf2, hL1.keep hf2⟩ (by omega) hE.out.symm
       ·have hE := hyes g9 g10
        rw [g10] at HV
        clear hno1 hyes g9 g10
        go_wp2_with (go_at_call 43; refine (HV _).mono ?_; rintro e w2 ⟨rfl, hf2⟩)
        go_ret
        exact hend _ (j2 + 24) _ ⟨(hq.same hf1).trans0 hf2, hL1.keep hf2⟩ (by omega) hE.out.symm
 ·have hyes := fun h7 h8 h9 h10 => hyes (by omega) h7 h8 h9 h10
  have hb1 : decide (0 < s.frames.length) = false := decide_eq_false (by omega)
  have hb2 : (s.status == 1) = false := by simpa using g7
  replace g6 := Lib.hid g6
  replace g7 := Lib.hid g7
  have hno1 := fun g => hno0 (.inr (.inr (.inr (.inr (.inr (.inr (.inr g)))))))
  clear hno0 hV
  obtain ⟨y0, y1, y2, y3, y4, y5⟩ := B0.c6
  go_enter Tryz.func24, Tryz.ntmps24
  go_wp2_with fail
  rw [← hwA]
  replace hwA := Lib.hid hwA
  clear y0 y1 y2 y3 y4 y5
  go_loopw [44] (fun i wr => ∃ j : Nat, j ≤ s.outs.length ∧ i = .int .i64 j ∧ Hid ((s.outs.take j).all numB = true) ∧ Fr No wA wr) (fun i _ => s.outs.length - (intOf i).toNat)
  case atStart => exact ⟨0, Nat.zero_le _, rfl, by simp [Hid], Fr.refl _ _⟩
  case round =>
   obtain ⟨j, hj, rfl, hnn, hf9⟩ := hrel
   by_cases hlt : j < s.outs.length
   ·obtain ⟨b, bf, rfl, _, c0⟩ := (ho.keep (R' := OutC) hf9 (fun _ h => h.elim) (fun _ _ _ h => h)).num hlt
    have HN := fun W => num_ok s.outs[j] W
    have hy := fun h => Lib.hid (allB_step (f := numB) hlt hnn.out h)
    have hno2 := fun h => hno1 (.inl (allB_no (f := numB) hlt h))
    clear ho hnn
    generalize s.outs[j] = x at *
    cases hx : numB x
    ·have hE := hno2 hx
     rw [hx] at HN
     clear hx hy hno2 hno1 hyes
     go_wp2_with (go_at_call 22; refine (HN _).mono ?_; rintro e w1 ⟨rfl, hf1⟩)
     go_ret
     exact hend _ 0 _ ⟨(hf9.trans0 hf1).of0, hLA.keep (hf9.trans0 hf1)⟩ (by omega) hE.out.symm
    ·have hy := hy hx
     rw [hx] at HN
     clear hx hno2 hno1 hyes
     go_wp2_with (go_at_call 22; refine (HN _).mono ?_; rintro e w1 ⟨rfl, hf1⟩)
     go_roundw
     case rel => exact ⟨j + 1, by omega, by go_num, hy, hf9.trans0 hf1⟩
     case measure => simp [intOf]; omega
   ·have h7 : s.outs.all numB = true := allB_yes (by omega) hnn.out
    have hyes := fun h8 h9 h10 => hyes h7 h8 h9 h10
    clear h7 hnn ho
    obtain ⟨y0, y1, y2, y3, y4, y5, yl⟩ := KB wr hf9.of0
    go_wp2_with fail
    clear y0 y1 y2 y3 y4 y5 yl
    have hL9 := hLA.keep hf9
    go_loopw [55] (fun i wq => ∃ j : Nat, j ≤ s.frames.length ∧ i = .int .i64 j ∧ Hid ((s.frames.take j).all (frmB p s.heap.length) = true) ∧ GotJ p l bl n wA j wq) (fun i _ => s.frames.length - (intOf i).toNat)
    case atStart => exact ⟨0, Nat.zero_le _, rfl, by simp [Hid], hf9.of0, hL9⟩
    case round =>
     obtain ⟨j2, hj2, rfl, hnn, hq, hLq⟩ := hrel
     by_cases hlt : j2 < s.frames.length
     ·obtain ⟨b, bf, Al, cl, As, cs, rfl, _, c0, c1, c2, c3, c4, c5, z0, hl1, hs1, _, hll, _, hsl⟩ := (hf.keep (R' := CalC X wr) hq (fun b hb => hb ▸ hX) (fun _ _ _ h => h.keep hq (fun b hb => hb ▸ hX))).cal hlt
      have hwf9 := hwg _ (List.getElem_mem hlt)
      have hy := fun h => Lib.hid (allB_step (f := frmB p s.heap.length) hlt hnn.out h)
      have hno2 := fun h => hno1 (.inr (.inl (allB_no (f := frmB p s.heap.length) hlt h)))
      clear hf hnn
      generalize s.frames[j2] = f at *
      have HF := fun W (hW : Fr No wr W) => frame_ok X l bl (n + j2) p f [.int .i64 f.of_.of_.keeper, .string f.of_.of_.name, .int .i64 f.of_.at_, .int .i64 f.pc, .slice Al f.locals.length cl, .slice As f.stack.length cs] s.heap.length W (hLq.keep hW) ⟨_, _, rfl, z0, hl1.keep hW (fun _ h => h.elim) (fun _ _ _ h => h), hs1.keep hW (fun _ h => h.elim) (fun _ _ _ h => h)⟩ hX hwf9 (by omega)
      unfold LgPost at HF
      obtain ⟨y0, y1, y2, y3, y4, y5, yl⟩ := KB wr hq
      have hwq := hq.size
      clear hl1 hs1
      cases hx : frmB p s.heap.length f
      ·have hE := hno2 hx
       rw [hx] at HF
       clear hx hy hno2 hno1 hyes
       go_wp2_with (go_at_call 41; refine (HF _ frc).mono ?_; rintro e w1 ⟨rfl, hf1, hL1⟩)
       go_ret
       exact hend _ (j2 + 1) _ ⟨(hq.trans0 frc).same hf1, hL1⟩ (by omega) hE.out.symm
      ·have hy := hy hx
       rw [hx] at HF
       clear hx hno2 hno1 hyes
       go_wp2_with (go_at_call 41; refine (HF _ frc).mono ?_; rintro e w1 ⟨rfl, hf1, hL1⟩)
       go_roundw
       case rel => exact ⟨j2 + 1, by omega, by go_num, hy, (hq.trans0 frc).same hf1, hL1⟩
       case measure => simp [intOf]; omega
     ·have h8 : s.frames.all (frmB p s.heap.length) = true := allB_yes (by omega) hnn.out
      have hyes := fun h9 h10 => hyes h8 h9 h10
      obtain ⟨y0, y1, y2, y3, y4, y5, yl⟩ := KB wr hq
      have HHp := heap_ok X l bl (n + j2) p _ s.heap wr hLq (hh.keep (R' := ObjC X wr) hq (fun b hb => hb ▸ hX) (fun _ _ _ h => h.keep hq (fun b hb => hb ▸ hX))) hX hwf (by omega)
      unfold LgPost at HHp
      have HV := fun W => value_ok s.back (s.heap.length : Int) W
      have hwq := hq.size
      clear h8 hnn hf hh
      cases g9 : heapB p s.heap
      ·have hE := hno1 (.inr (.inr (.inl g9)))
       rw [g9] at HHp
       clear hno1 hyes g9
       go_wp2_with (go_at_call 42; refine HHp.mono ?_; rintro e w1 ⟨rfl, hf1, hL1⟩)
       go_ret
       exact hend _ (j2 + 24) _ ⟨hq.same hf1, hL1⟩ (by omega) hE.out.symm
      ·rw [g9] at HHp
       go_wp2_with fail
       refine HHp.mono ?_
       rintro e w1 ⟨rfl, hf1, hL1⟩
       obtain ⟨x0, x1, x2, x3, x4, x5, xl⟩ := KB w1 (hq.same hf1)
       clear y0 y1 y2 y3 y4 y5 yl
       cases g10 : valB s.heap.length s.back
       ·have hE := hno1 (.inr (.inr (.inr g10)))
        rw [g10] at HV
        clear hno1 hyes g9 g10
        go_wp2_with (go_at_call 43; refine (HV _).mono ?_; rintro e w2 ⟨rfl, hf2⟩)
        go_ret
        exact hend _ (j2 + 24) _ ⟨(hq.same hf1).trans0 hf2, hL1.keep hf2⟩ (by omega) hE.out.symm
       ·have hE := hyes g9 g10
        rw [g10] at HV
        clear hno1 hyes g9 g10
        go_wp2_with (go_at_call 43; refine (HV _).mono ?_; rintro e w2 ⟨rfl, hf2⟩)
        go_ret
        exact hend _ (j2 + 24) _ ⟨(hq.same hf1).trans0 hf2, hL1.keep hf2⟩ (by omega) hE.out.symm

end Go.Proofs.YtbalicnnlfennaaGreat
