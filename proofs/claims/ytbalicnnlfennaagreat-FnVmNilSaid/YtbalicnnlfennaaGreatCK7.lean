/- The program's own machine: a new thing on the stack. -/
import Derived.Test.YtbalicnnlfennaaGreatCK6
namespace Go.Proofs.YtbalicnnlfennaaGreat
open Go.RowKit

theorem classM_some {p : Plan} (hp : lodB p = true) {k : Int} {s : Str} {r : Ref} (h : classM p k s = some r) : r.name = s ∧ (Lit.int .i64 r.keeper).wf = true ∧ canB p r = true := by
 unfold classM at h
 split at h
 ·rename_i h1
  obtain ⟨kc, i, pre, hq, hh, _⟩ := findK_here hp h1
  rw [hq] at h
  split at h
  ·rename_i h2
   cases h
   exact ⟨rfl, wf_small (by simp) (by have := hh.2.1; have := lodB_len hp; simp; omega), h2⟩
  ·cases h
 ·cases h

theorem some_or {q r : Ref} (h : some q = none ∨ some q = some r) : q = r := by
 rcases h with h9 | h9
 ·cases h9
 ·exact Option.some.inj h9

set_option maxRecDepth 100000 in
set_option maxHeartbeats 4000000 in
theorem doNew_ok (K : McP) (E : McE K) (n : Nat) (s : St) (fs : List Cal) (f : Cal) (m : MLay) (ks : List KC) (k : KC) (w : World) (h : McT K n s fs f m ks k w) (hst : f.stack.length ≤ 100) (h0 : 0 ≤ f.pc) (h1 : f.pc < 1000) (hhl : s.heap.length ≤ 12) (hn : n < 980000) (i : Ins) (hnm : i.name.size ≤ maxLen) (hL : ∀ r, classM K.p f.of_.of_.keeper i.name = some r → (layB K.p r).length ≤ 1000) :
  Calls Tryz.prog 52 #[.pointer (some ⟨K.mb, 0, none⟩), insV i] w (OpPost K (n + 3) (match classM K.p f.of_.of_.keeper i.name with
   | none => s.ends 4
   | some r => if 12 ≤ s.heap.length then s.ends 8 else putM K.p (s.withHeap (s.heap ++ [⟨r, newVals K.p r⟩])) fs f ⟨2, s.heap.length⟩) m w) := by
 obtain ⟨op, ia, nm, mbr⟩ := i
 dsimp only at *
 have HC := fun W (hW : Fr No w W) => mclass_ok K E n s fs f m ks k W (h.keep E hW) nm hnm (by omega)
 unfold ClassPost at HC
 have hp := E.ok
 have hZ := fun b (hb : b ∈ mcB K m) => h.st.lt hb
 have hbl := E.bl_lt
 have hw0 := h.st.anchor.size
 cases hcm : classM K.p f.of_.of_.keeper nm with
 | none =>
  rw [hcm] at HC
  dsimp only [Option.isSome] at HC ⊢
  go_enter Tryz.func52, Tryz.ntmps52
  go_wp2_with (go_at_call 85; refine (HC _ frc).mono ?_; rintro e w3 ⟨⟨r, rfl, _⟩, hl3, hf3⟩)
  go_ret
  have hfB : Fr No w (w.alloc (.cells #[.int .i64 op, .int .i64 ia, .string nm, .string mbr] 27)) := frc
  have hT3 := (h.keep E hfB).lodge E hl3 hf3
  exact ⟨rfl, ((OpOk.lg hf3 ((hT3.ends 4 (by decide) (Fr.refl No w3)).to E frc)).from hfB).mono (by omega)⟩
 | some q =>
  rw [hcm] at HC
  dsimp only [Option.isSome] at HC ⊢
  obtain ⟨hqn, wk, _⟩ := classM_some hp hcm
  have hqs : q.name.size ≤ maxLen := by rw [hqn]; exact hnm
  clear hqn
  have hLq := hL q hcm
  clear hL hcm
  obtain ⟨Ah, ch, hvh, hh1, hh2⟩ := h.st.hrow.form
  unfold maxLen at hh2
  have KMw := fun {n' : Nat} {W : World} (hT : McT K n' s fs f m ks k W) => hT.st.cells W (Fr.refl _ _)
  rw [hvh] at KMw
  by_cases hl : 12 ≤ s.heap.length
  ·rw [if_pos hl]
   go_enter Tryz.func52, Tryz.ntmps52
   have hfB : Fr No w (w.alloc (.cells #[.int .i64 op, .int .i64 ia, .string nm, .string mbr] 27)) := frc
   replace hvh := Lib.hid hvh
   go_wp2_with (go_at_call 85; refine (HC _ hfB).mono ?_; rintro e w3 ⟨⟨r, rfl, hr⟩, hl3, hf3⟩; have hT3 := (h.keep E hfB).lodge E hl3 hf3; obtain ⟨_, _, _, _, z4, _, _, _, zf, zl⟩ := KMw hT3; replace hT3 := Lib.hid hT3; replace hr := Lib.hid hr)
   go_ret
   exact ⟨rfl, ((OpOk.lg hf3 ((hT3.out.ends 8 (by decide) (Fr.refl No w3)).to E frc)).from hfB).mono (by omega)⟩
  ·rw [if_neg hl]
   go_enter Tryz.func52, Tryz.ntmps52
   have hfB : Fr No w (w.alloc (.cells #[.int .i64 op, .int .i64 ia, .string nm, .string mbr] 27)) := frc
   replace hvh := Lib.hid hvh
   go_wp2_with (first
    | (go_at_call 85; refine (HC _ hfB).mono ?_; rintro e w3 ⟨⟨r, rfl, hr⟩, hl3, hf3⟩; obtain rfl := some_or hr; have hT3 := (h.keep E hfB).lodge E hl3 hf3; obtain ⟨_, _, _, _, z4, _, _, _, zf, zl⟩ := KMw hT3; replace hT3 := Lib.hid hT3; replace hr := Lib.hid hr)
    | (go_at_call 37; have HCr := fun W (hW : Fr No w3 W) => create_ok K E (n + 2) s m W (hT3.out.st.keep E hW) q hqs wk (by omega) (by omega) hLq; have hfC : Fr No w3 (w3.alloc (.cells #[.int .i64 q.keeper, .string q.name] 54)) := (Fr.refl No w3).alloc _; refine (HCr _ hfC).mono ?_; rintro e w4 ⟨rfl, m4, hS4, hk4, hB4, hf4⟩)
    | (go_at_call 81; refine (mput_ok K E (n + 3) _ fs f m4 ks k _ ⟨hS4, hT3.out.fr, hk4.trans hT3.out.kc, hT3.out.go⟩ hst h0 h1 ⟨2, s.heap.length⟩).mono ?_; rintro e w5 ⟨rfl, hO⟩))
   go_ret
   exact ⟨rfl, (OpOk.lg hf3 ((hO.then hB4 hf4).from hfC)).from hfB⟩
end Go.Proofs.YtbalicnnlfennaaGreat
