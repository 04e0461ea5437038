/- The program's verifier: what a method's look hands back (look, and what it defers). -/
import Derived.Test.YtbalicnnlfennaaGreatG41
import Derived.Defers
import Derived.Recover
namespace Go.Proofs.YtbalicnnlfennaaGreat
open Go.RowKit

abbrev tFrms : TypeId := 50
abbrev tI64 : TypeId := 3
def LrC (b4 b5 : Nat) (w : World) (W : World) : Prop := Fr (fun b => b = b4 ∨ b = b5) w W ∧ (∃ u, Bx W b4 tFrms #[u]) ∧ ∃ u, Bx W b5 tI64 #[u]
def LrS (b4 b5 : Nat) (x : Int) (W W' : World) : Prop := (Bx W b4 tFrms #[.slice none 0 0] → Bx W' b4 tFrms #[.slice none 0 0]) ∧ (Bx W b5 tI64 #[.int .i64 x] → Bx W' b5 tI64 #[.int .i64 x])
def atK (b : Nat) (t : TypeId) (u : Value) : Value → World → Prop := fun v W => v = undef ∧ Bx W b t #[u]
theorem atK_mono (b : Nat) (t : TypeId) (u : Value) : MonP (atK b t u) := fun _ _ _ ⟨h1, h2⟩ hf => ⟨h1, h2.keep hf⟩

set_option maxRecDepth 100000 in
set_option maxHeartbeats 2000000 in
theorem lookD_idle (p q : Addr) (w : World) :
    CallsD Tryz.prog 66 #[.pointer (some p), .pointer (some q)] .returning w fun e u' w' => e = .returned (.tuple #[]) ∧ u' = .returning ∧ w' = w := by
  refine callsD_of_wpS Tryz.func66 rfl fun c₀ cs hu => ?_
  apply wpS_seq
  apply wpS_region
  simp [wpOpsS, go_sem, recoverD, hu, Tryz.ntmps66, Exit.thenS]
  apply wpS_of_wp
  go_wp2
  exact ⟨rfl, .returning, by cases c₀; simp_all, .tuple #[], by simp [results, Tryz.results66], rfl, rfl, rfl⟩

theorem frdrew {X : Nat → Prop} {w : World} : Fr X w w.drew := (Fr.refl X w).drew
theorem lr4 {b4 b5 : Nat} {w W : World} {x : Int} {u4 u5 : Value} (hne : b4 ≠ b5) (h : LrC b4 b5 w W) (g4 : Bx W b4 tFrms #[u4]) (g5 : Bx W b5 tI64 #[u5]) : LrC b4 b5 w (W.setCell ⟨b4, 0, none⟩ (.slice none 0 0)) ∧ LrS b4 b5 x W (W.setCell ⟨b4, 0, none⟩ (.slice none 0 0)) ∧ atK b4 tFrms (.slice none 0 0) undef (W.setCell ⟨b4, 0, none⟩ (.slice none 0 0)) :=
  ⟨⟨h.1.setCellX (p := ⟨b4, 0, none⟩) (.inl rfl) _, ⟨_, g4.setc rfl⟩, ⟨_, g5.far (p := ⟨b4, 0, none⟩) (fun e => hne e.symm) _⟩⟩, ⟨fun _ => g4.setc rfl, fun h5 => h5.far (p := ⟨b4, 0, none⟩) (fun e => hne e.symm) _⟩, rfl, g4.setc rfl⟩
theorem lr5 {b4 b5 : Nat} {w W : World} {x : Int} {u4 u5 : Value} (hne : b4 ≠ b5) (h : LrC b4 b5 w W) (g4 : Bx W b4 tFrms #[u4]) (g5 : Bx W b5 tI64 #[u5]) : LrC b4 b5 w (W.setCell ⟨b5, 0, none⟩ (.int .i64 x)) ∧ LrS b4 b5 x W (W.setCell ⟨b5, 0, none⟩ (.int .i64 x)) ∧ atK b5 tI64 (.int .i64 x) undef (W.setCell ⟨b5, 0, none⟩ (.int .i64 x)) :=
  ⟨⟨h.1.setCellX (p := ⟨b5, 0, none⟩) (.inr rfl) _, ⟨_, g4.far (p := ⟨b5, 0, none⟩) hne _⟩, ⟨_, g5.setc rfl⟩⟩, ⟨fun h4 => h4.far (p := ⟨b5, 0, none⟩) hne _, fun _ => g5.setc rfl⟩, rfl, g5.setc rfl⟩
theorem assertW (v : Value) (xT : TypeId) (W : World) : (Instr.typeAssert (.iface 129 v) xT 129 true).run Tryz.prog W = .ok (.tuple #[v, .bool true]) W := by kernel_rfl

set_option maxRecDepth 100000 in
set_option maxHeartbeats 4000000 in
theorem lookD_wrong (b4 b5 : Nat) (hne : b4 ≠ b5) (x : Int) (u4 u5 : Value) (w : World) (h4 : Bx w b4 tFrms #[u4]) (h5 : Bx w b5 tI64 #[u5]) :
    CallsD Tryz.prog 66 #[.pointer (some ⟨b4, 0, none⟩), .pointer (some ⟨b5, 0, none⟩)] (.panicking [{ v := .iface 129 (.agg #[.int .i64 x]), recovered := false }]) w fun e u' w' =>
      e = .returned (.tuple #[]) ∧ u' = .panicking [{ v := .iface 129 (.agg #[.int .i64 x]), recovered := true }] ∧ Bx w' b4 tFrms #[.slice none 0 0] ∧ Bx w' b5 tI64 #[.int .i64 x] ∧ Fr (fun b => b = b4 ∨ b = b5) w w' := by
  refine callsD_of_wpS Tryz.func66 rfl fun c₀ cs hu => ?_
  apply wpS_seq
  apply wpS_region
  simp [wpOpsS, go_sem, recoverD, hu, Tryz.ntmps66, Exit.thenS, Array.replicate_succ]
  apply wpS_of_wp
  have hta := assertW
  have hl4 := h4.lt
  have hl5 := h5.lt
  go_wp2_with fail
  refine wp_world (fun W => Bx W w.heap.size 129 #[.int .i64 x] ∧ Fr No w W) ⟨bxc, frc⟩ ?_
  rintro W1 ⟨hB, hf1⟩
  have hG : ∀ (m : Nat) W, LrC b4 b5 W1 W → LrC b4 b5 W1 W := fun _ _ h => h
  have hGs : ∀ W, LrC b4 b5 W1 W → W1.heap.size ≤ W.heap.size := fun W h => h.1.size
  have hwl := hf1.size
  have KB : ∀ W, LrC b4 b5 W1 W → W.cell? ⟨w.heap.size, 0, none⟩ = some (.int .i64 x) ∧ W.frozen? ⟨w.heap.size, 0, none⟩ = false ∧ w.heap.size < W.heap.size := fun W h => by
    have hB2 := hB.keepX h.1 (by omega)
    exact ⟨hB2.cell 0, hB2.frozen 0, hB2.lt⟩
  refine wp_region_allL [isV (.pointer (some ⟨w.heap.size, 0, none⟩)), isV (.int .i64 x), atK b4 tFrms (.slice none 0 0), atK b5 tI64 (.int .i64 x)] [false, false, true, true] [true, true, true, true] 2 (fun _ W => LrC b4 b5 W1 W) (LrS b4 b5 x) (by kernel_rfl) (by kernel_rfl) ?_ ?_ ?_ ?_ ?_ (by decide) ?_ ?_ ?_ ?_ ?_
  · intro o ho d hd; simp only [List.mem_cons, List.not_mem_nil, or_false] at ho; rcases ho with rfl | rfl | rfl | rfl <;> (cases hd <;> simp)
  · intro x hx
    simp only [List.mem_cons, List.not_mem_nil, or_false] at hx
    rcases hx with rfl | rfl | rfl | rfl
    · exact isV_mono _
    · exact isV_mono _
    · exact atK_mono _ _ _
    · exact atK_mono _ _ _
  · intro x hx v W W' h hs
    simp only [List.mem_cons, List.not_mem_nil, or_false] at hx
    rcases hx with rfl | rfl | rfl | rfl
    · exact h
    · exact h
    · exact ⟨h.1, hs.1 h.2⟩
    · exact ⟨h.1, hs.2 h.2⟩
  · exact fun j W W' h hf => ⟨h.1.trans0 hf, h.2.1.elim (fun u h => ⟨u, h.keep hf⟩), h.2.2.elim (fun u h => ⟨u, h.keep hf⟩)⟩
  · intro k o ho
    rcases k with _ | _ | _ | _ | k
    all_goals (first | (simp at ho; done) | skip)
    all_goals simp only [List.getElem?_cons_zero, List.getElem?_cons_succ, Option.some.injEq] at ho
    all_goals subst ho
    all_goals refine ⟨fun h => ?_, fun g b h v W hv => ?_⟩
    all_goals first | rfl | (cases h; done) | (cases h; obtain rfl : v = Value.bool _ := hv; rfl) | (cases h; obtain rfl : v = undef := hv; rfl)
  · intro k hk h W; exfalso; revert h; revert hk; revert k; decide
  · exact ⟨frdrew, ⟨_, (h4.keep hf1).keep frdrew⟩, ⟨_, (h5.keep hf1).keep frdrew⟩⟩
  · intro k o ho hu hg a' W jc hjc hW0 hoff hdep
    have hW := hG jc _ hW0
    have hbs := hGs _ hW
    have H3 := hoff 3 (by simp)
    have H0 := hoff 0 (by simp)
    have H1 := hoff 1 (by simp)
    simp only [Act.eval] at H3 H0 H1
    rcases k with _ | _ | _ | _ | k
    all_goals (first | (simp at ho; done) | skip)
    all_goals (first | (exact absurd hu (by decide)) | skip)
    all_goals (first | (exact absurd hg (by decide)) | skip)
    all_goals simp only [List.getElem?_cons_zero, List.getElem?_cons_succ, Option.some.injEq] at ho
    all_goals subst ho
    · unfold opGives
      simp [execOp, Act.eval, H3, go_sem, givesUpon]
      exact ⟨Fr.refl _ _, rfl⟩
    · have D16 : a'.eval (.tmp 16) = .pointer (some ⟨w.heap.size, 0, none⟩) := hdep ⟨0, .data⟩ (by simp) rfl _ 16 rfl rfl
      simp only [Act.eval] at D16
      unfold opGives
      simp [execOp, Act.eval, go_sem, givesUpon, *]
      exact ⟨Fr.refl _ _, rfl⟩
  · intro k o ho hu a' W jc hjc hW0 hoff hdep
    have hW := hG jc _ hW0
    have hbs := hGs _ hW
    have H3 := hoff 3 (by simp)
    have H0 := hoff 0 (by simp)
    have H1 := hoff 1 (by simp)
    simp only [Act.eval] at H3 H0 H1
    rcases k with _ | _ | _ | _ | k
    all_goals (first | (simp at ho; done) | skip)
    all_goals (first | (exact absurd hu (by decide)) | skip)
    all_goals simp only [List.getElem?_cons_zero, List.getElem?_cons_succ, Option.some.injEq] at ho
    all_goals subst ho
    · obtain ⟨⟨u4', g4⟩, u5', g5⟩ := hW.2; have c4 : W.cell? ⟨b4, 0, none⟩ = some u4' := g4.cell 0; have f4 := g4.frozen 0
      unfold opGives
      simp [execOp, Act.eval, go_sem, givesUpon, *]
      exact lr4 hne hW g4 g5
    · have D17 : a'.eval (.tmp 17) = .int .i64 x := hdep ⟨1, .data⟩ (by simp) rfl _ 17 rfl rfl
      simp only [Act.eval] at D17
      obtain ⟨⟨u4', g4⟩, u5', g5⟩ := hW.2; have c5 : W.cell? ⟨b5, 0, none⟩ = some u5' := g5.cell 0; have f5 := g5.frozen 0
      unfold opGives
      simp [execOp, Act.eval, go_sem, givesUpon, *]
      exact lr5 hne hW g4 g5
  intro vs WR hWR hv
  have e0 : vs 0 = _ := hv 0 (by decide)
  have e1 : vs 1 = _ := hv 1 (by decide)
  obtain ⟨e2, hR2⟩ := hv 2 (by decide)
  obtain ⟨e3, hR3⟩ := hv 3 (by decide)
  simp only [putsL, if_true, Nat.zero_add, Nat.reduceAdd, e0, e1, e2, e3]
  simp only [Act.put, List.setIfInBounds_toArray, List.set_cons_zero, List.set_cons_succ]
  clear e0 e1 e2 e3 hv
  refine ⟨rfl, .panicking [{ v := .iface 129 (.agg #[.int .i64 x]), recovered := true }], rfl, .tuple #[], by simp [results, Tryz.results66], rfl, rfl, hR2, hR3, ?_⟩
  exact hf1.of0.same hWR.1
end Go.Proofs.YtbalicnnlfennaaGreat
