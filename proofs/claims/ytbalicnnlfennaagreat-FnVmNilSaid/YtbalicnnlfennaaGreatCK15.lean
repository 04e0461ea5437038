/- The program's verifier: what a method's look hands back (look, and what it defers). -/
import Derived.Test.YtbalicnnlfennaaGreatCK14
import Derived.Defers
import Derived.Recover
namespace Go.Proofs.YtbalicnnlfennaaGreat
open Go.RowKit

abbrev tFrms : TypeId := 50
abbrev tI64 : TypeId := 3
def LrC (b4 b5 : Nat) (w : World) (W : World) : Prop := Fr (fun b => b = b4 ∨ b = b5) w W ∧ (∃ u, Bx W b4 tFrms #[u]) ∧ ∃ u, Bx W b5 tI64 #[u]
def LrS (b4 b5 : Nat) (x : Int) (W W' : World) : Prop := (Bx W b4 tFrms #[.slice none 0 0] → Bx W' b4 tFrms #[.slice none 0 0]) ∧ (Bx W b5 tI64 #[.int .i64 x] → Bx W' b5 tI64 #[.int .i64 x])
def atK (b : Nat) (t : TypeId) (u : Value) : Value → World → Prop := fun v W => v = undef ∧ Bx W b t #[u]
theorem atK_mono (b : Nat) (t : TypeId) (u : Value) : MonP (atK b t u) := fun _ _ _ ⟨h1, h2⟩ hf => ⟨h1, h2.keep hf⟩

set_option maxRecDepth 100000 in
set_option maxHeartbeats 2000000 in
theorem lookD_idle (p q : Addr) (w : World) :
  CallsD Tryz.prog 66 #[.pointer (some p), .pointer (some q)] .returning w fun e u' w' => e = .returned (.tuple #[]) ∧ u' = .returning ∧ w' = w := by
 refine callsD_of_wpS Tryz.func66 rfl fun c₀ cs hu => ?_
 apply wpS_seq
 apply wpS_region
 simp [wpOpsS, go_sem, recoverD, hu, Tryz.ntmps66, Exit.thenS]
 apply wpS_of_wp
 go_wp2
 exact ⟨rfl, .returning, by cases c₀; simp_all, .tuple #[], by simp [results, Tryz.results66], rfl, rfl, rfl⟩

theorem frdrew {X : Nat → Prop} {w : World} : Fr X w w.drew := (Fr.refl X w).drew
theorem lr4 {b4 b5 : Nat} {w W : World} {x : Int} {u4 u5 : Value} (hne : b4 ≠ b5) (h : LrC b4 b5 w W) (g4 : Bx W b4 tFrms #[u4]) (g5 : Bx W b5 tI64 #[u5]) : LrC b4 b5 w (W.setCell ⟨b4, 0, none⟩ (.slice none 0 0)) ∧ LrS b4 b5 x W (W.setCell ⟨b4, 0, none⟩ (.slice none 0 0)) ∧ atK b4 tFrms (.slice none 0 0) undef (W.setCell ⟨b4, 0, none⟩ (.slice none 0 0)) :=
 ⟨⟨h.1.setCellX (p := ⟨b4, 0, none⟩) (.inl rfl) _, ⟨_, g4.setc rfl⟩, ⟨_, g5.far (p := ⟨b4, 0, none⟩) (fun e => hne e.symm) _⟩⟩, ⟨fun _ => g4.setc rfl, fun h5 => h5.far (p := ⟨b4, 0, none⟩) (fun e => hne e.symm) _⟩, rfl, g4.setc rfl⟩
theorem lr5 {b4 b5 : Nat} {w W : World} {x : Int} {u4 u5 : Value} (hne : b4 ≠ b5) (h : LrC b4 b5 w W) (g4 : Bx W b4 tFrms #[u4]) (g5 : Bx W b5 tI64 #[u5]) : LrC b4 b5 w (W.setCell ⟨b5, 0, none⟩ (.int .i64 x)) ∧ LrS b4 b5 x W (W.setCell ⟨b5, 0, none⟩ (.int .i64 x)) ∧ atK b5 tI64 (.int .i64 x) undef (W.setCell ⟨b5, 0, none⟩ (.int .i64 x)) :=
 ⟨⟨h.1.setCellX (p := ⟨b5, 0, none⟩) (.inr rfl) _, ⟨_, g4.far (p := ⟨b5, 0, none⟩) hne _⟩, ⟨_, g5.setc rfl⟩⟩, ⟨fun h4 => h4.far (p := ⟨b5, 0, none⟩) hne _, fun _ => g5.setc rfl⟩, rfl, g5.setc rfl⟩
theorem assertW (v : Value) (xT : TypeId) (W : World) : (Instr.typeAssert (.iface 129 v) xT 129 true).run Tryz.prog W = .ok (.tuple #[v, .bool true]) W := by kernel_rfl

set_option maxRecDepth 100000 in
set_option maxHeartbeats 4000000 in
theorem lookD_wrong (b4 b5 : Nat) (hne : b4 ≠ b5) (x : Int) (u4 u5 : Value) (w : World) (h4 : Bx w b4 tFrms #[u4]) (h5 : Bx w b5 tI64 #[u5]) :
  CallsD Tryz.prog 66 #[.pointer (some ⟨b4, 0, none⟩), .pointer (some ⟨b5, 0, none⟩)] (.panicking [{ v := .iface 129 (.agg #[.int .i64 x]), recovered := false }]) w fun e u' w' =>
   e = .returned (.tuple #[]) ∧ u' = .panicking [{ v := .iface 129 (.agg #[.int .i64 x]), recovered := true }] ∧ Bx w' b4 tFrms #[.slice none 0 0] ∧ Bx w' b5 tI64 #[.int .i64 x] ∧ Fr (fun b => b = b4 ∨ b = b5) w w' := by
 refine callsD_of_wpS Tryz.func66 rfl fun c₀ cs hu => ?_
 apply wpS_seq
 apply wpS_region
 simp [wpOpsS, go_sem, recoverD, hu, Tryz.ntmps66, Exit.thenS, Array.replicate_succ]
 apply wpS_of_wp
 have hta := assertW
 have hl4 := h4.lt
 have hl5 := h5.lt
 go_wp2_with fail
 refine wp_world (fun W => Bx W w.heap.size 129 #[.int .i64 x] ∧ Fr No w W) ⟨bxc, frc⟩ ?_
 rintro W1 ⟨hB, hf1⟩
 have hG : ∀ (m : Nat) W, LrC b4 b5 W1 W → LrC b4 b5 W1 W := fun _ _ h => h
 have hGs : ∀ W, LrC b4 b5 W1 W → W1.heap.size ≤ W.heap.size := fun W h => h.1.size
 have hwl := hf1.size
 have KB : ∀ W, LrC b4 b5 W1 W → W.cell? ⟨w.heap.size, 0, none⟩ = some (.int .i64 x) ∧ W.frozen? ⟨w.heap.size, 0, none⟩ = false ∧ w.heap.size < W.heap.size := fun W h => by
  have hB2 := hB.keepX h.1 (by omega)
  exact ⟨hB2.cell 0, hB2.frozen 0, hB2.lt⟩
 refine wp_region_allL [isV (.pointer (some ⟨w.heap.size, 0, none⟩)), isV (.int .i64 x), atK b4 tFrms (.slice none 0 0), atK b5 tI64 (.int .i64 x)] [false, false, true, true] [true, true, true, true] 2 (fun _ W => LrC b4 b5 W1 W) (LrS b4 b5 x) (by kernel_rfl) (by kernel_rfl) ?_ ?_ ?_ ?_ ?_ (by decide) ?_ ?_ ?_ ?_ ?_
 ·intro o ho d hd; simp only [List.mem_cons, List.not_mem_nil, or_false] at ho; rcases ho with rfl | rfl | rfl | rfl <;> (cases hd <;> simp)
 ·intro x hx
  simp only [List.mem_cons, List.not_mem_nil, or_false] at hx
  rcases hx with rfl | rfl | rfl | rfl
  ·exact isV_mono _
  ·exact isV_mono _
  ·exact atK_mono _ _ _
  ·exact atK_mono _ _ _
 ·intro x hx v W W' h hs
  simp only [List.mem_cons, List.not_mem_nil, or_false] at hx
  rcases hx with rfl | rfl | rfl | rfl
  ·exact h
  ·exact h
  ·exact ⟨h.1, hs.1 h.2⟩
  ·exact ⟨h.1, hs.2 h.2⟩
 ·exact fun j W W' h hf => ⟨h.1.trans0 hf, h.2.1.elim (fun u h => ⟨u, h.keep hf⟩), h.2.2.elim (fun u h => ⟨u, h.keep hf⟩)⟩
 ·intro k o ho
  rcases k with _ | _ | _ | _ | k
  all_goals (first | (simp at ho; done) | skip)
  all_goals simp only [List.getElem?_cons_zero, List.getElem?_cons_succ, Option.some.injEq] at ho
  all_goals subst ho
  all_goals refine ⟨fun h => ?_, fun g b h v W hv => ?_⟩
  all_goals first | rfl | (cases h; done) | (cases h; obtain rfl : v = Value.bool _ := hv; rfl) | (cases h; obtain rfl : v = undef := hv; rfl)
 ·intro k hk h W; exfalso; revert h; revert hk; revert k; decide
 ·exact ⟨frdrew, ⟨_, (h4.keep hf1).keep frdrew⟩, ⟨_, (h5.keep hf1).keep frdrew⟩⟩
 ·intro k o ho hu hg a' W jc hjc hW0 hoff hdep
  have hW := hG jc _ hW0
  have hbs := hGs _ hW
  have H3 := hoff 3 (by simp)
  have H0 := hoff 0 (by simp)
  have H1 := hoff 1 (by simp)
  simp only [Act.eval] at H3 H0 H1
  rcases k with _ | _ | _ | _ | k
  all_goals (first | (simp at ho; done) | skip)
  all_goals (first | (exact absurd hu (by decide)) | skip)
  all_goals (first | (exact absurd hg (by decide)) | skip)
  all_goals simp only [List.getElem?_cons_zero, List.getElem?_cons_succ, Option.some.injEq] at ho
  all_goals subst ho
  ·unfold opGives
   simp [execOp, Act.eval, H3, go_sem, givesUpon]
   exact ⟨Fr.refl _ _, rfl⟩
  ·have D16 : a'.eval (.tmp 16) = .pointer (some ⟨w.heap.size, 0, none⟩) := hdep ⟨0, .data⟩ (by simp) rfl _ 16 rfl rfl
   simp only [Act.eval] at D16
   unfold opGives
   simp [execOp, Act.eval, go_sem, givesUpon, *]
   exact ⟨Fr.refl _ _, rfl⟩
 ·intro k o ho hu a' W jc hjc hW0 hoff hdep
  have hW := hG jc _ hW0
  have hbs := hGs _ hW
  have H3 := hoff 3 (by simp)
  have H0 := hoff 0 (by simp)
  have H1 := hoff 1 (by simp)
  simp only [Act.eval] at H3 H0 H1
  rcases k with _ | _ | _ | _ | k
  all_goals (first | (simp at ho; done) | skip)
  all_goals (first | (exact absurd hu (by decide)) | skip)
  all_goals simp only [List.getElem?_cons_zero, List.getElem?_cons_succ, Option.some.injEq] at ho
  all_goals subst ho
  ·obtain ⟨⟨u4', g4⟩, u5', g5⟩ := hW.2; have c4 : W.cell? ⟨b4, 0, none⟩ = some u4' := g4.cell 0; have f4 := g4.frozen 0
   unfold opGives
   simp [execOp, Act.eval, go_sem, givesUpon, *]
   exact lr4 hne hW g4 g5
  ·have D17 : a'.eval (.tmp 17) = .int .i64 x := hdep ⟨1, .data⟩ (by simp) rfl _ 17 rfl rfl
   simp only [Act.eval] at D17
   obtain ⟨⟨u4', g4⟩, u5', g5⟩ := hW.2; have c5 : W.cell? ⟨b5, 0, none⟩ = some u5' := g5.cell 0; have f5 := g5.frozen 0
   unfold opGives
   simp [execOp, Act.eval, go_sem, givesUpon, *]
   exact lr5 hne hW g4 g5
 intro vs WR hWR hv
 have e0 : vs 0 = _ := hv 0 (by decide)
 have e1 : vs 1 = _ := hv 1 (by decide)
 obtain ⟨e2, hR2⟩ := hv 2 (by decide)
 obtain ⟨e3, hR3⟩ := hv 3 (by decide)
 simp only [putsL, if_true, Nat.zero_add, Nat.reduceAdd, e0, e1, e2, e3]
 simp only [Act.put, List.setIfInBounds_toArray, List.set_cons_zero, List.set_cons_succ]
 clear e0 e1 e2 e3 hv
 refine ⟨rfl, .panicking [{ v := .iface 129 (.agg #[.int .i64 x]), recovered := true }], rfl, .tuple #[], by simp [results, Tryz.results66], rfl, rfl, hR2, hR3, ?_⟩
 exact hf1.of0.same hWR.1
end Go.Proofs.YtbalicnnlfennaaGreat

namespace Go.Proofs.YtbalicnnlfennaaGreat
open Go.RowKit

def LookPost (l bl n : Nat) (p : Plan) (r : List Frm × Int) (w : World) (e : Ending) (w' : World) : Prop :=
 ∃ v, e = .returned (.tuple #[v, .int .i64 r.2]) ∧ Frms w' (fun q => w.heap.size ≤ q) v r.1 ∧ Lg w' l bl n p ∧ Fr (fun b => b = bl) w w'
def lkN (m : Mth) : Nat := m.locals.toNat
def argF (s : Str) (m : Mth) (j : Nat) : List Tag := (clsT s :: (m.args.take j).map tagOf) ++ List.replicate (lkN m - (j + 1)) noT

theorem TagRow.new {W : World} {b : Nat} {cur : Array Value} {xs : List Tag} (hB : Bx W b tTag cur) (he : cur.toList = xs.flatMap tagCells) (hl : xs.length ≤ maxLen) (hx : ∀ x ∈ xs, x.name.size ≤ maxLen) : TagRow W tTag (.slice (some ⟨b, 0, none⟩) xs.length xs.length) xs := by
 have hsz : cur.size = xs.length * 2 := by rw [← Array.length_toList, he, flat_tag_len]
 refine ⟨.inl ⟨flat_tag_len xs, .inr ⟨b, xs.length, cur, rfl, Nat.zero_le _, hB, Nat.le_refl _, hl, hsz, ?_⟩⟩, hx⟩
 rw [he, ← flat_tag_len xs, List.take_length]
theorem made_tags1 : (madeCells (Value.agg #[.int .i64 0, .string ⟨#[]⟩]).cells (1 * 2)).toList = (List.replicate 1 noT).flatMap tagCells := by kernel_rfl
theorem made_tags2 : (madeCells (Value.agg #[.int .i64 0, .string ⟨#[]⟩]).cells (2 * 2)).toList = (List.replicate 2 noT).flatMap tagCells := by kernel_rfl
theorem made_tags3 : (madeCells (Value.agg #[.int .i64 0, .string ⟨#[]⟩]).cells (3 * 2)).toList = (List.replicate 3 noT).flatMap tagCells := by kernel_rfl
theorem made_tags4 : (madeCells (Value.agg #[.int .i64 0, .string ⟨#[]⟩]).cells (4 * 2)).toList = (List.replicate 4 noT).flatMap tagCells := by kernel_rfl
theorem made_tags5 : (madeCells (Value.agg #[.int .i64 0, .string ⟨#[]⟩]).cells (5 * 2)).toList = (List.replicate 5 noT).flatMap tagCells := by kernel_rfl
theorem made_tags6 : (madeCells (Value.agg #[.int .i64 0, .string ⟨#[]⟩]).cells (6 * 2)).toList = (List.replicate 6 noT).flatMap tagCells := by kernel_rfl
theorem made_tags {N : Nat} (h1 : 1 ≤ N) (h6 : N ≤ 6) : (madeCells (Value.agg #[.int .i64 0, .string ⟨#[]⟩]).cells (N * 2)).toList = (List.replicate N noT).flatMap tagCells := by
 have h : N = 1 ∨ N = 2 ∨ N = 3 ∨ N = 4 ∨ N = 5 ∨ N = 6 := by omega
 rcases h with rfl | rfl | rfl | rfl | rfl | rfl
 ·exact made_tags1
 ·exact made_tags2
 ·exact made_tags3
 ·exact made_tags4
 ·exact made_tags5
 ·exact made_tags6
theorem argF_len {s : Str} {m : Mth} {j : Nat} (hj : j ≤ m.args.length) (h : (m.args.length : Int) + 1 ≤ m.locals) : (argF s m j).length = lkN m := by
 unfold argF lkN
 simp only [List.length_append, List.length_cons, List.length_map, List.length_take, List.length_replicate]
 omega
theorem argF_set {s : Str} {m : Mth} {j : Nat} (hj : j < m.args.length) (h : (m.args.length : Int) + 1 ≤ m.locals) : (argF s m j).set (j + 1) (tagOf m.args[j]) = argF s m (j + 1) := by
 unfold argF
 have e : lkN m - (j + 1) = (lkN m - (j + 1 + 1)) + 1 := by unfold lkN; omega
 have hl : (clsT s :: (m.args.take j).map tagOf).length = j + 1 := by simp; omega
 rw [e, List.replicate_succ, List.set_append_right _ _ (by omega), hl, Nat.sub_self, List.set_cons_zero, List.take_add_one, List.getElem?_eq_getElem hj]
 simp only [Option.toList_some, List.map_append, List.map_cons, List.map_nil, List.cons_append, List.append_assoc, List.nil_append]
theorem argF_zero {s : Str} {m : Mth} (h : 1 ≤ m.locals) : (List.replicate (lkN m) noT).set 0 (clsT s) = argF s m 0 := by
 unfold argF
 have e : lkN m = (lkN m - 1) + 1 := by unfold lkN; omega
 rw [e, List.replicate_succ]
 simp
theorem argF_end {s : Str} {m : Mth} : (⟨argF s m m.args.length, []⟩ : Frm) = beginF s m := by
 unfold argF beginF lkN
 rw [List.take_length]

set_option maxRecDepth 100000 in
set_option maxHeartbeats 8000000 in
theorem look_ok (l bl n : Nat) (p : Plan) (k i a : Nat) (s : Str) (w : World) (h : Lg w l bl n p) (hh : Here p ⟨k, s⟩ k i) (hs : s.size ≤ maxLen) (ha : a < (clsAt p ⟨k, s⟩).methods.length) (hops : OkOps ((clsAt p ⟨k, s⟩).methods[a]).code) (hn : n < 999900) :
  Calls Tryz.prog 29 #[.pointer (some ⟨l, 0, none⟩), .agg #[.int .i64 k, .string s, .int .i64 a]] w (LookPost l bl (n + 34) p (lookF p k s ((clsAt p ⟨k, s⟩).methods[a])) w) := by
 have hok := clsB_mth (Here.clsB h.ok hh) _ (List.getElem_mem ha)
 obtain ⟨cs, ⟨va, vc, vm, rfl, hq1, hq2, hA1, hA2, hA3⟩, HM⟩ := (let ⟨_, h1, _⟩ := h; method_val h1 hh hs ha)
 generalize (clsAt p ⟨k, s⟩).methods[a] = m at *
 obtain ⟨hal, _, hka, hl1, hl6, hs1, hs5, _, _⟩ := mthB_facts hok
 obtain ⟨N, hN⟩ : ∃ N : Nat, m.locals = N := ⟨m.locals.toNat, by omega⟩
 obtain ⟨MC, hMC⟩ : ∃ MC, MC = madeCells (Value.agg #[.int .i64 0, .string ⟨#[]⟩]).cells (N * 2) := ⟨_, rfl⟩
 have hmk : ∀ W, (Instr.makeSlice 25 (.int .i64 (N : Int)) (.int .i64 (N : Int))).run Tryz.prog W = .ok (.slice (some ⟨W.heap.size, 0, none⟩) N N) (W.alloc (.cells MC tTag)) := fun W => by
  rw [hMC]; exact run_make_n (P := Tryz.prog) 25 tTag _ 2 24 Tryz.underlying25 info_tag N (by omega) (by omega) W
 have hmf : ∀ (fn : Fn) (first cap : Array Value) (w : World), (Instr.makeFunc fn first cap).run Tryz.prog w = .ok (.func fn first cap) w := fun _ _ _ _ => rfl
 obtain ⟨Aa, ca, hva, _, _⟩ := hA1.form
 obtain ⟨Ac, cc, hvc, _, _⟩ := hA2.form
 obtain ⟨Ax, cx, hvm, _, _⟩ := hA3.form
 rw [hva, hvc, hvm] at HM
 rw [hva] at hA1
 rw [hvc] at hA2
 rw [hvm] at hA3
 clear hva hvc hvm
 rw [hN] at HM
 have hN16 : 1 ≤ N ∧ N ≤ 6 := by omega
 replace hN := Lib.hid hN
 replace h := Lib.hid h
 replace hh := Lib.hid hh
 go_enter_defers Tryz.func29, Tryz.ntmps29
 go_wp2_with (go_at_call 36; refine (HM _ frc).mono ?_; rintro e w1 ⟨rfl, hf1⟩; have C3 : Bx w1 w.heap.size 84 #[.int .i64 k, .string s, .int .i64 a] := (by refine Bx.keep ?_ hf1; exact bxc); have C4 : Bx w1 (w.heap.size + 1) tFrms #[.slice none 0 0] := (by refine Bx.keep ?_ hf1; exact bxc); have C5 : Bx w1 (w.heap.size + 1 + 1) tI64 #[.int .i64 0] := (by refine Bx.keep ?_ hf1; exact bxc))
 refine wp_world (fun W => Fr No w W ∧ Bx W w.heap.size 84 #[.int .i64 k, .string s, .int .i64 a] ∧ Bx W (w.heap.size + 1) tFrms #[.slice none 0 0] ∧ Bx W (w.heap.size + 1 + 1) tI64 #[.int .i64 0] ∧ Bx W w1.heap.size 67 #[.string m.name, .slice Aa m.args.length ca, .int .i64 m.ret.kind, .string m.ret.name, .int .i64 N, .int .i64 m.stack, .slice Ac m.code.length cc, .slice Ax m.maps.length cx]) ?_ ?_
 ·exact ⟨frc, C3.keep frc, C4.keep frc, C5.keep frc, bxc⟩
 rintro wB ⟨hfB, hB3, hB4, hB5, hB6⟩
 have hBlt := hB5.lt
 have K3 := hB3.r3
 have K6 := hB6.r8
 have hl6' := hB6.lt
 refine wp_region_monR 8 21 [mV (.pointer (some ⟨l, 0, none⟩)), mV (.pointer (some ⟨w.heap.size, 0, none⟩)), mV (.pointer (some ⟨w.heap.size, 0, none⟩)), mV (.int .i64 k), mV (.agg #[.string m.name, .slice Aa m.args.length ca, .int .i64 m.ret.kind, .string m.ret.name, .int .i64 N, .int .i64 m.stack, .slice Ac m.code.length cc, .slice Ax m.maps.length cx]), mV (.pointer (some ⟨w1.heap.size, 4, none⟩)), mV (.int .i64 (N : Int)), mS 24 (MC) N wB.heap.size] (by kernel_rfl) (by kernel_rfl) (by simp) ?_ ?_
 ·refine hopC ?_ <| hopC ?_ <| hopC ?_ <| hopC ?_ <| hopC ?_ <| hopC ?_ <| hopC ?_ <| hopC ?_ <| hopZ
  all_goals (intro a' W hW hoff hdep; have hbs := hW.size; have H0 := hoff 0 rfl; have H3 := hoff 3 rfl; have H6 := hoff 6 rfl; refine nE rfl ?_)
  ·simp [execOp, Act.eval, H0, go_sem, givesUpon]; exact fr1 rfl
  ·simp [execOp, Act.eval, H3, go_sem, givesUpon]; exact fr1 rfl
  ·have D14 : _ = _ := hdep 1 14 rfl; simp [execOp, Act.eval, D14, go_sem, givesUpon]; exact fr1 rfl
  ·have D15 : _ = _ := hdep 2 15 rfl; clear hoff hdep; simp [execOp, Act.eval, go_sem, givesUpon, *]; exact fr1 rfl
  ·clear hoff hdep; simp [execOp, Act.eval, go_sem, givesUpon, *]; exact fr1 rfl
  ·simp [execOp, Act.eval, H6, go_sem, givesUpon]; exact fr1 rfl
  ·have D18 : _ = _ := hdep 5 18 rfl; clear hoff hdep; simp [execOp, Act.eval, go_sem, givesUpon, *]; exact fr1 rfl
  ·have D19 : _ = _ := hdep 6 19 rfl; clear hoff hdep; simp [execOp, Act.eval, go_sem, givesUpon, *]; exact ⟨(Fr.refl _ _).alloc _, ⟨_, rfl, Bx.new_ rfl, hbs⟩, Nat.le_refl _⟩
 intro vs WR hWR hv hne
 obtain ⟨b7, e7, hb7, hl7⟩ := hv 7 (by omega)
 simp only [List.drop_succ_cons, List.drop_zero, putsR_S, putsR_V, putsR_0, Nat.zero_add, Nat.reduceAdd, e7]
 simp only [Act.put, List.setIfInBounds_toArray, List.set_cons_zero, List.set_cons_succ]
 clear e7 hv
 clear K3 K6 hne
 have hb7lt := hb7.lt
 go_wp2_with fail
 obtain ⟨K, hK⟩ : ∃ K : LkP, K = ⟨w, l, bl, WR.heap.size, p, k, m, .slice Aa m.args.length ca, .slice Ac m.code.length cc, .slice Ax m.maps.length cx⟩ := ⟨_, rfl⟩
 have hE : LkE K := by
  rw [hK]
  exact ⟨⟨n, h.out⟩, hh.out.2.1, hA1, hA2, hA3, hok, hq2, hops⟩
 have hkb : K.kb = WR.heap.size := by rw [hK]
 refine wp_world (fun W => Fr No WR W ∧ Bx W K.kb tLooker (lkC K 0 (.slice (some ⟨b7, 0, none⟩) N N) (.slice none 0 0))) ?_ ?_
 ·refine ⟨frc, ?_⟩
  rw [hkb]
  unfold lkC
  rw [hK]
  simp only
  rw [hN.out]
  exact bxc
 rintro W3 ⟨hf3, hBK⟩
 rw [← hkb]
 have hb7 := hb7.keep hf3
 have hB3 := (hB3.keep hWR).keep hf3
 have hB4 := (hB4.keep hWR).keep hf3
 have hB5 := (hB5.keep hWR).keep hf3
 have hB6 := (hB6.keep hWR).keep hf3
 have h61 : ¬ b7 = w1.heap.size := by omega
 have h62 : ¬ w1.heap.size = b7 := by omega
 have hfw3 : Fr No w W3 := (hfB.trans0 hWR).trans0 hf3
 have hkw : w.heap.size ≤ K.kb := by rw [hkb]; have := hfB.size; have := hWR.size; omega
 have hW3s : wB.heap.size ≤ W3.heap.size := by have := hWR.size; have := hf3.size; omega
 have hkB : wB.heap.size ≤ K.kb := by rw [hkb]; exact hWR.size
 have h7w : w.heap.size ≤ b7 := by have := hfB.size; omega
 have h7k : b7 < K.kb := by rw [hkb]; exact hb7lt
 have hS3 : LkS K n (fun b => b = bl ∨ b = K.kb ∨ b = b7) 0 ⟨List.replicate N noT, []⟩ (.slice (some ⟨b7, 0, none⟩) N N) (.slice none 0 0) W3 := by
  have hrow : TagRow W3 tTag (.slice (some ⟨b7, 0, none⟩) N N) (List.replicate N noT) := by
   have h9 := TagRow.new (xs := List.replicate N noT) hb7 (by rw [hMC]; exact made_tags (by omega) (by omega)) (by rw [List.length_replicate]; unfold maxLen; omega) (fun x hx => by rw [List.eq_of_mem_replicate hx]; exact Nat.zero_le _)
   rwa [List.length_replicate] at h9
  have hq7 : ∀ q, rowBlk (.slice (some ⟨b7, 0, none⟩) N N) = some q → q = b7 := fun q hq => by
   rw [rowBlk_at] at hq
   split at hq
   ·cases hq
   ·exact (Option.some.inj hq).symm
  have hw0 : K.w0 = w := by rw [hK]
  have hbl0 : K.bl = bl := by rw [hK]
  have hll : ((List.replicate N noT).length : Int) = K.m.locals := by rw [hK, List.length_replicate]; exact hN.out.symm
  refine ⟨by rw [hw0]; exact hfw3.of0, by rw [hK]; exact h.out.keep hfw3, hBK, fun b hb => ?_, .inl hbl0, .inr (.inl rfl), by rw [hw0]; exact hkw, hrow, ⟨RowV.nil _ _ _, fun _ h => absurd h (by simp)⟩, fun q hq => ⟨.inr (.inr (hq7 q hq)), by rw [hq7 q hq, hw0]; exact h7w⟩, fun q hq => (by cases hq), fun q _ hq => (by cases hq), hll, ?_⟩
  ·have hk3 := hBK.lt
   have := hfw3.size
   have := h.out.lt
   unfold LkP.late
   rw [hbl0, hw0]
   rcases hb with rfl | rfl | rfl
   ·exact ⟨.inl rfl, by omega⟩
   ·exact ⟨.inr hkw, hk3⟩
   ·exact ⟨.inr h7w, by omega⟩
  ·rw [hK]; simp only [List.length_nil]; omega
 have KT := hS3.cells
 have hla0 : (argF s m 0).length = N := by rw [argF_len (Nat.zero_le _) hl1]; unfold lkN; have := hN.out; omega
 have hlN : lkN m = N := by unfold lkN; have := hN.out; omega
 have hm1 : 1 ≤ m.locals := by have := hN.out; omega
 replace hkb := Lib.hid hkb
 replace hK := Lib.hid hK
 replace hla0 := Lib.hid hla0
 replace hlN := Lib.hid hlN
 have K3 := hB3.r3
 have K7 : ∀ W, Fr No W3 W → (∀ j, W.frozen? ⟨b7, j, none⟩ = false) ∧ b7 < W.heap.size := fun W hW => ⟨fun j => (hb7.keep hW).frozen j, (hb7.keep hW).lt⟩
 have hS3' := hS3
 replace hS3 := Lib.hid hS3
 replace hS3' := Lib.hid hS3'
 refine wp_region_monR 9 32 [mV (.pointer (some ⟨K.kb, 0, none⟩)), mV (.pointer (some ⟨K.kb, 0, none⟩)), mV (.pointer (some ⟨K.kb, 11, none⟩)), mV (.slice (some ⟨b7, 0, none⟩) N N), mV (.pointer (some ⟨w.heap.size, 0, none⟩)), mV (.pointer (some ⟨w.heap.size, 1, none⟩)), mV (.string s), mV (.agg #[.int .i64 2, .string s]), mV (.pointer (some ⟨b7, 0, none⟩))] (by kernel_rfl) (by kernel_rfl) (by simp) ?_ ?_
 ·refine hopC ?_ <| hopC ?_ <| hopC ?_ <| hopC ?_ <| hopC ?_ <| hopC ?_ <| hopC ?_ <| hopC ?_ <| hopC ?_ <| hopZ
  all_goals (intro a' W hW hoff hdep; have hbs := hW.size; have H7 := hoff 7 rfl; have H3 := hoff 3 rfl; refine nE rfl ?_)
  ·simp [execOp, Act.eval, H7, go_sem, givesUpon]; exact fr1 rfl
  ·have D23 : _ = _ := hdep 0 23 rfl; simp [execOp, Act.eval, D23, go_sem, givesUpon]; exact fr1 rfl
  ·have D24 : _ = _ := hdep 1 24 rfl; simp [execOp, Act.eval, D24, go_sem, givesUpon]; exact fr1 rfl
  ·have D25 : _ = _ := hdep 2 25 rfl; clear hoff hdep; simp [execOp, Act.eval, go_sem, givesUpon, *]; exact fr1 rfl
  ·simp [execOp, Act.eval, H3, go_sem, givesUpon]; exact fr1 rfl
  ·have D27 : _ = _ := hdep 4 27 rfl; simp [execOp, Act.eval, D27, go_sem, givesUpon]; exact fr1 rfl
  ·have D28 : _ = _ := hdep 5 28 rfl; clear hoff hdep; simp [execOp, Act.eval, go_sem, givesUpon, *]; exact fr1 rfl
  ·have D29 : _ = _ := hdep 6 29 rfl; simp [Act.eval, D29, go_sem, givesUpon]; exact (classTag_ok s _).mono (by rintro e w9 ⟨rfl, h9⟩; exact ⟨_, rfl, h9, rfl⟩)
  ·have D26 : _ = _ := hdep 3 26 rfl; clear hoff hdep; simp [execOp, Act.eval, go_sem, givesUpon, ↓IntWalk.iteOmega, *]; exact fr1 rfl
 intro vs WR hWR hv hne
 simp only [List.drop_succ_cons, List.drop_zero, putsR_V, putsR_0, Nat.zero_add, Nat.reduceAdd]
 simp only [Act.put, List.setIfInBounds_toArray, List.set_cons_zero, List.set_cons_succ]
 clear hv
 clear hne KT K3
 obtain ⟨p0, p1⟩ : WR.cell? ⟨b7, 0, none⟩ = some (.int .i64 0) ∧ WR.cell? ⟨b7, 1, none⟩ = some (.string ⟨#[]⟩) := by
  have h9 := (hS3.out.keep hE hWR).loc.1
  have e0 := h9.cell (g := b7) (c := N) (by rw [List.length_replicate]) (j := 0) (by simp only [List.length_replicate]; omega)
  have e1 := h9.cell (g := b7) (c := N) (by rw [List.length_replicate]) (j := 1) (by simp only [List.length_replicate]; omega)
  rw [e0, e1]
  have hN1 : N = (N - 1) + 1 := by omega
  rw [hN1, List.replicate_succ]
  exact ⟨rfl, rfl⟩
 obtain ⟨pf, pl⟩ := K7 WR hWR
 have d1 : WR.cell? ⟨w1.heap.size, 1, none⟩ = some (.slice Aa m.args.length ca) := (hB6.keep hWR).cell 1
 have df := fun i => (hB6.keep hWR).frozen i
 have dl := (hB6.keep hWR).lt
 go_wp2_with fail
 refine wp_world (fun W => LkOk K n (fun b => b = bl ∨ b = K.kb ∨ b = b7) 0 ⟨argF s m 0, []⟩ W3 W) ?_ ?_
 ·have h9 := hS3.out.keep hE hWR
  have hq : LkS K n (fun b => b = bl ∨ b = K.kb ∨ b = b7) 0 ⟨List.replicate N noT, []⟩ (.slice (some ⟨b7, 0, none⟩) (List.replicate N noT).length N) (.slice none 0 0) WR := by rw [List.length_replicate]; exact h9
  have h8 := (hq.setLoc hE (i := 0) (by rw [List.length_replicate]; omega) (x := clsT s) hs).from hWR
  rw [← hlN.out, argF_zero hm1] at h8
  exact h8
 rintro W4 hI0
 have hw3 := hfw3.size
 have hb0 : ∀ b, (b = bl ∨ b = K.kb ∨ b = b7) → K.kb ≠ b → b = bl ∨ b = b7 := fun b h h2 => by omega
 have hblt := h.out.lt
 have hKm : K.m = m := by rw [hK.out]
 have hKa : K.va = .slice Aa m.args.length ca := by rw [hK.out]
 have hKw : K.w0 = w := by rw [hK.out]
 replace hI0 := Lib.hid hI0
 replace hKm := Lib.hid hKm
 replace hKa := Lib.hid hKa
 replace hKw := Lib.hid hKw
 clear hB6 d1 df dl p0 p1 pf pl hmk
 go_loopw [35] (fun i wr => ∃ j : Nat, j ≤ m.args.length ∧ i = .int .i64 j ∧ Hid (LkOk K n (fun b => b = bl ∨ b = K.kb ∨ b = b7) 0 ⟨argF s m j, []⟩ W3 wr)) (fun i _ => m.args.length - (intOf i).toNat)
 case atStart => exact ⟨0, Nat.zero_le _, rfl, hI0⟩
 case round =>
  clear hI0
  obtain ⟨j, hj, rfl, hI⟩ := hrel
  by_cases hlt : j < m.args.length
  ·obtain ⟨Z', ul, us, hS, hz1, hz2, hf⟩ := hI.out
   clear hI
   have hlen := argF_len (s := s) (Nat.le_of_lt hlt) hl1
   rw [hlN.out] at hlen
   have hj1 : j + 1 < (argF s m j).length := by rw [hlen]; have := hN.out; omega
   obtain ⟨g, c, he, hq, hc1, hc2, _, _, _⟩ := hS.loc.get (a := j + 1) hj1
   cases he
   have hA := hE.args_at hS.anchor
   rw [hKa.out, hKm.out] at hA
   obtain ⟨ba, oa, he, _, a0, a1, a2⟩ := hA.knd hlt
   cases he
   have hset := fun W (hW : Fr No wr W) => LkS.setLoc (n := n) (hS.keep hE hW) hE (i := j + 1) hj1 (x := tagOf m.args[j]) (tagOf_small a2)
   rw [argF_set hlt hl1] at hset
   have hgo := fun W (hW : Fr No wr W) => LkOk.then hz1 hz2 hf ((hset W hW).from hW)
   clear hset
   have KT := hS.cells
   have hl0 := hS.loc.1
   generalize m.args[j] = x at *
   obtain ⟨_, _, _, _, _, _, _, _, _, _, _, hkl⟩ := hS.cells wr (Fr.refl _ _)
   replace hS := Lib.hid hS
   replace hl0 := Lib.hid hl0
   replace hgo := Lib.hid hgo
   replace hlen := Lib.hid hlen
   have hadd : IntKind.i64.wrap ((j : Int) + 1) = ((j + 1 : Nat) : Int) := by rw [IntWalk.i64_in _ (by omega)]; simp
   go_wp2_with fail
   refine wp_world (fun W => Fr No wr W ∧ Bx W wr.heap.size 55 #[.int .i64 x.kind, .string x.name]) ⟨frc, bxc⟩ ?_
   rintro W5 ⟨hf5, hB9⟩
   have K9 := hB9.r2
   have KT5 := fun W (hW : Fr No W5 W) => KT W (hf5.trans0 hW)
   clear KT a0 a1
   have hlen2 := hlen.out
   refine wp_region_monR 9 49 [mV (.pointer (some ⟨K.kb, 0, none⟩)), mV (.pointer (some ⟨K.kb, 0, none⟩)), mV (.pointer (some ⟨K.kb, 11, none⟩)), mV (.slice (some ⟨g, 0, none⟩) (argF s m j).length c), mV (.int .i64 j), mV (.int .i64 ((j + 1 : Nat) : Int)), mV (.agg #[.int .i64 x.kind, .string x.name]), mV (.agg #[.int .i64 (tagOf x).kind, .string (tagOf x).name]), mV (.pointer (some ⟨g, (j + 1) * 2, none⟩))] (by kernel_rfl) (by kernel_rfl) (by simp) ?_ ?_
   ·refine hopC ?_ <| hopC ?_ <| hopC ?_ <| hopC ?_ <| hopC ?_ <| hopC ?_ <| hopC ?_ <| hopC ?_ <| hopC ?_ <| hopZ
    all_goals (intro a' W hW hoff hdep; have hbs := hW.size; have H7 := hoff 7 rfl; have H8 := hoff 8 rfl; have H9 := hoff 9 rfl; refine nE rfl ?_)
    ·simp [execOp, Act.eval, H7, go_sem, givesUpon]; exact fr1 rfl
    ·have D40 : _ = _ := hdep 0 40 rfl; simp [execOp, Act.eval, D40, go_sem, givesUpon]; exact fr1 rfl
    ·have D41 : _ = _ := hdep 1 41 rfl; simp [execOp, Act.eval, D41, go_sem, givesUpon]; exact fr1 rfl
    ·have D42 : _ = _ := hdep 2 42 rfl; clear hoff hdep; simp [execOp, Act.eval, go_sem, givesUpon, *]; exact fr1 rfl
    ·simp [execOp, Act.eval, H8, go_sem, givesUpon]; exact fr1 rfl
    ·have D44 : _ = _ := hdep 4 44 rfl; simp [execOp, Act.eval, D44, go_sem, givesUpon]; exact ⟨Fr.refl _ _, by show Value.int _ _ = _; rw [hadd]; simp⟩
    ·clear hoff hdep; simp [execOp, Act.eval, go_sem, givesUpon, *]; exact fr1 rfl
    ·have D46 : _ = _ := hdep 6 46 rfl; simp [Act.eval, D46, go_sem, givesUpon]; exact (tagof_ok x _ a2).mono (by rintro e w9 ⟨rfl, h9⟩; exact ⟨_, rfl, h9, rfl⟩)
    ·have D43 : _ = _ := hdep 3 43 rfl; have D45 : _ = _ := hdep 5 45 rfl; clear hoff hdep; simp [execOp, Act.eval, go_sem, givesUpon, ↓IntWalk.iteOmega, *]; exact fr1 rfl
   intro vs WR hWR hv hne
   simp only [List.drop_succ_cons, List.drop_zero, putsR_V, putsR_0, Nat.zero_add, Nat.reduceAdd]
   simp only [Act.put, List.setIfInBounds_toArray, List.set_cons_zero, List.set_cons_succ]
   clear hv
   clear hne KT5 K9
   have hS' := hS.out.keep hE (hf5.trans0 hWR)
   obtain ⟨g', c', he', _, _, _, q0, q1, _⟩ := hS'.loc.get (a := j + 1) hj1
   cases he'
   have uf : ∀ q, WR.frozen? ⟨g, q, none⟩ = false := fun q => by
    obtain ⟨g9, c9, cur, he, _, _, hb, _⟩ := hS'.loc.1.at_ (by simp only; omega)
    cases he
    exact hb.frozen q
   have ul := lt_of_cell q0
   have hI8 := Lib.hid (hgo.out WR (hf5.trans0 hWR))
   clear hS' hgo
   go_wp2_with fail
   exact ⟨⟨j + 1, by omega, by simp, hI8⟩, by simp [intOf]; omega⟩
  ·obtain rfl : j = m.args.length := by omega
   obtain ⟨Z', ul, us, hS, hz1, hz2, hf⟩ := hI.out
   clear hI
   rw [argF_end] at hS
   have hP := frames_ok K hE n Z' 0 (beginF s m) ul us wr hS hn
   rw [show lookGo K.p K.k K.m 0 K.m.code (beginF s m) true [] = lookF p k s m from by rw [hK.out]; rfl] at hP
   have hKb : K.bl = bl := by rw [hK.out]
   have hKl : K.l = l := by rw [hK.out]
   have hKp : K.p = p := by rw [hK.out]
   have hZ4 : ∀ q, q = w.heap.size + 1 ∨ q = w.heap.size + 1 + 1 → ¬ Z' q := fun q hq hz => by
    have := hBlt
    have := hkB
    rcases hz2 q hz with h9 | h9
    ·rcases h9 with h9 | h9 | h9 <;> omega
    ·omega
   have hZ3 : ∀ q, q = w.heap.size + 1 ∨ q = w.heap.size + 1 + 1 → ¬ (q = bl ∨ q = K.kb ∨ q = b7) := fun q hq hz => by
    have := hBlt
    have := hkB
    rcases hz with h9 | h9 | h9 <;> omega
   have C4 := hB4.keepX hf (hZ3 _ (.inl rfl))
   have C5 := hB5.keepX hf (hZ3 _ (.inr rfl))
   have hwr := hf.size
   have hwr5 := C5.lt
   have hfin : ∀ (v : Value) (wf wg : World), Frms wf (fun q => wr.heap.size ≤ q) v (lookF p k s m).1 → Fr K.late K.w0 wf → Lg wf K.l K.bl (n + 34) K.p → Fr (fun b => b = w.heap.size + 1 ∨ b = w.heap.size + 1 + 1) wf wg → LookPost l bl (n + 34) p (lookF p k s m) w (.returned (.tuple #[v, .int .i64 (lookF p k s m).2])) wg := fun v wf wg h1 h2 h3 h4 => by
    rw [hKw.out] at h2
    rw [hKb, hKl, hKp] at h3
    have h2' : Fr (fun b => b = bl ∨ w.heap.size ≤ b) w wf := h2.mono (fun b _ hb => by unfold LkP.late at hb; rw [hKb, hKw.out] at hb; exact hb)
    refine ⟨v, rfl, h1.keep h4 (fun b hb _ => by omega) (fun b hb _ => by omega), h.out.over2 h3 h2' (h4.mono (fun b _ hb => by omega)), ?_⟩
    exact (h2'.mono (Y := fun b => b = bl) (fun b hb hx => hx.resolve_right (by omega))).trans h4 (fun b hb hx => by omega)
   generalize lookF p k s m = r at *
   replace hfin := Lib.hid hfin
   replace hS := Lib.hid hS
   have hne45 : ¬ w.heap.size + 1 + 1 = w.heap.size + 1 := by omega
   go_wp2_with fail
   refine hP.mono ?_
   rintro e wf (⟨hr0, v, rfl, h1, h2, h3, h4⟩ | ⟨hr0, hr1, c, rfl, rfl, h2, h3, h4⟩)
   ·have D4 := C4.keepX h4 (hZ4 _ (.inl rfl))
    have D5 := C5.keepX h4 (hZ4 _ (.inr rfl))
    have x4 : wf.cell? ⟨w.heap.size + 1, 0, none⟩ = some (.slice none 0 0) := D4.cell 0
    have x5 : wf.cell? ⟨w.heap.size + 1 + 1, 0, none⟩ = some (.int .i64 0) := D5.cell 0
    have f4 := D4.frozen 0
    have f5 := D5.frozen 0
    have l4 := D4.lt
    have l5 := D5.lt
    obtain ⟨Av, cv, rfl, _, _⟩ := h1.form
    go_wp2_with fail
    refine leaves_cons (f := 66) (args := #[.pointer (some ⟨w.heap.size + 1, 0, none⟩), .pointer (some ⟨w.heap.size + 1 + 1, 0, none⟩)]) (by simp) (by simp [go_sem]) ?_
    refine (lookD_idle ⟨w.heap.size + 1, 0, none⟩ ⟨w.heap.size + 1 + 1, 0, none⟩ _).mono ?_
    rintro e u' wg ⟨rfl, rfl, rfl⟩
    have hF := hfin.out _ wf _ h1 h3 h2 (((Fr.refl _ wf).setCellX (p := ⟨w.heap.size + 1, 0, none⟩) (.inl rfl) (.slice Av r.1.length cv)).setCellX (p := ⟨w.heap.size + 1 + 1, 0, none⟩) (.inr rfl) (.int .i64 0))
    rw [hr0] at hF
    refine ⟨.tuple #[.slice Av r.1.length cv, .int .i64 0], ?_, hF⟩
    simp [results, Tryz.results29, go_sem, x4, x5]
   ·have D4 := C4.keepX h4 (hZ4 _ (.inl rfl))
    have D5 := C5.keepX h4 (hZ4 _ (.inr rfl))
    have hw1 : wrongV (r.2 - 1) = [{ v := .iface 129 (.agg #[.int .i64 r.2]), recovered := false }] := by unfold wrongV; rw [Int.sub_add_cancel]
    rw [hw1]
    refine leaves_cons (f := 66) (args := #[.pointer (some ⟨w.heap.size + 1, 0, none⟩), .pointer (some ⟨w.heap.size + 1 + 1, 0, none⟩)]) (by simp) (by simp [go_sem]) ?_
    refine (lookD_wrong _ _ (by omega) r.2 _ _ _ D4 D5).mono ?_
    rintro e u' wg ⟨rfl, rfl, E4, E5, hfg⟩
    have y4 : wg.cell? ⟨w.heap.size + 1, 0, none⟩ = some (.slice none 0 0) := E4.cell 0
    have y5 : wg.cell? ⟨w.heap.size + 1 + 1, 0, none⟩ = some (.int .i64 r.2) := E5.cell 0
    have hF := hfin.out (.slice none 0 0) wf wg (hr1 ▸ Frms.nil wf _) h2 h3 hfg
    refine ⟨.tuple #[.slice none 0 0, .int .i64 r.2], ?_, hF⟩
    simp [results, Tryz.results29, go_sem, y4, y5]
end Go.Proofs.YtbalicnnlfennaaGreat

namespace Go.Proofs.YtbalicnnlfennaaGreat
open Go.RowKit

def SaysL (l bl n : Nat) (p : Plan) (b : Bool) (w : World) (e : Ending) (w' : World) : Prop := e = .returned (.bool b) ∧ Lg w' l bl n p ∧ Fr (fun x => x = bl) w w'
def okM (p : Plan) (r : Ref) (m : Mth) : Bool := decide ((lookF p r.keeper r.name m).2 = 0)
set_option maxRecDepth 100000 in
set_option maxHeartbeats 4000000 in
theorem right_ok (l bl n : Nat) (p : Plan) (k i a : Nat) (s : Str) (w : World) (h : Lg w l bl n p) (hh : Here p ⟨k, s⟩ k i) (hs : s.size ≤ maxLen) (ha : a < (clsAt p ⟨k, s⟩).methods.length) (hops : OkOps ((clsAt p ⟨k, s⟩).methods[a]).code) (hn : n < 999900) :
  Calls Tryz.prog 78 #[.pointer (some ⟨l, 0, none⟩), .agg #[.int .i64 k, .string s, .int .i64 a]] w (SaysL l bl (n + 34) p (okM p ⟨k, s⟩ ((clsAt p ⟨k, s⟩).methods[a])) w) := by
 have HL := fun W (hW : Fr No w W) => look_ok l bl n p k i a s W (h.keep hW) hh hs ha hops hn
 have he : Hid (okM p ⟨k, s⟩ ((clsAt p ⟨k, s⟩).methods[a]) = decide ((lookF p k s ((clsAt p ⟨k, s⟩).methods[a])).2 = 0)) := rfl
 have hbl := h.lt
 generalize okM p ⟨k, s⟩ ((clsAt p ⟨k, s⟩).methods[a]) = R at *
 generalize lookF p k s ((clsAt p ⟨k, s⟩).methods[a]) = r at *
 clear h hh hops ha
 go_enter Tryz.func78, Tryz.ntmps78
 go_wp2_with (go_at_call 29; refine (HL _ frc).mono ?_; rintro e w1 ⟨v, rfl, hF, hl1, hf1⟩)
 refine bodyPost_ret (v := .bool R) (by rw [he.out]; simp [results, Tryz.results78, go_sem]; rfl) rfl ?_
 exact ⟨rfl, hl1, (frc : Fr No w (w.alloc (.cells #[.int .i64 k, .string s, .int .i64 a] 84))).of0.same hf1⟩
end Go.Proofs.YtbalicnnlfennaaGreat
