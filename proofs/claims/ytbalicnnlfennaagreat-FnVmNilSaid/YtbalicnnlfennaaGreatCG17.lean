/- The program's checks of values. -/
import Derived.Test.YtbalicnnlfennaaGreatCG11
import Derived.Test.YtbalicnnlfennaaGreatCG16
namespace Go.Proofs.YtbalicnnlfennaaGreat
open Go.RowKit

set_option maxHeartbeats 400000 in
theorem num_ok (n : Int) (w : World) : Calls Tryz.prog 22 #[.int .i64 n] w (BoolFr (numB n) w) := by
 go_enter Tryz.func22, Tryz.ntmps22
 by_cases h1 : -9999 ≤ n
 ·by_cases h2 : n ≤ 9999
  ·go_wp2
   go_ret
   exact .mk (by simp [numB, h1, h2]) (by exact frc)
  ·go_wp2
   go_ret
   exact .mk (by simp [numB, h2]) (by exact frc)
 ·go_wp2
  go_ret
  exact .mk (by unfold numB; rw [decide_eq_false (show ¬ -9999 ≤ n by omega)]; rfl) (by exact frc)

set_option maxHeartbeats 1000000 in
theorem value_ok (v : Val) (many : Int) (w : World) : Calls Tryz.prog 43 #[.agg #[.int .i64 v.kind, .int .i64 v.n], .int .i64 many] w (BoolFr (valB many v) w) := by
 obtain ⟨k, n⟩ := v
 dsimp only
 have HN := fun W => num_ok n W
 obtain ⟨V, hV⟩ : ∃ V, V = valB many ⟨k, n⟩ := ⟨_, rfl⟩
 rw [← hV]
 unfold valB at hV
 dsimp only at hV
 have hB := Bx.new w 40 #[.int .i64 k, .int .i64 n]
 by_cases h1 : k = 1
 ·subst h1
  rw [if_pos rfl] at hV
  rw [← hV] at HN
  replace hV := Lib.hid hV
  go_enter Tryz.func43, Tryz.ntmps43
  go_wp2_with (go_at_call 22; refine (HN _).mono ?_; rintro e w1 ⟨rfl, hf1⟩)
  go_ret
  exact .mk rfl (by exact frc)
 rw [if_neg h1] at hV
 clear HN
 by_cases h2 : k = 2
 ·subst h2
  rw [if_pos rfl] at hV
  by_cases h3 : 0 ≤ n
  ·by_cases h4 : n < many
   ·have hE : Hid (V = true) := by rw [hV]; simp [Hid, h3, h4]
    clear hV
    go_enter Tryz.func43, Tryz.ntmps43
    go_wp2
    go_ret
    exact .mk hE.out.symm (by exact frc)
   ·have hE : Hid (V = false) := by rw [hV]; simp [Hid, h4]
    clear hV
    go_enter Tryz.func43, Tryz.ntmps43
    go_wp2
    go_ret
    exact .mk hE.out.symm (by exact frc)
  ·have hE : Hid (V = false) := by rw [hV]; simp [Hid, h3]
   clear hV
   go_enter Tryz.func43, Tryz.ntmps43
   go_wp2
   go_ret
   exact .mk hE.out.symm (by exact frc)
 rw [if_neg h2] at hV
 by_cases h0 : k = 0
 ·subst h0
  by_cases h3 : n = 0
  ·have hE : Hid (V = true) := by rw [hV]; simp [Hid, h3]
   clear hV
   go_enter Tryz.func43, Tryz.ntmps43
   go_wp2
   go_ret
   exact .mk (by rw [hE.out]; try simp [h3]) (by exact frc)
  ·have hE : Hid (V = false) := by rw [hV]; simp [Hid, h3]
   clear hV
   go_enter Tryz.func43, Tryz.ntmps43
   go_wp2
   go_ret
   exact .mk (by rw [hE.out]; try simp [h3]) (by exact frc)
 by_cases h5 : k = 3
 ·subst h5
  by_cases h3 : n = 0
  ·have hE : Hid (V = true) := by rw [hV]; simp [Hid, h3]
   clear hV
   go_enter Tryz.func43, Tryz.ntmps43
   go_wp2
   go_ret
   exact .mk (by rw [hE.out]; try simp [h3]) (by exact frc)
  ·have hE : Hid (V = false) := by rw [hV]; simp [Hid, h3]
   clear hV
   go_enter Tryz.func43, Tryz.ntmps43
   go_wp2
   go_ret
   exact .mk (by rw [hE.out]; try simp [h3]) (by exact frc)
 have hE : Hid (V = false) := by rw [hV]; simp [Hid, h0, h5]
 clear hV
 go_enter Tryz.func43, Tryz.ntmps43
 go_wp2
 go_ret
 exact .mk hE.out.symm (by exact frc)

set_option maxRecDepth 100000 in
set_option maxHeartbeats 2000000 in
theorem values_ok (X : Nat → Prop) (v : Value) (xs : List Val) (many : Int) (w : World) (h : Sl X w 2 ValC v xs) :
  Calls Tryz.prog 80 #[v, .int .i64 many] w (BoolFr (xs.all (valB many)) w) := by
 obtain ⟨A, cap, rfl, _, hlen⟩ := h.form
 unfold maxLen at hlen
 obtain ⟨V, hV⟩ : ∃ V, V = xs.all (valB many) := ⟨_, rfl⟩
 rw [← hV]
 replace hV := Lib.hid hV
 go_enter Tryz.func80, Tryz.ntmps80
 go_wp2
 go_loopw [9] (fun i wr => ∃ j : Nat, j ≤ xs.length ∧ i = .int .i64 j ∧ Hid ((xs.take j).all (valB many) = true) ∧ Fr No w wr) (fun i _ => xs.length - (intOf i).toNat)
 case atStart => exact ⟨0, Nat.zero_le _, rfl, by simp [Hid], Fr.refl _ _⟩
 case round =>
  obtain ⟨j, hj, rfl, hn, hf⟩ := hrel
  by_cases hlt : j < xs.length
  ·obtain ⟨b, bf, rfl, _, c0, c1⟩ := (h.keep (R' := ValC) hf (fun _ h => h.elim) (fun _ _ _ h => h)).val hlt
   have HV := fun W => value_ok xs[j] many W
   have hy := fun h => Lib.hid (allB_step (f := valB many) hlt hn.out h)
   have hno := fun h => Lib.hid (allB_no (f := valB many) hlt h)
   clear h hn
   generalize xs[j] = x at *
   cases hx : valB many x
   all_goals
    simp only [hx] at HV
    go_wp2_with (go_at_call 43; refine (HV _).mono ?_; rintro e w1 ⟨rfl, hf1⟩)
   ·go_ret
    exact .mk (by rw [hV.out, (hno hx).out]) (by exact frc)
   ·go_roundw
    case rel => exact ⟨j + 1, by omega, by go_num, hy hx, by exact frc⟩
    case measure => simp [intOf]; omega
  ·clear h
   have hV : V = true := by rw [hV.out]; exact allB_yes (by omega) hn.out
   clear hn
   go_wp2
   go_ret
   exact .mk hV.symm (by exact frc)
end Go.Proofs.YtbalicnnlfennaaGreat

namespace Go.Proofs.YtbalicnnlfennaaGreat
open Go.RowKit

def LgPost (b : Bool) (p : Plan) (l bl n : Nat) (w : World) (e : Ending) (w' : World) : Prop :=
 e = .returned (.bool b) ∧ Fr (fun b => b = bl) w w' ∧ Lg w' l bl n p
theorem LgPost.mk {b c : Bool} {p : Plan} {l bl n : Nat} {w w' : World} (h : b = c) (hf : Fr (fun b => b = bl) w w') (hl : Lg w' l bl n p) : LgPost c p l bl n w (.returned (.bool b)) w' := ⟨by rw [h], hf, hl⟩
def GotJ (p : Plan) (l bl n : Nat) (a : World) (j : Nat) (W : World) : Prop := Fr (fun b => b = bl) a W ∧ Lg W l bl (n + j) p
theorem GotJ.to {p : Plan} {l bl n j : Nat} {a W W' : World} (h : GotJ p l bl n a j W) (hf : Fr No W W') : GotJ p l bl n a j W' := ⟨h.1.trans0 hf, h.2.keep hf⟩
def lenV (n : Nat) : Value → World → Prop := fun v _ => ∃ A c, v = .slice A n c
theorem lenV_mono (n : Nat) : MonP (lenV n) := fun _ _ _ h _ => h

set_option maxRecDepth 100000 in
set_option maxHeartbeats 4000000 in
theorem heap_ok (X : Nat → Prop) (l bl n : Nat) (p : Plan) (v : Value) (xs : List Obj) (w : World) (h : Lg w l bl n p) (hv : Sl X w 3 (ObjC X w) v xs) (hX : X bl) (hwf : ∀ o ∈ xs, (Lit.int .i64 o.of_.keeper).wf = true) (hn : n < 100000) :
  Calls Tryz.prog 42 #[.pointer (some ⟨l, 0, none⟩), v] w (LgPost (heapB p xs) p l bl (n + 24) w) := by
 obtain ⟨A, cap, rfl, _, hlen⟩ := hv.form
 unfold maxLen at hlen
 obtain ⟨V, hV⟩ : ∃ V, V = heapB p xs := ⟨_, rfl⟩
 rw [← hV]
 have h0 := h
 have hlt := h.lt
 by_cases hbig : 12 < xs.length
 ·have hE : Hid (V = false) := by rw [hV]; unfold heapB; rw [decide_eq_false (by omega)]; rfl
  clear hV
  go_enter Tryz.func42, Tryz.ntmps42
  go_wp2
  go_ret
  exact .mk hE.out.symm (Fr.refl _ _) (h.mono (by omega))
 have hE : Hid (V = xs.all (objB p xs.length)) := by rw [hV]; unfold heapB; rw [decide_eq_true (by omega)]; rfl
 clear hV
 go_enter Tryz.func42, Tryz.ntmps42
 go_wp2
 go_loopw [12] (fun i wr => ∃ j : Nat, j ≤ xs.length ∧ i = .int .i64 j ∧ Hid ((xs.take j).all (objB p xs.length) = true) ∧ GotJ p l bl n w (2 * j) wr) (fun i _ => xs.length - (intOf i).toNat)
 case atStart => exact ⟨0, Nat.zero_le _, rfl, by simp [Hid], Fr.refl _ _, h⟩
 case round =>
  obtain ⟨j, hj, rfl, hn', hf, hL⟩ := hrel
  by_cases hlt2 : j < xs.length
  ·have hvr := hv.keep (R' := ObjC X wr) hf (fun b hb => hb ▸ hX) (fun _ _ _ h => h.keep hf (fun b hb => hb ▸ hX))
   obtain ⟨b, bf, Af, cf, rfl, hXb, c0, c1, c2, z0, hvf, _, hfl⟩ := hvr.obj hlt2
   have hwj := hwf xs[j] (List.getElem_mem hlt2)
   have hy := fun h => Lib.hid (allB_step (f := objB p xs.length) hlt2 hn'.out h)
   have hno := fun h => Lib.hid (allB_no (f := objB p xs.length) hlt2 h)
   have hob : objB p xs.length xs[j] = (canB p xs[j].of_ && decide (xs[j].fields.length = (layK p xs[j].of_).length) && xs[j].fields.all (valB xs.length)) := rfl
   clear hv hvr hn'
   generalize xs[j] = o at *
   obtain ⟨⟨ok, on⟩, fs⟩ := o
   dsimp only at c0 c1 c2 z0 hvf hfl hwj hob
   have hsr := hf.size
   unfold maxLen at hfl
   obtain ⟨wB, hwB⟩ : ∃ wB, wB = wr.alloc (.cells #[.int .i64 ok, .string on, .slice Af fs.length cf] 150) := ⟨_, rfl⟩
   have hfB : Fr No wr wB := hwB ▸ frc
   have B0 : Bx wB wr.heap.size 150 #[.int .i64 ok, .string on, .slice Af fs.length cf] := hwB ▸ bxc
   have hblr := hL.lt
   have hsB := hfB.size
   have HC := fun m W (hm : m < 100) (h : Lg W l bl (n + 2 * j + m) p) => canLay_ok l bl (n + 2 * j + m) p ⟨ok, on⟩ W h z0 hwj (by omega)
   have HLy := fun m W (hm : m < 100) (h : Lg W l bl (n + 2 * j + m) p) => layout_ok l bl (n + 2 * j + m) p ⟨ok, on⟩ W h z0 hwj (by omega)
   unfold CanPost at HC
   unfold LayPost at HLy
   have hll : canB p ⟨ok, on⟩ = true → layB p ⟨ok, on⟩ = layK p ⟨ok, on⟩ := fun h => by unfold layB; rw [if_pos h]
   have hG : ∀ m W, GotJ p l bl (n + 2 * j) wB m W → Fr (fun b => b = bl) wB W := fun _ _ h => h.1
   have hGs : ∀ W, Fr (fun b => b = bl) wB W → wB.heap.size ≤ W.heap.size := fun _ h => h.size
   have KB : ∀ W, Fr (fun b => b = bl) wB W → W.cell? ⟨wr.heap.size, 0, none⟩ = some (.int .i64 ok) ∧ W.cell? ⟨wr.heap.size, 1, none⟩ = some (.string on) ∧ W.cell? ⟨wr.heap.size, 2, none⟩ = some (.slice Af fs.length cf) ∧ wr.heap.size < W.heap.size := fun W hW => by
    have hb := B0.keepX hW (by omega)
    exact ⟨hb.cell 0, hb.cell 1, hb.cell 2, hb.lt⟩
   have hVal := fun W (h : Fr (fun b => b = bl) wB W) => values_ok X _ fs (xs.length : Int) W ((hvf.keep (R' := ValC) hfB (fun _ h => h.elim) (fun _ _ _ h => h)).keep (R' := ValC) h (fun b hb => hb ▸ hX) (fun _ _ _ h => h))
   clear hvf
   cases hc : canB p ⟨ok, on⟩
   ·have hE2 : Hid (V = false) := hE.out.trans (hno (by rw [hob, hc]; rfl)).out
    rw [hc] at HC
    replace hc := Lib.hid hc
    clear hob hy hno hll hVal HLy
    go_wp2_with fail
    rw [← hwB]
    replace hwB := Lib.hid hwB
    refine wp_region_allL [isV (.pointer (some ⟨l, 0, none⟩)), isV (.pointer (some ⟨wr.heap.size, 0, none⟩)), isV (.agg #[.int .i64 ok, .string on]), isV (.bool false), isV (.bool true), isV (.bool true), isV undef, isV undef, isV undef, isV undef, isV undef, isV undef, isV undef, isV undef, isV undef, isV (.bool true)] [false, false, false, true, false, false, false, false, false, false, false, false, false, false, false, false] [true, true, true, true, true, true, false, false, false, false, false, false, false, false, false, true] 1 (GotJ p l bl (n + 2 * j) wB) (fun W W' => Fr (fun b => b = bl) W W') (by kernel_rfl) (by kernel_rfl) ?_ ?_ ?_ ?_ ?_ (by decide) ?_ ?_ ?_ ?_ ?_
    ·intro o ho d hd; simp only [List.mem_cons, List.not_mem_nil, or_false] at ho; rcases ho with rfl | rfl | rfl | rfl | rfl | rfl | rfl | rfl | rfl | rfl | rfl | rfl | rfl | rfl | rfl | rfl <;> (cases hd <;> simp)
    ·intro x hx
     simp only [List.mem_cons, List.not_mem_nil, or_false] at hx
     rcases hx with rfl | rfl | rfl | rfl | rfl | rfl | rfl | rfl | rfl | rfl | rfl | rfl | rfl | rfl | rfl | rfl
     ·exact isV_mono _
     ·exact isV_mono _
     ·exact isV_mono _
     ·exact isV_mono _
     ·exact isV_mono _
     ·exact isV_mono _
     ·exact isV_mono _
     ·exact isV_mono _
     ·exact isV_mono _
     ·exact isV_mono _
     ·exact isV_mono _
     ·exact isV_mono _
     ·exact isV_mono _
     ·exact isV_mono _
     ·exact isV_mono _
     ·exact isV_mono _
    ·intro x hx v W W' h hs
     simp only [List.mem_cons, List.not_mem_nil, or_false] at hx
     rcases hx with rfl | rfl | rfl | rfl | rfl | rfl | rfl | rfl | rfl | rfl | rfl | rfl | rfl | rfl | rfl | rfl
     ·exact h
     ·exact h
     ·exact h
     ·exact h
     ·exact h
     ·exact h
     ·exact h
     ·exact h
     ·exact h
     ·exact h
     ·exact h
     ·exact h
     ·exact h
     ·exact h
     ·exact h
     ·exact h
    ·exact fun _ _ _ h hf => h.to hf
    ·intro k o ho
     rcases k with _ | _ | _ | _ | _ | _ | _ | _ | _ | _ | _ | _ | _ | _ | _ | _ | k
     all_goals (first | (simp at ho; done) | skip)
     all_goals simp only [List.getElem?_cons_zero, List.getElem?_cons_succ, Option.some.injEq] at ho
     all_goals subst ho
     all_goals refine ⟨fun h => ?_, fun g b h v W hv => ?_⟩
     all_goals first | rfl | (cases h; done) | (cases h; obtain rfl : v = Value.bool _ := hv; rfl)
    ·intro k hk h W
     rcases k with _ | _ | _ | _ | _ | _ | _ | _ | _ | _ | _ | _ | _ | _ | _ | _ | k
     all_goals first | (exact rfl) | (cases h; done) | (simp at hk; done) | (simp at hk; omega)
    ·exact ⟨(Fr.refl _ _).drew, (hL.keep hfB).keep (Fr.refl _ _).drew⟩
    ·intro k o ho hu hg a' W jc hjc hW0 hoff hdep
     have hW := hG jc _ hW0
     have hbs := hGs _ hW
     have H0 := hoff 0 (by simp)
     have H6 := hoff 6 (by simp)
     simp only [Act.eval] at H0 H6
     rcases k with _ | _ | _ | _ | _ | _ | _ | _ | _ | _ | _ | _ | _ | _ | _ | _ | k
     all_goals (first | (simp at ho; done) | skip)
     all_goals (first | (exact absurd hu (by decide)) | skip)
     all_goals (first | (exact absurd hg (by decide)) | skip)
     all_goals simp only [List.getElem?_cons_zero, List.getElem?_cons_succ, Option.some.injEq] at ho
     all_goals subst ho
     ·unfold opGives
      simp [execOp, Act.eval, H0, go_sem, givesUpon]
      exact ⟨Fr.refl _ _, rfl⟩
     ·unfold opGives
      simp [execOp, Act.eval, H6, go_sem, givesUpon]
      exact ⟨Fr.refl _ _, rfl⟩
     ·have D17 : a'.eval (.tmp 17) = .pointer (some ⟨wr.heap.size, 0, none⟩) := hdep ⟨1, .data⟩ (by simp) rfl _ 17 rfl rfl
      simp only [Act.eval] at D17
      unfold opGives
      simp [execOp, Act.eval, go_sem, givesUpon, *]
      exact ⟨Fr.refl _ _, rfl⟩
     ·have D19 : a'.eval (.tmp 19) = .bool false := hdep ⟨3, .data⟩ (by simp) rfl _ 19 rfl rfl
      simp only [Act.eval] at D19
      unfold opGives
      simp [execOp, Act.eval, D19, go_sem, givesUpon]
      exact ⟨Fr.refl _ _, rfl⟩
     ·have D20 : a'.eval (.tmp 20) = .bool true := hdep ⟨4, .data⟩ (by simp) rfl _ 20 rfl rfl
      simp only [Act.eval] at D20
      unfold opGives
      simp [execOp, Act.eval, D20, go_sem, givesUpon]
      exact ⟨Fr.refl _ _, rfl⟩
     ·have D21 : a'.eval (.tmp 21) = .bool true := hdep ⟨5, .data⟩ (by simp) rfl _ 21 rfl rfl
      have D30 : a'.eval (.tmp 30) = undef := hdep ⟨14, .data⟩ (by simp) rfl _ 30 rfl rfl
      simp only [Act.eval] at D21 D30
      unfold opGives
      simp [execOp, Act.eval, go_sem, givesUpon, D21, D30]
      exact ⟨Fr.refl _ _, rfl⟩
    ·intro k o ho hu a' W jc hjc hW0 hoff hdep
     have hW := hG jc _ hW0
     have hbs := hGs _ hW
     have H0 := hoff 0 (by simp)
     have H6 := hoff 6 (by simp)
     simp only [Act.eval] at H0 H6
     rcases k with _ | _ | _ | _ | _ | _ | _ | _ | _ | _ | _ | _ | _ | _ | _ | _ | k
     all_goals (first | (simp at ho; done) | skip)
     all_goals (first | (exact absurd hu (by decide)) | skip)
     all_goals simp only [List.getElem?_cons_zero, List.getElem?_cons_succ, Option.some.injEq] at ho
     all_goals subst ho
     ·have D16 : a'.eval (.tmp 16) = .pointer (some ⟨l, 0, none⟩) := hdep ⟨0, .data⟩ (by simp) rfl _ 16 rfl rfl
      have D18 : a'.eval (.tmp 18) = .agg #[.int .i64 ok, .string on] := hdep ⟨2, .data⟩ (by simp) rfl _ 18 rfl rfl
      simp only [Act.eval] at D16 D18
      unfold opGives
      simp [Act.eval, D16, D18, go_sem, givesUpon]
      exact (HC jc W (by omega) hW0.2).mono fun e w' ⟨h1, h2, h3⟩ => ⟨_, h1, ⟨hW0.1.same h2, h3⟩, h2, rfl⟩
    intro vs WR hWR hv
    have e0 : vs 0 = _ := hv 0 (by decide)
    have e1 : vs 1 = _ := hv 1 (by decide)
    have e2 : vs 2 = _ := hv 2 (by decide)
    have e3 : vs 3 = _ := hv 3 (by decide)
    have e4 : vs 4 = _ := hv 4 (by decide)
    have e5 : vs 5 = _ := hv 5 (by decide)
    have e6 : vs 6 = _ := hv 6 (by decide)
    have e7 : vs 7 = _ := hv 7 (by decide)
    have e8 : vs 8 = _ := hv 8 (by decide)
    have e9 : vs 9 = _ := hv 9 (by decide)
    have e10 : vs 10 = _ := hv 10 (by decide)
    have e11 : vs 11 = _ := hv 11 (by decide)
    have e12 : vs 12 = _ := hv 12 (by decide)
    have e13 : vs 13 = _ := hv 13 (by decide)
    have e14 : vs 14 = _ := hv 14 (by decide)
    have e15 : vs 15 = _ := hv 15 (by decide)
    simp only [putsL, if_true, Nat.zero_add, Nat.reduceAdd, e0, e1, e2, e3, e4, e5, e6, e7, e8, e9, e10, e11, e12, e13, e14, e15]
    simp only [Act.put, List.setIfInBounds_toArray, List.set_cons_zero, List.set_cons_succ]
    clear e0 e1 e2 e3 e4 e5 e6 e7 e8 e9 e10 e11 e12 e13 e14 e15 hv
    clear KB HC
    go_wp2
    go_ret
    exact .mk hE2.out.symm (hf.same (hfB.of0.same hWR.1)) (hWR.2.mono (by omega))
   ·rw [hll hc] at HLy
    rw [hc] at HC hob
    generalize hLL : layK p ⟨ok, on⟩ = L at *
    by_cases hle : fs.length = L.length
    ·replace hc := Lib.hid hc
     replace hle := Lib.hid hle
     clear hll hLL
     go_wp2_with fail
     rw [← hwB]
     replace hwB := Lib.hid hwB
     refine wp_region_allL [isV (.pointer (some ⟨l, 0, none⟩)), isV (.pointer (some ⟨wr.heap.size, 0, none⟩)), isV (.agg #[.int .i64 ok, .string on]), isV (.bool true), isV (.bool false), isV (.bool false), isV (.pointer (some ⟨wr.heap.size, 2, none⟩)), isV (.slice Af fs.length cf), isV (.int .i64 fs.length), isV (.pointer (some ⟨l, 0, none⟩)), isV (.pointer (some ⟨wr.heap.size, 0, none⟩)), isV (.agg #[.int .i64 ok, .string on]), lenV L.length, isV (.int .i64 L.length), isV (.bool false), isV (.bool false)] [false, false, false, true, false, false, false, false, false, false, false, false, true, false, false, false] [true, true, true, true, true, true, true, true, true, true, true, true, true, true, true, true] 2 (GotJ p l bl (n + 2 * j) wB) (fun W W' => Fr (fun b => b = bl) W W') (by kernel_rfl) (by kernel_rfl) ?_ ?_ ?_ ?_ ?_ (by decide) ?_ ?_ ?_ ?_ ?_
     ·intro o ho d hd; simp only [List.mem_cons, List.not_mem_nil, or_false] at ho; rcases ho with rfl | rfl | rfl | rfl | rfl | rfl | rfl | rfl | rfl | rfl | rfl | rfl | rfl | rfl | rfl | rfl <;> (cases hd <;> simp)
     ·intro x hx
      simp only [List.mem_cons, List.not_mem_nil, or_false] at hx
      rcases hx with rfl | rfl | rfl | rfl | rfl | rfl | rfl | rfl | rfl | rfl | rfl | rfl | rfl | rfl | rfl | rfl
      ·exact isV_mono _
      ·exact isV_mono _
      ·exact isV_mono _
      ·exact isV_mono _
      ·exact isV_mono _
      ·exact isV_mono _
      ·exact isV_mono _
      ·exact isV_mono _
      ·exact isV_mono _
      ·exact isV_mono _
      ·exact isV_mono _
      ·exact isV_mono _
      ·exact lenV_mono _
      ·exact isV_mono _
      ·exact isV_mono _
      ·exact isV_mono _
     ·intro x hx v W W' h hs
      simp only [List.mem_cons, List.not_mem_nil, or_false] at hx
      rcases hx with rfl | rfl | rfl | rfl | rfl | rfl | rfl | rfl | rfl | rfl | rfl | rfl | rfl | rfl | rfl | rfl
      ·exact h
      ·exact h
      ·exact h
      ·exact h
      ·exact h
      ·exact h
      ·exact h
      ·exact h
      ·exact h
      ·exact h
      ·exact h
      ·exact h
      ·exact h
      ·exact h
      ·exact h
      ·exact h
     ·exact fun _ _ _ h hf => h.to hf
     ·intro k o ho
      rcases k with _ | _ | _ | _ | _ | _ | _ | _ | _ | _ | _ | _ | _ | _ | _ | _ | k
      all_goals (first | (simp at ho; done) | skip)
      all_goals simp only [List.getElem?_cons_zero, List.getElem?_cons_succ, Option.some.injEq] at ho
      all_goals subst ho
      all_goals refine ⟨fun h => ?_, fun g b h v W hv => ?_⟩
      all_goals first | rfl | (cases h; done) | (cases h; obtain rfl : v = Value.bool _ := hv; rfl)
     ·intro k hk h W; exfalso; revert h; revert hk; revert k; decide
     ·exact ⟨(Fr.refl _ _).drew, (hL.keep hfB).keep (Fr.refl _ _).drew⟩
     ·intro k o ho hu hg a' W jc hjc hW0 hoff hdep
      have hW := hG jc _ hW0
      have hbs := hGs _ hW
      have H0 := hoff 0 (by simp)
      have H6 := hoff 6 (by simp)
      simp only [Act.eval] at H0 H6
      rcases k with _ | _ | _ | _ | _ | _ | _ | _ | _ | _ | _ | _ | _ | _ | _ | _ | k
      all_goals (first | (simp at ho; done) | skip)
      all_goals (first | (exact absurd hu (by decide)) | skip)
      all_goals (first | (exact absurd hg (by decide)) | skip)
      all_goals simp only [List.getElem?_cons_zero, List.getElem?_cons_succ, Option.some.injEq] at ho
      all_goals subst ho
      ·unfold opGives
       simp [execOp, Act.eval, H0, go_sem, givesUpon]
       exact ⟨Fr.refl _ _, rfl⟩
      ·unfold opGives
       simp [execOp, Act.eval, H6, go_sem, givesUpon]
       exact ⟨Fr.refl _ _, rfl⟩
      ·have D17 : a'.eval (.tmp 17) = .pointer (some ⟨wr.heap.size, 0, none⟩) := hdep ⟨1, .data⟩ (by simp) rfl _ 17 rfl rfl
       simp only [Act.eval] at D17
       unfold opGives
       simp [execOp, Act.eval, go_sem, givesUpon, *]
       exact ⟨Fr.refl _ _, rfl⟩
      ·have D19 : a'.eval (.tmp 19) = .bool true := hdep ⟨3, .data⟩ (by simp) rfl _ 19 rfl rfl
       simp only [Act.eval] at D19
       unfold opGives
       simp [execOp, Act.eval, D19, go_sem, givesUpon]
       exact ⟨Fr.refl _ _, rfl⟩
      ·have D20 : a'.eval (.tmp 20) = .bool false := hdep ⟨4, .data⟩ (by simp) rfl _ 20 rfl rfl
       simp only [Act.eval] at D20
       unfold opGives
       simp [execOp, Act.eval, D20, go_sem, givesUpon]
       exact ⟨Fr.refl _ _, rfl⟩
      ·unfold opGives
       simp [execOp, Act.eval, H6, go_sem, givesUpon]
       exact ⟨Fr.refl _ _, rfl⟩
      ·have D22 : a'.eval (.tmp 22) = .pointer (some ⟨wr.heap.size, 2, none⟩) := hdep ⟨6, .data⟩ (by simp) rfl _ 22 rfl rfl
       simp only [Act.eval] at D22
       unfold opGives
       simp [execOp, Act.eval, go_sem, givesUpon, *]
       exact ⟨Fr.refl _ _, rfl⟩
      ·have D23 : a'.eval (.tmp 23) = .slice Af fs.length cf := hdep ⟨7, .data⟩ (by simp) rfl _ 23 rfl rfl
       simp only [Act.eval] at D23
       unfold opGives
       simp [Act.eval, D23, go_sem, givesUpon]
       exact ⟨Fr.refl _ _, rfl⟩
      ·unfold opGives
       simp [execOp, Act.eval, H0, go_sem, givesUpon]
       exact ⟨Fr.refl _ _, rfl⟩
      ·unfold opGives
       simp [execOp, Act.eval, H6, go_sem, givesUpon]
       exact ⟨Fr.refl _ _, rfl⟩
      ·have D26 : a'.eval (.tmp 26) = .pointer (some ⟨wr.heap.size, 0, none⟩) := hdep ⟨10, .data⟩ (by simp) rfl _ 26 rfl rfl
       simp only [Act.eval] at D26
       unfold opGives
       simp [execOp, Act.eval, go_sem, givesUpon, *]
       exact ⟨Fr.refl _ _, rfl⟩
      ·obtain ⟨Ay, cy, D28⟩ : (lenV L.length) (a'.eval (.tmp 28)) W := hdep ⟨12, .data⟩ (by simp) rfl _ 28 rfl rfl
       simp only [Act.eval] at D28
       unfold opGives
       simp [Act.eval, D28, go_sem, givesUpon]
       exact ⟨Fr.refl _ _, rfl⟩
      ·have D24 : a'.eval (.tmp 24) = .int .i64 fs.length := hdep ⟨8, .data⟩ (by simp) rfl _ 24 rfl rfl
       have D29 : a'.eval (.tmp 29) = .int .i64 L.length := hdep ⟨13, .data⟩ (by simp) rfl _ 29 rfl rfl
       simp only [Act.eval] at D24 D29
       unfold opGives
       simp [execOp, Act.eval, D24, D29, go_sem, givesUpon]
       exact ⟨Fr.refl _ _, by unfold isV; have := hle.out; first | (simp [this]; done) | (simp; omega)⟩
      ·have D21 : a'.eval (.tmp 21) = .bool false := hdep ⟨5, .data⟩ (by simp) rfl _ 21 rfl rfl
       have D30 : a'.eval (.tmp 30) = .bool false := hdep ⟨14, .data⟩ (by simp) rfl _ 30 rfl rfl
       simp only [Act.eval] at D21 D30
       unfold opGives
       simp [execOp, Act.eval, go_sem, givesUpon, D21, D30]
       exact ⟨Fr.refl _ _, rfl⟩
     ·intro k o ho hu a' W jc hjc hW0 hoff hdep
      have hW := hG jc _ hW0
      have hbs := hGs _ hW
      have H0 := hoff 0 (by simp)
      have H6 := hoff 6 (by simp)
      simp only [Act.eval] at H0 H6
      rcases k with _ | _ | _ | _ | _ | _ | _ | _ | _ | _ | _ | _ | _ | _ | _ | _ | k
      all_goals (first | (simp at ho; done) | skip)
      all_goals (first | (exact absurd hu (by decide)) | skip)
      all_goals simp only [List.getElem?_cons_zero, List.getElem?_cons_succ, Option.some.injEq] at ho
      all_goals subst ho
      ·have D16 : a'.eval (.tmp 16) = .pointer (some ⟨l, 0, none⟩) := hdep ⟨0, .data⟩ (by simp) rfl _ 16 rfl rfl
       have D18 : a'.eval (.tmp 18) = .agg #[.int .i64 ok, .string on] := hdep ⟨2, .data⟩ (by simp) rfl _ 18 rfl rfl
       simp only [Act.eval] at D16 D18
       unfold opGives
       simp [Act.eval, D16, D18, go_sem, givesUpon]
       exact (HC jc W (by omega) hW0.2).mono fun e w' ⟨h1, h2, h3⟩ => ⟨_, h1, ⟨hW0.1.same h2, h3⟩, h2, rfl⟩
      ·have D25 : a'.eval (.tmp 25) = .pointer (some ⟨l, 0, none⟩) := hdep ⟨9, .data⟩ (by simp) rfl _ 25 rfl rfl
       have D27 : a'.eval (.tmp 27) = .agg #[.int .i64 ok, .string on] := hdep ⟨11, .data⟩ (by simp) rfl _ 27 rfl rfl
       simp only [Act.eval] at D25 D27
       unfold opGives
       simp [Act.eval, D25, D27, go_sem, givesUpon]
       exact (HLy jc W (by omega) hW0.2).mono fun e w' ⟨v, h1, h2, h3, h4⟩ => ⟨_, h1, ⟨hW0.1.same h3, h4⟩, h3, ownsRow_len2 h2⟩
     intro vs WR hWR hv
     have e0 : vs 0 = _ := hv 0 (by decide)
     have e1 : vs 1 = _ := hv 1 (by decide)
     have e2 : vs 2 = _ := hv 2 (by decide)
     have e3 : vs 3 = _ := hv 3 (by decide)
     have e4 : vs 4 = _ := hv 4 (by decide)
     have e5 : vs 5 = _ := hv 5 (by decide)
     have e6 : vs 6 = _ := hv 6 (by decide)
     have e7 : vs 7 = _ := hv 7 (by decide)
     have e8 : vs 8 = _ := hv 8 (by decide)
     have e9 : vs 9 = _ := hv 9 (by decide)
     have e10 : vs 10 = _ := hv 10 (by decide)
     have e11 : vs 11 = _ := hv 11 (by decide)
     obtain ⟨AyR12, cyR12, e12⟩ := hv 12 (by decide)
     have e13 : vs 13 = _ := hv 13 (by decide)
     have e14 : vs 14 = _ := hv 14 (by decide)
     have e15 : vs 15 = _ := hv 15 (by decide)
     simp only [putsL, if_true, Nat.zero_add, Nat.reduceAdd, e0, e1, e2, e3, e4, e5, e6, e7, e8, e9, e10, e11, e12, e13, e14, e15]
     simp only [Act.put, List.setIfInBounds_toArray, List.set_cons_zero, List.set_cons_succ]
     clear e0 e1 e2 e3 e4 e5 e6 e7 e8 e9 e10 e11 e12 e13 e14 e15 hv
     have hWf := hG _ _ hWR
     obtain ⟨y0, y1, y2, y3⟩ := KB _ hWf
     have hVW := hVal _ hWf
     have hob2 : objB p xs.length ⟨⟨ok, on⟩, fs⟩ = fs.all (valB xs.length) := by rw [hob, decide_eq_true hle.out]; simp
     have hqf : Fr (fun b => b = bl) w WR := hf.same (hfB.of0.same hWR.1)
     have hqL : Lg WR l bl (n + 2 * (j + 1)) p := hWR.2
     clear KB HC HLy hob hle hVal
     cases hx : fs.all (valB xs.length)
     ·have hE2 : Hid (V = false) := hE.out.trans (hno (by rw [hob2, hx])).out
      rw [hx] at hVW
      clear hx hy hno hob2
      go_wp2_with (go_at_call 80; refine hVW.mono ?_; rintro e w3 ⟨rfl, hf3⟩)
      go_ret
      exact .mk hE2.out.symm (hqf.trans0 hf3) ((hqL.keep hf3).mono (by omega))
     ·have hy2 := hy (by rw [hob2, hx])
      rw [hx] at hVW
      clear hx hy hno hob2
      go_wp2_with (go_at_call 80; refine hVW.mono ?_; rintro e w3 ⟨rfl, hf3⟩)
      go_roundw
      case rel => exact ⟨j + 1, by omega, by go_num, hy2, hqf.trans0 hf3, hqL.keep hf3⟩
      case measure => simp [intOf]; omega
    ·have hE2 : Hid (V = false) := hE.out.trans (hno (by rw [hob, decide_eq_false hle]; rfl)).out
     replace hc := Lib.hid hc
     replace hle := Lib.hid hle
     clear hll hLL hob hy hno hVal
     go_wp2_with fail
     rw [← hwB]
     replace hwB := Lib.hid hwB
     refine wp_region_allL [isV (.pointer (some ⟨l, 0, none⟩)), isV (.pointer (some ⟨wr.heap.size, 0, none⟩)), isV (.agg #[.int .i64 ok, .string on]), isV (.bool true), isV (.bool false), isV (.bool false), isV (.pointer (some ⟨wr.heap.size, 2, none⟩)), isV (.slice Af fs.length cf), isV (.int .i64 fs.length), isV (.pointer (some ⟨l, 0, none⟩)), isV (.pointer (some ⟨wr.heap.size, 0, none⟩)), isV (.agg #[.int .i64 ok, .string on]), lenV L.length, isV (.int .i64 L.length), isV (.bool true), isV (.bool true)] [false, false, false, true, false, false, false, false, false, false, false, false, true, false, false, false] [true, true, true, true, true, true, true, true, true, true, true, true, true, true, true, true] 2 (GotJ p l bl (n + 2 * j) wB) (fun W W' => Fr (fun b => b = bl) W W') (by kernel_rfl) (by kernel_rfl) ?_ ?_ ?_ ?_ ?_ (by decide) ?_ ?_ ?_ ?_ ?_
     ·intro o ho d hd; simp only [List.mem_cons, List.not_mem_nil, or_false] at ho; rcases ho with rfl | rfl | rfl | rfl | rfl | rfl | rfl | rfl | rfl | rfl | rfl | rfl | rfl | rfl | rfl | rfl <;> (cases hd <;> simp)
     ·intro x hx
      simp only [List.mem_cons, List.not_mem_nil, or_false] at hx
      rcases hx with rfl | rfl | rfl | rfl | rfl | rfl | rfl | rfl | rfl | rfl | rfl | rfl | rfl | rfl | rfl | rfl
      ·exact isV_mono _
      ·exact isV_mono _
      ·exact isV_mono _
      ·exact isV_mono _
      ·exact isV_mono _
      ·exact isV_mono _
      ·exact isV_mono _
      ·exact isV_mono _
      ·exact isV_mono _
      ·exact isV_mono _
      ·exact isV_mono _
      ·exact isV_mono _
      ·exact lenV_mono _
      ·exact isV_mono _
      ·exact isV_mono _
      ·exact isV_mono _
     ·intro x hx v W W' h hs
      simp only [List.mem_cons, List.not_mem_nil, or_false] at hx
      rcases hx with rfl | rfl | rfl | rfl | rfl | rfl | rfl | rfl | rfl | rfl | rfl | rfl | rfl | rfl | rfl | rfl
      ·exact h
      ·exact h
      ·exact h
      ·exact h
      ·exact h
      ·exact h
      ·exact h
      ·exact h
      ·exact h
      ·exact h
      ·exact h
      ·exact h
      ·exact h
      ·exact h
      ·exact h
      ·exact h
     ·exact fun _ _ _ h hf => h.to hf
     ·intro k o ho
      rcases k with _ | _ | _ | _ | _ | _ | _ | _ | _ | _ | _ | _ | _ | _ | _ | _ | k
      all_goals (first | (simp at ho; done) | skip)
      all_goals simp only [List.getElem?_cons_zero, List.getElem?_cons_succ, Option.some.injEq] at ho
      all_goals subst ho
      all_goals refine ⟨fun h => ?_, fun g b h v W hv => ?_⟩
      all_goals first | rfl | (cases h; done) | (cases h; obtain rfl : v = Value.bool _ := hv; rfl)
     ·intro k hk h W; exfalso; revert h; revert hk; revert k; decide
     ·exact ⟨(Fr.refl _ _).drew, (hL.keep hfB).keep (Fr.refl _ _).drew⟩
     ·intro k o ho hu hg a' W jc hjc hW0 hoff hdep
      have hW := hG jc _ hW0
      have hbs := hGs _ hW
      have H0 := hoff 0 (by simp)
      have H6 := hoff 6 (by simp)
      simp only [Act.eval] at H0 H6
      rcases k with _ | _ | _ | _ | _ | _ | _ | _ | _ | _ | _ | _ | _ | _ | _ | _ | k
      all_goals (first | (simp at ho; done) | skip)
      all_goals (first | (exact absurd hu (by decide)) | skip)
      all_goals (first | (exact absurd hg (by decide)) | skip)
      all_goals simp only [List.getElem?_cons_zero, List.getElem?_cons_succ, Option.some.injEq] at ho
      all_goals subst ho
      ·unfold opGives
       simp [execOp, Act.eval, H0, go_sem, givesUpon]
       exact ⟨Fr.refl _ _, rfl⟩
      ·unfold opGives
       simp [execOp, Act.eval, H6, go_sem, givesUpon]
       exact ⟨Fr.refl _ _, rfl⟩
      ·have D17 : a'.eval (.tmp 17) = .pointer (some ⟨wr.heap.size, 0, none⟩) := hdep ⟨1, .data⟩ (by simp) rfl _ 17 rfl rfl
       simp only [Act.eval] at D17
       unfold opGives
       simp [execOp, Act.eval, go_sem, givesUpon, *]
       exact ⟨Fr.refl _ _, rfl⟩
      ·have D19 : a'.eval (.tmp 19) = .bool true := hdep ⟨3, .data⟩ (by simp) rfl _ 19 rfl rfl
       simp only [Act.eval] at D19
       unfold opGives
       simp [execOp, Act.eval, D19, go_sem, givesUpon]
       exact ⟨Fr.refl _ _, rfl⟩
      ·have D20 : a'.eval (.tmp 20) = .bool false := hdep ⟨4, .data⟩ (by simp) rfl _ 20 rfl rfl
       simp only [Act.eval] at D20
       unfold opGives
       simp [execOp, Act.eval, D20, go_sem, givesUpon]
       exact ⟨Fr.refl _ _, rfl⟩
      ·unfold opGives
       simp [execOp, Act.eval, H6, go_sem, givesUpon]
       exact ⟨Fr.refl _ _, rfl⟩
      ·have D22 : a'.eval (.tmp 22) = .pointer (some ⟨wr.heap.size, 2, none⟩) := hdep ⟨6, .data⟩ (by simp) rfl _ 22 rfl rfl
       simp only [Act.eval] at D22
       unfold opGives
       simp [execOp, Act.eval, go_sem, givesUpon, *]
       exact ⟨Fr.refl _ _, rfl⟩
      ·have D23 : a'.eval (.tmp 23) = .slice Af fs.length cf := hdep ⟨7, .data⟩ (by simp) rfl _ 23 rfl rfl
       simp only [Act.eval] at D23
       unfold opGives
       simp [Act.eval, D23, go_sem, givesUpon]
       exact ⟨Fr.refl _ _, rfl⟩
      ·unfold opGives
       simp [execOp, Act.eval, H0, go_sem, givesUpon]
       exact ⟨Fr.refl _ _, rfl⟩
      ·unfold opGives
       simp [execOp, Act.eval, H6, go_sem, givesUpon]
       exact ⟨Fr.refl _ _, rfl⟩
      ·have D26 : a'.eval (.tmp 26) = .pointer (some ⟨wr.heap.size, 0, none⟩) := hdep ⟨10, .data⟩ (by simp) rfl _ 26 rfl rfl
       simp only [Act.eval] at D26
       unfold opGives
       simp [execOp, Act.eval, go_sem, givesUpon, *]
       exact ⟨Fr.refl _ _, rfl⟩
      ·obtain ⟨Ay, cy, D28⟩ : (lenV L.length) (a'.eval (.tmp 28)) W := hdep ⟨12, .data⟩ (by simp) rfl _ 28 rfl rfl
       simp only [Act.eval] at D28
       unfold opGives
       simp [Act.eval, D28, go_sem, givesUpon]
       exact ⟨Fr.refl _ _, rfl⟩
      ·have D24 : a'.eval (.tmp 24) = .int .i64 fs.length := hdep ⟨8, .data⟩ (by simp) rfl _ 24 rfl rfl
       have D29 : a'.eval (.tmp 29) = .int .i64 L.length := hdep ⟨13, .data⟩ (by simp) rfl _ 29 rfl rfl
       simp only [Act.eval] at D24 D29
       unfold opGives
       simp [execOp, Act.eval, D24, D29, go_sem, givesUpon]
       exact ⟨Fr.refl _ _, by unfold isV; have := hle.out; simp; omega⟩
      ·have D21 : a'.eval (.tmp 21) = .bool false := hdep ⟨5, .data⟩ (by simp) rfl _ 21 rfl rfl
       have D30 : a'.eval (.tmp 30) = .bool true := hdep ⟨14, .data⟩ (by simp) rfl _ 30 rfl rfl
       simp only [Act.eval] at D21 D30
       unfold opGives
       simp [execOp, Act.eval, go_sem, givesUpon, D21, D30]
       exact ⟨Fr.refl _ _, rfl⟩
     ·intro k o ho hu a' W jc hjc hW0 hoff hdep
      have hW := hG jc _ hW0
      have hbs := hGs _ hW
      have H0 := hoff 0 (by simp)
      have H6 := hoff 6 (by simp)
      simp only [Act.eval] at H0 H6
      rcases k with _ | _ | _ | _ | _ | _ | _ | _ | _ | _ | _ | _ | _ | _ | _ | _ | k
      all_goals (first | (simp at ho; done) | skip)
      all_goals (first | (exact absurd hu (by decide)) | skip)
      all_goals simp only [List.getElem?_cons_zero, List.getElem?_cons_succ, Option.some.injEq] at ho
      all_goals subst ho
      ·have D16 : a'.eval (.tmp 16) = .pointer (some ⟨l, 0, none⟩) := hdep ⟨0, .data⟩ (by simp) rfl _ 16 rfl rfl
       have D18 : a'.eval (.tmp 18) = .agg #[.int .i64 ok, .string on] := hdep ⟨2, .data⟩ (by simp) rfl _ 18 rfl rfl
       simp only [Act.eval] at D16 D18
       unfold opGives
       simp [Act.eval, D16, D18, go_sem, givesUpon]
       exact (HC jc W (by omega) hW0.2).mono fun e w' ⟨h1, h2, h3⟩ => ⟨_, h1, ⟨hW0.1.same h2, h3⟩, h2, rfl⟩
      ·have D25 : a'.eval (.tmp 25) = .pointer (some ⟨l, 0, none⟩) := hdep ⟨9, .data⟩ (by simp) rfl _ 25 rfl rfl
       have D27 : a'.eval (.tmp 27) = .agg #[.int .i64 ok, .string on] := hdep ⟨11, .data⟩ (by simp) rfl _ 27 rfl rfl
       simp only [Act.eval] at D25 D27
       unfold opGives
       simp [Act.eval, D25, D27, go_sem, givesUpon]
       exact (HLy jc W (by omega) hW0.2).mono fun e w' ⟨v, h1, h2, h3, h4⟩ => ⟨_, h1, ⟨hW0.1.same h3, h4⟩, h3, ownsRow_len2 h2⟩
     intro vs WR hWR hv
     have e0 : vs 0 = _ := hv 0 (by decide)
     have e1 : vs 1 = _ := hv 1 (by decide)
     have e2 : vs 2 = _ := hv 2 (by decide)
     have e3 : vs 3 = _ := hv 3 (by decide)
     have e4 : vs 4 = _ := hv 4 (by decide)
     have e5 : vs 5 = _ := hv 5 (by decide)
     have e6 : vs 6 = _ := hv 6 (by decide)
     have e7 : vs 7 = _ := hv 7 (by decide)
     have e8 : vs 8 = _ := hv 8 (by decide)
     have e9 : vs 9 = _ := hv 9 (by decide)
     have e10 : vs 10 = _ := hv 10 (by decide)
     have e11 : vs 11 = _ := hv 11 (by decide)
     obtain ⟨AyR12, cyR12, e12⟩ := hv 12 (by decide)
     have e13 : vs 13 = _ := hv 13 (by decide)
     have e14 : vs 14 = _ := hv 14 (by decide)
     have e15 : vs 15 = _ := hv 15 (by decide)
     simp only [putsL, if_true, Nat.zero_add, Nat.reduceAdd, e0, e1, e2, e3, e4, e5, e6, e7, e8, e9, e10, e11, e12, e13, e14, e15]
     simp only [Act.put, List.setIfInBounds_toArray, List.set_cons_zero, List.set_cons_succ]
     clear e0 e1 e2 e3 e4 e5 e6 e7 e8 e9 e10 e11 e12 e13 e14 e15 hv
     clear KB HC HLy
     go_wp2
     go_ret
     exact .mk hE2.out.symm (hf.same (hfB.of0.same hWR.1)) (hWR.2.mono (by omega))
  ·have hE2 : Hid (V = true) := hE.out.trans (allB_yes (by omega) hn'.out)
   clear hv hn'
   go_wp2
   go_ret
   exact .mk hE2.out.symm hf (hL.mono (by omega))
end Go.Proofs.YtbalicnnlfennaaGreat
