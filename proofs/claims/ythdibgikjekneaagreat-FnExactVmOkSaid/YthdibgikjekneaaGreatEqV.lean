/- The laws' own comparisons of values, things, runs: what reads as the same data is equal. -/
import Derived.Test.YthdibgikjekneaaGreatEq
import Derived.Test.YthdibgikjekneaaGreatVmd
namespace Go.Proofs.YthdibgikjekneaaGreat
open Go.RowKit

set_option maxRecDepth 100000 in
set_option maxHeartbeats 2000000 in
theorem eqRef_go (x : Ref) (cs cs1 : List Value) (w : World) (h : RefC cs x) (h1 : RefC cs1 x) :
    Calls Tryz.prog 115 #[.agg cs.toArray, .agg cs1.toArray] w (BoolFr true w) := by
  obtain ⟨rfl, _⟩ := h
  obtain ⟨rfl, _⟩ := h1
  go_enter Tryz.func115, Tryz.ntmps115
  go_wp2
  go_ret
  exact .mk rfl (by exact frc)

set_option maxRecDepth 100000 in
set_option maxHeartbeats 2000000 in
theorem eqLMth_go (x : LMth) (cs cs1 : List Value) (w : World) (h : LMthC cs x) (h1 : LMthC cs1 x) :
    Calls Tryz.prog 172 #[.agg cs.toArray, .agg cs1.toArray] w (BoolFr true w) := by
  obtain ⟨rfl, z0⟩ := h
  obtain ⟨rfl, _⟩ := h1
  have H_of_ := fun W (_ : Fr No w W) => eqRef_go x.of_ _ _ W ⟨rfl, (by assumption)⟩ ⟨rfl, (by assumption)⟩
  go_enter Tryz.func172, Tryz.ntmps172
  have ha0 : Bx ((w.alloc (.cells #[.int .i64 x.of_.keeper, .string x.of_.name, .int .i64 x.at_] 98)).alloc (.cells #[.int .i64 x.of_.keeper, .string x.of_.name, .int .i64 x.at_] 98)) w.heap.size 98 #[.int .i64 x.of_.keeper, .string x.of_.name, .int .i64 x.at_] := (Bx.new_ rfl).alloc _
  have hb0 : Bx ((w.alloc (.cells #[.int .i64 x.of_.keeper, .string x.of_.name, .int .i64 x.at_] 98)).alloc (.cells #[.int .i64 x.of_.keeper, .string x.of_.name, .int .i64 x.at_] 98)) (w.heap.size + 1) 98 #[.int .i64 x.of_.keeper, .string x.of_.name, .int .i64 x.at_] := Bx.new_ (by simp)
  go_wp2_with (first
    | (go_at_call 115; refine (H_of_ _ ?_).mono ?_; (focus (exact frc)); rintro e w1 ⟨rfl, hf1⟩; have ha1 := Bx.keepTo w1 ha0 (by exact frc); have hb1 := Bx.keepTo w1 hb0 (by exact frc); obtain ⟨e1_0, e1_1, e1_2⟩ := ha1.c3; obtain ⟨f1_0, f1_1, f1_2⟩ := hb1.c3; have hw1 : Fr No w w1 := (by exact frc)))
  go_ret
  exact .mk rfl (by exact frc)

set_option maxRecDepth 100000 in
set_option maxHeartbeats 2000000 in
theorem eqVal_go (x : Val) (cs cs1 : List Value) (w : World) (h : ValC cs x) (h1 : ValC cs1 x) :
    Calls Tryz.prog 74 #[.agg cs.toArray, .agg cs1.toArray] w (BoolFr true w) := by
  obtain rfl := h
  obtain rfl := h1
  go_enter Tryz.func74, Tryz.ntmps74
  go_wp2
  go_ret
  exact .mk rfl (by exact frc)

set_option maxRecDepth 100000 in
set_option maxHeartbeats 2000000 in
theorem eqValS_go (X Y : Nat → Prop) (v v1 : Value) (xs : List Val) (w : World) (h : Sl X w 2 ValC v xs) (g : Sl Y w 2 ValC v1 xs) :
    Calls Tryz.prog 116 #[v, v1] w (BoolFr true w) := by
  obtain ⟨A, cap, rfl, _, hlen⟩ := h.form
  obtain ⟨B, cap1, rfl, _, _⟩ := g.form
  unfold maxLen at hlen
  go_enter Tryz.func116, Tryz.ntmps116
  go_wp2
  go_loopw [5, 4] (fun i r wr => ∃ k : Nat, k ≤ xs.length ∧ i = .int .i64 k ∧ r = .bool false ∧ Fr No w wr) (fun i _ _ => xs.length - (intOf i).toNat)
  case atStart => exact ⟨0, Nat.zero_le _, rfl, rfl, Fr.refl _ _⟩
  case round =>
    obtain ⟨k, hk, rfl, rfl, hf⟩ := hrel
    by_cases hlt : k < xs.length
    · obtain ⟨b, bf, rfl, _, c0, c1⟩ := (h.keep hf (fun _ h => h.elim) (fun _ _ _ h => h)).val hlt
      obtain ⟨a, af, rfl, _, f0, f1⟩ := (g.keep hf (fun _ h => h.elim) (fun _ _ _ h => h)).val hlt
      clear h g
      have H := fun W (_ : Fr No wr W) => eqVal_go xs[k] _ _ W rfl rfl
      generalize xs[k] = x at *
      have c0 := fun W (h : Fr No wr W) => h.keep0 c0
      have f0 := fun W (h : Fr No wr W) => h.keep0 f0
      have c1 := fun W (h : Fr No wr W) => h.keep0 c1
      have f1 := fun W (h : Fr No wr W) => h.keep0 f1
      go_wp2_with fail
      first
        | ((refine wp_region_fr (X := No) (by kernel_rfl) (by kernel_rfl) ?_); (repeat (first | (apply wq_pass; (focus (exact rfl)); simp only [Act.put, List.setIfInBounds_toArray, List.set_cons_zero, List.set_cons_succ]) | (apply wq_run; (focus (exact rfl)); (focus (intro W hW; go_simp; first | done | exact rfl | (go_at_call 74; exact (H W hW).mono (fun _ _ h => ⟨h.1, hW.trans0 h.2⟩)))); simp only [Act.put, List.setIfInBounds_toArray, List.set_cons_zero, List.set_cons_succ]))); refine wpQuiet_nil ?_)
        | ((refine wp_region_frn (X := No) ?_); (repeat (first | (apply wq_pass; (focus (exact rfl)); simp only [Act.put, List.setIfInBounds_toArray, List.set_cons_zero, List.set_cons_succ]) | (apply wq_run; (focus (exact rfl)); (focus (intro W hW; go_simp; first | done | exact rfl | (go_at_call 74; exact (H W hW).mono (fun _ _ h => ⟨h.1, hW.trans0 h.2⟩)))); simp only [Act.put, List.setIfInBounds_toArray, List.set_cons_zero, List.set_cons_succ]))); refine wpQuiet_nil ?_)
      intro w1 hf1
      clear c0 c1 f0 f1 H
      go_wp2
      go_roundw
      case rel => exact ⟨k + 1, by omega, by go_num, rfl, by exact frc⟩
      case measure => simp [intOf]; omega
    · clear h g
      go_wp2
      go_ret
      exact .mk rfl (by exact frc)

set_option maxRecDepth 100000 in
set_option maxHeartbeats 2000000 in
theorem eqFrm_go (X Y : Nat → Prop) (x : Frm) (cs cs1 : List Value) (w : World) (h : FrmC X w cs x) (h1 : FrmC Y w cs1 x) :
    Calls Tryz.prog 121 #[.agg cs.toArray, .agg cs1.toArray] w (BoolFr true w) := by
  obtain ⟨v_locals, v_stack, rfl, z0, h_locals, h_stack⟩ := h
  obtain ⟨u_locals, u_stack, rfl, _, g_locals, g_stack⟩ := h1
  have H_of_ := fun W (_ : Fr No w W) => eqLMth_go x.of_ _ _ W ⟨rfl, (by assumption)⟩ ⟨rfl, (by assumption)⟩
  have H_locals := fun W (h : Fr No w W) => eqValS_go X Y _ _ x.locals W (h_locals.keep h (fun _ h => h.elim) (fun _ _ _ h => h)) (g_locals.keep h (fun _ h => h.elim) (fun _ _ _ h => h))
  have H_stack := fun W (h : Fr No w W) => eqValS_go X Y _ _ x.stack W (h_stack.keep h (fun _ h => h.elim) (fun _ _ _ h => h)) (g_stack.keep h (fun _ h => h.elim) (fun _ _ _ h => h))
  obtain ⟨A_locals, c_locals, rfl, _, _⟩ := h_locals.form
  obtain ⟨B_locals, d_locals, rfl, _, _⟩ := g_locals.form
  clear h_locals g_locals
  obtain ⟨A_stack, c_stack, rfl, _, _⟩ := h_stack.form
  obtain ⟨B_stack, d_stack, rfl, _, _⟩ := g_stack.form
  clear h_stack g_stack
  go_enter Tryz.func121, Tryz.ntmps121
  have ha0 : Bx ((w.alloc (.cells #[.int .i64 x.of_.of_.keeper, .string x.of_.of_.name, .int .i64 x.of_.at_, .int .i64 x.pc, .slice A_locals x.locals.length c_locals, .slice A_stack x.stack.length c_stack] 127)).alloc (.cells #[.int .i64 x.of_.of_.keeper, .string x.of_.of_.name, .int .i64 x.of_.at_, .int .i64 x.pc, .slice B_locals x.locals.length d_locals, .slice B_stack x.stack.length d_stack] 127)) w.heap.size 127 #[.int .i64 x.of_.of_.keeper, .string x.of_.of_.name, .int .i64 x.of_.at_, .int .i64 x.pc, .slice A_locals x.locals.length c_locals, .slice A_stack x.stack.length c_stack] := (Bx.new_ rfl).alloc _
  have hb0 : Bx ((w.alloc (.cells #[.int .i64 x.of_.of_.keeper, .string x.of_.of_.name, .int .i64 x.of_.at_, .int .i64 x.pc, .slice A_locals x.locals.length c_locals, .slice A_stack x.stack.length c_stack] 127)).alloc (.cells #[.int .i64 x.of_.of_.keeper, .string x.of_.of_.name, .int .i64 x.of_.at_, .int .i64 x.pc, .slice B_locals x.locals.length d_locals, .slice B_stack x.stack.length d_stack] 127)) (w.heap.size + 1) 127 #[.int .i64 x.of_.of_.keeper, .string x.of_.of_.name, .int .i64 x.of_.at_, .int .i64 x.pc, .slice B_locals x.locals.length d_locals, .slice B_stack x.stack.length d_stack] := Bx.new_ (by simp)
  go_wp2_with (first
    | (go_at_call 172; refine (H_of_ _ ?_).mono ?_; (focus (exact frc)); rintro e w1 ⟨rfl, hf1⟩; have ha1 := Bx.keepTo w1 ha0 (by exact frc); have hb1 := Bx.keepTo w1 hb0 (by exact frc); obtain ⟨e1_0, e1_1, e1_2, e1_3, e1_4, e1_5⟩ := ha1.c6; obtain ⟨f1_0, f1_1, f1_2, f1_3, f1_4, f1_5⟩ := hb1.c6; have hw1 : Fr No w w1 := (by exact frc))
    | (go_at_call_of 116 (Value.slice A_locals x.locals.length c_locals); refine (H_locals _ ?_).mono ?_; (focus (exact frc)); rintro e w2 ⟨rfl, hf2⟩; have ha2 := Bx.keepTo w2 ha1 (by exact frc); have hb2 := Bx.keepTo w2 hb1 (by exact frc); obtain ⟨e2_0, e2_1, e2_2, e2_3, e2_4, e2_5⟩ := ha2.c6; obtain ⟨f2_0, f2_1, f2_2, f2_3, f2_4, f2_5⟩ := hb2.c6; have hw2 : Fr No w w2 := (by exact frc))
    | (go_at_call_of 116 (Value.slice A_stack x.stack.length c_stack); refine (H_stack _ ?_).mono ?_; (focus (exact frc)); rintro e w3 ⟨rfl, hf3⟩; have ha3 := Bx.keepTo w3 ha2 (by exact frc); have hb3 := Bx.keepTo w3 hb2 (by exact frc); obtain ⟨e3_0, e3_1, e3_2, e3_3, e3_4, e3_5⟩ := ha3.c6; obtain ⟨f3_0, f3_1, f3_2, f3_3, f3_4, f3_5⟩ := hb3.c6; have hw3 : Fr No w w3 := (by exact frc)))
  go_ret
  exact .mk rfl (by exact frc)

set_option maxRecDepth 100000 in
set_option maxHeartbeats 2000000 in
theorem eqFrmS_go (X Y : Nat → Prop) (v v1 : Value) (xs : List Frm) (w : World) (h : Sl X w 6 (FrmC X w) v xs) (g : Sl Y w 6 (FrmC Y w) v1 xs) :
    Calls Tryz.prog 72 #[v, v1] w (BoolFr true w) := by
  obtain ⟨A, cap, rfl, _, hlen⟩ := h.form
  obtain ⟨B, cap1, rfl, _, _⟩ := g.form
  unfold maxLen at hlen
  go_enter Tryz.func72, Tryz.ntmps72
  go_wp2
  go_loopw [5, 4] (fun i r wr => ∃ k : Nat, k ≤ xs.length ∧ i = .int .i64 k ∧ r = .bool false ∧ Fr No w wr) (fun i _ _ => xs.length - (intOf i).toNat)
  case atStart => exact ⟨0, Nat.zero_le _, rfl, rfl, Fr.refl _ _⟩
  case round =>
    obtain ⟨k, hk, rfl, rfl, hf⟩ := hrel
    by_cases hlt : k < xs.length
    · obtain ⟨b, bf, A_locals, c_locals, A_stack, c_stack, rfl, _, c0, c1, c2, c3, c4, c5, z0, hA_locals, hA_stack, _, _, _, _⟩ := (h.keep hf (fun _ h => h.elim) (fun _ _ _ h9 => h9.keep hf (fun _ h => h.elim))).frm hlt
      obtain ⟨a, af, B_locals, d_locals, B_stack, d_stack, rfl, _, f0, f1, f2, f3, f4, f5, y0, hB_locals, hB_stack, _, _, _, _⟩ := (g.keep hf (fun _ h => h.elim) (fun _ _ _ h9 => h9.keep hf (fun _ h => h.elim))).frm hlt
      clear h g
      have H := fun W (h : Fr No wr W) => eqFrm_go X Y xs[k] _ _ W ((show FrmC X wr [.int .i64 xs[k].of_.of_.keeper, .string xs[k].of_.of_.name, .int .i64 xs[k].of_.at_, .int .i64 xs[k].pc, .slice A_locals xs[k].locals.length c_locals, .slice A_stack xs[k].stack.length c_stack] xs[k] from ⟨_, _, rfl, z0, hA_locals, hA_stack⟩).keep h (fun _ h => h.elim)) ((show FrmC Y wr [.int .i64 xs[k].of_.of_.keeper, .string xs[k].of_.of_.name, .int .i64 xs[k].of_.at_, .int .i64 xs[k].pc, .slice B_locals xs[k].locals.length d_locals, .slice B_stack xs[k].stack.length d_stack] xs[k] from ⟨_, _, rfl, y0, hB_locals, hB_stack⟩).keep h (fun _ h => h.elim))
      generalize xs[k] = x at *
      have c0 := fun W (h : Fr No wr W) => h.keep0 c0
      have f0 := fun W (h : Fr No wr W) => h.keep0 f0
      have c1 := fun W (h : Fr No wr W) => h.keep0 c1
      have f1 := fun W (h : Fr No wr W) => h.keep0 f1
      have c2 := fun W (h : Fr No wr W) => h.keep0 c2
      have f2 := fun W (h : Fr No wr W) => h.keep0 f2
      have c3 := fun W (h : Fr No wr W) => h.keep0 c3
      have f3 := fun W (h : Fr No wr W) => h.keep0 f3
      have c4 := fun W (h : Fr No wr W) => h.keep0 c4
      have f4 := fun W (h : Fr No wr W) => h.keep0 f4
      have c5 := fun W (h : Fr No wr W) => h.keep0 c5
      have f5 := fun W (h : Fr No wr W) => h.keep0 f5
      go_wp2_with fail
      first
        | ((refine wp_region_fr (X := No) (by kernel_rfl) (by kernel_rfl) ?_); (repeat (first | (apply wq_pass; (focus (exact rfl)); simp only [Act.put, List.setIfInBounds_toArray, List.set_cons_zero, List.set_cons_succ]) | (apply wq_run; (focus (exact rfl)); (focus (intro W hW; go_simp; first | done | exact rfl | (go_at_call 121; exact (H W hW).mono (fun _ _ h => ⟨h.1, hW.trans0 h.2⟩)))); simp only [Act.put, List.setIfInBounds_toArray, List.set_cons_zero, List.set_cons_succ]))); refine wpQuiet_nil ?_)
        | ((refine wp_region_frn (X := No) ?_); (repeat (first | (apply wq_pass; (focus (exact rfl)); simp only [Act.put, List.setIfInBounds_toArray, List.set_cons_zero, List.set_cons_succ]) | (apply wq_run; (focus (exact rfl)); (focus (intro W hW; go_simp; first | done | exact rfl | (go_at_call 121; exact (H W hW).mono (fun _ _ h => ⟨h.1, hW.trans0 h.2⟩)))); simp only [Act.put, List.setIfInBounds_toArray, List.set_cons_zero, List.set_cons_succ]))); refine wpQuiet_nil ?_)
      intro w1 hf1
      clear c0 c1 c2 c3 c4 c5 f0 f1 f2 f3 f4 f5 H
      go_wp2
      go_roundw
      case rel => exact ⟨k + 1, by omega, by go_num, rfl, by exact frc⟩
      case measure => simp [intOf]; omega
    · clear h g
      go_wp2
      go_ret
      exact .mk rfl (by exact frc)

set_option maxRecDepth 100000 in
set_option maxHeartbeats 2000000 in
theorem eqObj_go (X Y : Nat → Prop) (x : Obj) (cs cs1 : List Value) (w : World) (h : ObjC X w cs x) (h1 : ObjC Y w cs1 x) :
    Calls Tryz.prog 65 #[.agg cs.toArray, .agg cs1.toArray] w (BoolFr true w) := by
  obtain ⟨v_fields, rfl, z0, h_fields⟩ := h
  obtain ⟨u_fields, rfl, _, g_fields⟩ := h1
  have H_of_ := fun W (_ : Fr No w W) => eqRef_go x.of_ _ _ W ⟨rfl, (by assumption)⟩ ⟨rfl, (by assumption)⟩
  have H_fields := fun W (h : Fr No w W) => eqValS_go X Y _ _ x.fields W (h_fields.keep h (fun _ h => h.elim) (fun _ _ _ h => h)) (g_fields.keep h (fun _ h => h.elim) (fun _ _ _ h => h))
  obtain ⟨A_fields, c_fields, rfl, _, _⟩ := h_fields.form
  obtain ⟨B_fields, d_fields, rfl, _, _⟩ := g_fields.form
  clear h_fields g_fields
  go_enter Tryz.func65, Tryz.ntmps65
  have ha0 : Bx ((w.alloc (.cells #[.int .i64 x.of_.keeper, .string x.of_.name, .slice A_fields x.fields.length c_fields] 117)).alloc (.cells #[.int .i64 x.of_.keeper, .string x.of_.name, .slice B_fields x.fields.length d_fields] 117)) w.heap.size 117 #[.int .i64 x.of_.keeper, .string x.of_.name, .slice A_fields x.fields.length c_fields] := (Bx.new_ rfl).alloc _
  have hb0 : Bx ((w.alloc (.cells #[.int .i64 x.of_.keeper, .string x.of_.name, .slice A_fields x.fields.length c_fields] 117)).alloc (.cells #[.int .i64 x.of_.keeper, .string x.of_.name, .slice B_fields x.fields.length d_fields] 117)) (w.heap.size + 1) 117 #[.int .i64 x.of_.keeper, .string x.of_.name, .slice B_fields x.fields.length d_fields] := Bx.new_ (by simp)
  go_wp2_with (first
    | (go_at_call 115; refine (H_of_ _ ?_).mono ?_; (focus (exact frc)); rintro e w1 ⟨rfl, hf1⟩; have ha1 := Bx.keepTo w1 ha0 (by exact frc); have hb1 := Bx.keepTo w1 hb0 (by exact frc); obtain ⟨e1_0, e1_1, e1_2⟩ := ha1.c3; obtain ⟨f1_0, f1_1, f1_2⟩ := hb1.c3; have hw1 : Fr No w w1 := (by exact frc))
    | (go_at_call_of 116 (Value.slice A_fields x.fields.length c_fields); refine (H_fields _ ?_).mono ?_; (focus (exact frc)); rintro e w2 ⟨rfl, hf2⟩; have ha2 := Bx.keepTo w2 ha1 (by exact frc); have hb2 := Bx.keepTo w2 hb1 (by exact frc); obtain ⟨e2_0, e2_1, e2_2⟩ := ha2.c3; obtain ⟨f2_0, f2_1, f2_2⟩ := hb2.c3; have hw2 : Fr No w w2 := (by exact frc)))
  go_ret
  exact .mk rfl (by exact frc)

set_option maxRecDepth 100000 in
set_option maxHeartbeats 2000000 in
theorem eqObjS_go (X Y : Nat → Prop) (v v1 : Value) (xs : List Obj) (w : World) (h : Sl X w 3 (ObjC X w) v xs) (g : Sl Y w 3 (ObjC Y w) v1 xs) :
    Calls Tryz.prog 30 #[v, v1] w (BoolFr true w) := by
  obtain ⟨A, cap, rfl, _, hlen⟩ := h.form
  obtain ⟨B, cap1, rfl, _, _⟩ := g.form
  unfold maxLen at hlen
  go_enter Tryz.func30, Tryz.ntmps30
  go_wp2
  go_loopw [5, 4] (fun i r wr => ∃ k : Nat, k ≤ xs.length ∧ i = .int .i64 k ∧ r = .bool false ∧ Fr No w wr) (fun i _ _ => xs.length - (intOf i).toNat)
  case atStart => exact ⟨0, Nat.zero_le _, rfl, rfl, Fr.refl _ _⟩
  case round =>
    obtain ⟨k, hk, rfl, rfl, hf⟩ := hrel
    by_cases hlt : k < xs.length
    · obtain ⟨b, bf, A_fields, c_fields, rfl, _, c0, c1, c2, z0, hA_fields, _, _⟩ := (h.keep hf (fun _ h => h.elim) (fun _ _ _ h9 => h9.keep hf (fun _ h => h.elim))).obj hlt
      obtain ⟨a, af, B_fields, d_fields, rfl, _, f0, f1, f2, y0, hB_fields, _, _⟩ := (g.keep hf (fun _ h => h.elim) (fun _ _ _ h9 => h9.keep hf (fun _ h => h.elim))).obj hlt
      clear h g
      have H := fun W (h : Fr No wr W) => eqObj_go X Y xs[k] _ _ W ((show ObjC X wr [.int .i64 xs[k].of_.keeper, .string xs[k].of_.name, .slice A_fields xs[k].fields.length c_fields] xs[k] from ⟨_, rfl, z0, hA_fields⟩).keep h (fun _ h => h.elim)) ((show ObjC Y wr [.int .i64 xs[k].of_.keeper, .string xs[k].of_.name, .slice B_fields xs[k].fields.length d_fields] xs[k] from ⟨_, rfl, y0, hB_fields⟩).keep h (fun _ h => h.elim))
      generalize xs[k] = x at *
      have c0 := fun W (h : Fr No wr W) => h.keep0 c0
      have f0 := fun W (h : Fr No wr W) => h.keep0 f0
      have c1 := fun W (h : Fr No wr W) => h.keep0 c1
      have f1 := fun W (h : Fr No wr W) => h.keep0 f1
      have c2 := fun W (h : Fr No wr W) => h.keep0 c2
      have f2 := fun W (h : Fr No wr W) => h.keep0 f2
      go_wp2_with fail
      first
        | ((refine wp_region_fr (X := No) (by kernel_rfl) (by kernel_rfl) ?_); (repeat (first | (apply wq_pass; (focus (exact rfl)); simp only [Act.put, List.setIfInBounds_toArray, List.set_cons_zero, List.set_cons_succ]) | (apply wq_run; (focus (exact rfl)); (focus (intro W hW; go_simp; first | done | exact rfl | (go_at_call 65; exact (H W hW).mono (fun _ _ h => ⟨h.1, hW.trans0 h.2⟩)))); simp only [Act.put, List.setIfInBounds_toArray, List.set_cons_zero, List.set_cons_succ]))); refine wpQuiet_nil ?_)
        | ((refine wp_region_frn (X := No) ?_); (repeat (first | (apply wq_pass; (focus (exact rfl)); simp only [Act.put, List.setIfInBounds_toArray, List.set_cons_zero, List.set_cons_succ]) | (apply wq_run; (focus (exact rfl)); (focus (intro W hW; go_simp; first | done | exact rfl | (go_at_call 65; exact (H W hW).mono (fun _ _ h => ⟨h.1, hW.trans0 h.2⟩)))); simp only [Act.put, List.setIfInBounds_toArray, List.set_cons_zero, List.set_cons_succ]))); refine wpQuiet_nil ?_)
      intro w1 hf1
      clear c0 c1 c2 f0 f1 f2 H
      go_wp2
      go_roundw
      case rel => exact ⟨k + 1, by omega, by go_num, rfl, by exact frc⟩
      case measure => simp [intOf]; omega
    · clear h g
      go_wp2
      go_ret
      exact .mk rfl (by exact frc)

set_option maxRecDepth 100000 in
set_option maxHeartbeats 2000000 in
theorem eqIntS_go (X Y : Nat → Prop) (v v1 : Value) (xs : List Int) (w : World) (h : Sl X w 1 OutC v xs) (g : Sl Y w 1 OutC v1 xs) :
    Calls Tryz.prog 73 #[v, v1] w (BoolFr true w) := by
  obtain ⟨A, cap, rfl, _, hlen⟩ := h.form
  obtain ⟨B, cap1, rfl, _, _⟩ := g.form
  unfold maxLen at hlen
  go_enter Tryz.func73, Tryz.ntmps73
  go_wp2
  go_loopw [5, 4] (fun i r wr => ∃ k : Nat, k ≤ xs.length ∧ i = .int .i64 k ∧ r = .bool false ∧ Fr No w wr) (fun i _ _ => xs.length - (intOf i).toNat)
  case atStart => exact ⟨0, Nat.zero_le _, rfl, rfl, Fr.refl _ _⟩
  case round =>
    obtain ⟨k, hk, rfl, rfl, hf⟩ := hrel
    by_cases hlt : k < xs.length
    · obtain ⟨b, bf, rfl, _, c0⟩ := (h.keep hf (fun _ h => h.elim) (fun _ _ _ h => h)).num hlt
      obtain ⟨a, af, rfl, _, f0⟩ := (g.keep hf (fun _ h => h.elim) (fun _ _ _ h => h)).num hlt
      clear h g
      generalize xs[k] = x at *
      have c0 := fun W (h : Fr No wr W) => h.keep0 c0
      have f0 := fun W (h : Fr No wr W) => h.keep0 f0
      go_wp2_with fail
      first
        | ((refine wp_region_fr (X := No) (by kernel_rfl) (by kernel_rfl) ?_); (repeat (first | (apply wq_pass; (focus (exact rfl)); simp only [Act.put, List.setIfInBounds_toArray, List.set_cons_zero, List.set_cons_succ]) | (apply wq_run; (focus (exact rfl)); (focus (intro W hW; go_simp; first | done | exact rfl | fail)); simp only [Act.put, List.setIfInBounds_toArray, List.set_cons_zero, List.set_cons_succ]))); refine wpQuiet_nil ?_)
        | ((refine wp_region_frn (X := No) ?_); (repeat (first | (apply wq_pass; (focus (exact rfl)); simp only [Act.put, List.setIfInBounds_toArray, List.set_cons_zero, List.set_cons_succ]) | (apply wq_run; (focus (exact rfl)); (focus (intro W hW; go_simp; first | done | exact rfl | fail)); simp only [Act.put, List.setIfInBounds_toArray, List.set_cons_zero, List.set_cons_succ]))); refine wpQuiet_nil ?_)
      intro w1 hf1
      clear c0 f0
      go_wp2
      go_roundw
      case rel => exact ⟨k + 1, by omega, by go_num, rfl, by exact frc⟩
      case measure => simp [intOf]; omega
    · clear h g
      go_wp2
      go_ret
      exact .mk rfl (by exact frc)

set_option maxRecDepth 100000 in
set_option maxHeartbeats 2000000 in
theorem eqSt_go (X Y : Nat → Prop) (x : St) (cs cs1 : List Value) (w : World) (h : StC X w cs x) (h1 : StC Y w cs1 x) :
    Calls Tryz.prog 35 #[.agg cs.toArray, .agg cs1.toArray] w (BoolFr true w) := by
  obtain ⟨v_frames, v_heap, v_outs, rfl, h_frames, h_heap, h_outs⟩ := h
  obtain ⟨u_frames, u_heap, u_outs, rfl, g_frames, g_heap, g_outs⟩ := h1
  have H_frames := fun W (h : Fr No w W) => eqFrmS_go X Y _ _ x.frames W (h_frames.keep h (fun _ h => h.elim) (fun _ _ _ h9 => h9.keep h (fun _ h => h.elim))) (g_frames.keep h (fun _ h => h.elim) (fun _ _ _ h9 => h9.keep h (fun _ h => h.elim)))
  have H_heap := fun W (h : Fr No w W) => eqObjS_go X Y _ _ x.heap W (h_heap.keep h (fun _ h => h.elim) (fun _ _ _ h9 => h9.keep h (fun _ h => h.elim))) (g_heap.keep h (fun _ h => h.elim) (fun _ _ _ h9 => h9.keep h (fun _ h => h.elim)))
  have H_outs := fun W (h : Fr No w W) => eqIntS_go X Y _ _ x.outs W (h_outs.keep h (fun _ h => h.elim) (fun _ _ _ h => h)) (g_outs.keep h (fun _ h => h.elim) (fun _ _ _ h => h))
  have H_back := fun W (_ : Fr No w W) => eqVal_go x.back _ _ W rfl rfl
  obtain ⟨A_frames, c_frames, rfl, _, _⟩ := h_frames.form
  obtain ⟨B_frames, d_frames, rfl, _, _⟩ := g_frames.form
  clear h_frames g_frames
  obtain ⟨A_heap, c_heap, rfl, _, _⟩ := h_heap.form
  obtain ⟨B_heap, d_heap, rfl, _, _⟩ := g_heap.form
  clear h_heap g_heap
  obtain ⟨A_outs, c_outs, rfl, _, _⟩ := h_outs.form
  obtain ⟨B_outs, d_outs, rfl, _, _⟩ := g_outs.form
  clear h_outs g_outs
  go_enter Tryz.func35, Tryz.ntmps35
  have ha0 : Bx ((w.alloc (.cells #[.int .i64 x.status, .slice A_frames x.frames.length c_frames, .slice A_heap x.heap.length c_heap, .slice A_outs x.outs.length c_outs, .int .i64 x.back.kind, .int .i64 x.back.n] 71)).alloc (.cells #[.int .i64 x.status, .slice B_frames x.frames.length d_frames, .slice B_heap x.heap.length d_heap, .slice B_outs x.outs.length d_outs, .int .i64 x.back.kind, .int .i64 x.back.n] 71)) w.heap.size 71 #[.int .i64 x.status, .slice A_frames x.frames.length c_frames, .slice A_heap x.heap.length c_heap, .slice A_outs x.outs.length c_outs, .int .i64 x.back.kind, .int .i64 x.back.n] := (Bx.new_ rfl).alloc _
  have hb0 : Bx ((w.alloc (.cells #[.int .i64 x.status, .slice A_frames x.frames.length c_frames, .slice A_heap x.heap.length c_heap, .slice A_outs x.outs.length c_outs, .int .i64 x.back.kind, .int .i64 x.back.n] 71)).alloc (.cells #[.int .i64 x.status, .slice B_frames x.frames.length d_frames, .slice B_heap x.heap.length d_heap, .slice B_outs x.outs.length d_outs, .int .i64 x.back.kind, .int .i64 x.back.n] 71)) (w.heap.size + 1) 71 #[.int .i64 x.status, .slice B_frames x.frames.length d_frames, .slice B_heap x.heap.length d_heap, .slice B_outs x.outs.length d_outs, .int .i64 x.back.kind, .int .i64 x.back.n] := Bx.new_ (by simp)
  go_wp2_with (first
    | (go_at_call_of 72 (Value.slice A_frames x.frames.length c_frames); refine (H_frames _ ?_).mono ?_; (focus (exact frc)); rintro e w1 ⟨rfl, hf1⟩; have ha1 := Bx.keepTo w1 ha0 (by exact frc); have hb1 := Bx.keepTo w1 hb0 (by exact frc); obtain ⟨e1_0, e1_1, e1_2, e1_3, e1_4, e1_5⟩ := ha1.c6; obtain ⟨f1_0, f1_1, f1_2, f1_3, f1_4, f1_5⟩ := hb1.c6; have hw1 : Fr No w w1 := (by exact frc))
    | (go_at_call_of 30 (Value.slice A_heap x.heap.length c_heap); refine (H_heap _ ?_).mono ?_; (focus (exact frc)); rintro e w2 ⟨rfl, hf2⟩; have ha2 := Bx.keepTo w2 ha1 (by exact frc); have hb2 := Bx.keepTo w2 hb1 (by exact frc); obtain ⟨e2_0, e2_1, e2_2, e2_3, e2_4, e2_5⟩ := ha2.c6; obtain ⟨f2_0, f2_1, f2_2, f2_3, f2_4, f2_5⟩ := hb2.c6; have hw2 : Fr No w w2 := (by exact frc))
    | (go_at_call_of 73 (Value.slice A_outs x.outs.length c_outs); refine (H_outs _ ?_).mono ?_; (focus (exact frc)); rintro e w3 ⟨rfl, hf3⟩; have ha3 := Bx.keepTo w3 ha2 (by exact frc); have hb3 := Bx.keepTo w3 hb2 (by exact frc); obtain ⟨e3_0, e3_1, e3_2, e3_3, e3_4, e3_5⟩ := ha3.c6; obtain ⟨f3_0, f3_1, f3_2, f3_3, f3_4, f3_5⟩ := hb3.c6; have hw3 : Fr No w w3 := (by exact frc))
    | (go_at_call 74; refine (H_back _ ?_).mono ?_; (focus (exact frc)); rintro e w4 ⟨rfl, hf4⟩; have ha4 := Bx.keepTo w4 ha3 (by exact frc); have hb4 := Bx.keepTo w4 hb3 (by exact frc); obtain ⟨e4_0, e4_1, e4_2, e4_3, e4_4, e4_5⟩ := ha4.c6; obtain ⟨f4_0, f4_1, f4_2, f4_3, f4_4, f4_5⟩ := hb4.c6; have hw4 : Fr No w w4 := (by exact frc)))
  go_ret
  exact .mk rfl (by exact frc)

end Go.Proofs.YthdibgikjekneaaGreat
