/- The program's own check of an instruction, by its form. -/
import Derived.Test.YtghmnkafpnkojaaGreatDoorVal3
namespace Go.Proofs.YtghmnkafpnkojaaGreatDoor
open Go.RowKit

set_option maxRecDepth 100000 in
set_option maxHeartbeats 1000000 in
theorem ins_ok_pln (i : Ins) (w : World) (hs : i.name.size ≤ maxLen) (hm : i.member.size ≤ maxLen) (hv : formV i = .iface 262 (.agg #[.int .i64 i.op])) (hI : insB i = ((i.a == 0 && i.name.toList.isEmpty && i.member.toList.isEmpty) && (true))) :
    Calls Tryz.prog 120 #[.agg #[.int .i64 i.op, .int .i64 i.a, .string i.name, .string i.member]] w (BoolFr (insB i) w) := by
  have H := fun W => form_of i W
  rw [hv] at H
  clear hv
  rw [hI]
  clear hI
  obtain ⟨op, a, s, m⟩ := i
  dsimp only at *
  have hB := Bx.new w 216 #[.int .i64 op, .int .i64 a, .string s, .string m]
  have hE : ((op : Int) == op && ((0 : Int) == a && ((⟨#[]⟩ : Str).toList == s.toList && (⟨#[]⟩ : Str).toList == m.toList))) = (a == 0 && s.toList.isEmpty && m.toList.isEmpty) := by
    rw [beq_self_eq_true, Bool.true_and]; try rw [beq_comm_int 0 a]
    simp [Bool.and_assoc]
  cases hb : (a == 0 && s.toList.isEmpty && m.toList.isEmpty)
  all_goals
    have hq : ∀ W, (binOp .eql 216 (.agg #[.int .i64 op, .int .i64 0, .string ⟨#[]⟩, .string ⟨#[]⟩]) (.agg #[.int .i64 op, .int .i64 a, .string s, .string m])).run Tryz.prog W = .ok (.bool _) W := fun W => (eql_ins _ _ _ _ _ _ _ _ W).trans (by rw [hE, hb])
    clear hE hb
    go_enter Tryz.func120, Tryz.ntmps120
    go_wp2_with (go_at_call 136; refine (H _).mono ?_; rintro e w1 ⟨rfl, hf1⟩)
    have hB1 := hB.keep hf1
    have cc := fun (W : World) (h : Fr No w1 W) => (hB1.keep h).c4
    have c0 := fun W h => (cc W h).1
    have c1 := fun W h => (cc W h).2.1
    have c2 := fun W h => (cc W h).2.2.1
    have c3 := fun W h => (cc W h).2.2.2
    clear cc
    clear H
    (refine wp_region_fr (X := No) (by kernel_rfl) (by kernel_rfl) ?_); (repeat (first | (apply wq_pass; (focus (exact rfl)); simp only [Act.put, List.setIfInBounds_toArray, List.set_cons_zero, List.set_cons_succ]) | (apply wq_run; (focus (exact rfl)); (focus (intro W hW; go_simp; first | done | exact rfl | (go_at_call 137; exact (ins_of_pln _ _).mono (fun _ _ h => ⟨h.1, hW.trans0 h.2⟩)) | (go_at_call 138; exact (form_ok_pln _ _).mono (fun _ _ h => ⟨h.1, hW.trans0 h.2⟩)))); simp only [Act.put, List.setIfInBounds_toArray, List.set_cons_zero, List.set_cons_succ]))); refine wpQuiet_nil ?_
    intro w2 hf2
    clear c0 c1 c2 c3
    go_wp2
    go_ret
    exact .mk (by simp) (by exact frc)

set_option maxRecDepth 100000 in
set_option maxHeartbeats 1000000 in
theorem ins_ok_num (i : Ins) (w : World) (hs : i.name.size ≤ maxLen) (hm : i.member.size ≤ maxLen) (hv : formV i = .iface 256 (.agg #[.int .i64 i.op, .int .i64 i.a])) (hI : insB i = ((i.name.toList.isEmpty && i.member.toList.isEmpty) && (decide (numLo i.op ≤ i.a) && decide (i.a ≤ numHi i.op)))) :
    Calls Tryz.prog 120 #[.agg #[.int .i64 i.op, .int .i64 i.a, .string i.name, .string i.member]] w (BoolFr (insB i) w) := by
  have H := fun W => form_of i W
  rw [hv] at H
  clear hv
  rw [hI]
  clear hI
  obtain ⟨op, a, s, m⟩ := i
  dsimp only at *
  have hB := Bx.new w 216 #[.int .i64 op, .int .i64 a, .string s, .string m]
  have hE : ((op : Int) == op && ((a : Int) == a && ((⟨#[]⟩ : Str).toList == s.toList && (⟨#[]⟩ : Str).toList == m.toList))) = (s.toList.isEmpty && m.toList.isEmpty) := by
    rw [beq_self_eq_true, Bool.true_and]; try rw [beq_comm_int 0 a]
    simp
  cases hb : (s.toList.isEmpty && m.toList.isEmpty)
  all_goals
    have hq : ∀ W, (binOp .eql 216 (.agg #[.int .i64 op, .int .i64 a, .string ⟨#[]⟩, .string ⟨#[]⟩]) (.agg #[.int .i64 op, .int .i64 a, .string s, .string m])).run Tryz.prog W = .ok (.bool _) W := fun W => (eql_ins _ _ _ _ _ _ _ _ W).trans (by rw [hE, hb])
    clear hE hb
    go_enter Tryz.func120, Tryz.ntmps120
    go_wp2_with (go_at_call 136; refine (H _).mono ?_; rintro e w1 ⟨rfl, hf1⟩)
    have hB1 := hB.keep hf1
    have cc := fun (W : World) (h : Fr No w1 W) => (hB1.keep h).c4
    have c0 := fun W h => (cc W h).1
    have c1 := fun W h => (cc W h).2.1
    have c2 := fun W h => (cc W h).2.2.1
    have c3 := fun W h => (cc W h).2.2.2
    clear cc
    clear H
    (refine wp_region_fr (X := No) (by kernel_rfl) (by kernel_rfl) ?_); (repeat (first | (apply wq_pass; (focus (exact rfl)); simp only [Act.put, List.setIfInBounds_toArray, List.set_cons_zero, List.set_cons_succ]) | (apply wq_run; (focus (exact rfl)); (focus (intro W hW; go_simp; first | done | exact rfl | (go_at_call 137; exact (ins_of_num _ _ _).mono (fun _ _ h => ⟨h.1, hW.trans0 h.2⟩)) | (go_at_call 138; exact (form_ok_num _ _ _).mono (fun _ _ h => ⟨h.1, hW.trans0 h.2⟩)))); simp only [Act.put, List.setIfInBounds_toArray, List.set_cons_zero, List.set_cons_succ]))); refine wpQuiet_nil ?_
    intro w2 hf2
    clear c0 c1 c2 c3
    go_wp2
    go_ret
    exact .mk (by simp) (by exact frc)

set_option maxRecDepth 100000 in
set_option maxHeartbeats 1000000 in
theorem ins_ok_cls (i : Ins) (w : World) (hs : i.name.size ≤ maxLen) (hm : i.member.size ≤ maxLen) (hv : formV i = .iface 258 (.agg #[.int .i64 i.op, .string i.name])) (hI : insB i = ((i.a == 0 && i.member.toList.isEmpty) && (namB i.name))) :
    Calls Tryz.prog 120 #[.agg #[.int .i64 i.op, .int .i64 i.a, .string i.name, .string i.member]] w (BoolFr (insB i) w) := by
  have H := fun W => form_of i W
  rw [hv] at H
  clear hv
  rw [hI]
  clear hI
  obtain ⟨op, a, s, m⟩ := i
  dsimp only at *
  have hB := Bx.new w 216 #[.int .i64 op, .int .i64 a, .string s, .string m]
  have hE : ((op : Int) == op && ((0 : Int) == a && ((s : Str).toList == s.toList && (⟨#[]⟩ : Str).toList == m.toList))) = (a == 0 && m.toList.isEmpty) := by
    rw [beq_self_eq_true, Bool.true_and]; try rw [beq_comm_int 0 a]
    simp
  cases hb : (a == 0 && m.toList.isEmpty)
  all_goals
    have hq : ∀ W, (binOp .eql 216 (.agg #[.int .i64 op, .int .i64 0, .string s, .string ⟨#[]⟩]) (.agg #[.int .i64 op, .int .i64 a, .string s, .string m])).run Tryz.prog W = .ok (.bool _) W := fun W => (eql_ins _ _ _ _ _ _ _ _ W).trans (by rw [hE, hb])
    clear hE hb
    go_enter Tryz.func120, Tryz.ntmps120
    go_wp2_with (go_at_call 136; refine (H _).mono ?_; rintro e w1 ⟨rfl, hf1⟩)
    have hB1 := hB.keep hf1
    have cc := fun (W : World) (h : Fr No w1 W) => (hB1.keep h).c4
    have c0 := fun W h => (cc W h).1
    have c1 := fun W h => (cc W h).2.1
    have c2 := fun W h => (cc W h).2.2.1
    have c3 := fun W h => (cc W h).2.2.2
    clear cc
    clear H
    (refine wp_region_fr (X := No) (by kernel_rfl) (by kernel_rfl) ?_); (repeat (first | (apply wq_pass; (focus (exact rfl)); simp only [Act.put, List.setIfInBounds_toArray, List.set_cons_zero, List.set_cons_succ]) | (apply wq_run; (focus (exact rfl)); (focus (intro W hW; go_simp; first | done | exact rfl | (go_at_call 137; exact (ins_of_cls _ _ _).mono (fun _ _ h => ⟨h.1, hW.trans0 h.2⟩)) | (go_at_call 138; exact (form_ok_cls _ _ _ hs).mono (fun _ _ h => ⟨h.1, hW.trans0 h.2⟩)))); simp only [Act.put, List.setIfInBounds_toArray, List.set_cons_zero, List.set_cons_succ]))); refine wpQuiet_nil ?_
    intro w2 hf2
    clear c0 c1 c2 c3
    go_wp2
    go_ret
    exact .mk (by simp) (by exact frc)

set_option maxRecDepth 100000 in
set_option maxHeartbeats 1000000 in
theorem ins_ok_mem (i : Ins) (w : World) (hs : i.name.size ≤ maxLen) (hm : i.member.size ≤ maxLen) (hv : formV i = .iface 260 (.agg #[.int .i64 i.op, .string i.name, .string i.member])) (hI : insB i = ((i.a == 0) && (namB i.name && namB i.member))) :
    Calls Tryz.prog 120 #[.agg #[.int .i64 i.op, .int .i64 i.a, .string i.name, .string i.member]] w (BoolFr (insB i) w) := by
  have H := fun W => form_of i W
  rw [hv] at H
  clear hv
  rw [hI]
  clear hI
  obtain ⟨op, a, s, m⟩ := i
  dsimp only at *
  have hB := Bx.new w 216 #[.int .i64 op, .int .i64 a, .string s, .string m]
  have hE : ((op : Int) == op && ((0 : Int) == a && ((s : Str).toList == s.toList && (m : Str).toList == m.toList))) = (a == 0) := by
    rw [beq_self_eq_true, Bool.true_and]; try rw [beq_comm_int 0 a]
    simp
  cases hb : (a == 0)
  all_goals
    have hq : ∀ W, (binOp .eql 216 (.agg #[.int .i64 op, .int .i64 0, .string s, .string m]) (.agg #[.int .i64 op, .int .i64 a, .string s, .string m])).run Tryz.prog W = .ok (.bool _) W := fun W => (eql_ins _ _ _ _ _ _ _ _ W).trans (by rw [hE, hb])
    clear hE hb
    go_enter Tryz.func120, Tryz.ntmps120
    go_wp2_with (go_at_call 136; refine (H _).mono ?_; rintro e w1 ⟨rfl, hf1⟩)
    have hB1 := hB.keep hf1
    have cc := fun (W : World) (h : Fr No w1 W) => (hB1.keep h).c4
    have c0 := fun W h => (cc W h).1
    have c1 := fun W h => (cc W h).2.1
    have c2 := fun W h => (cc W h).2.2.1
    have c3 := fun W h => (cc W h).2.2.2
    clear cc
    clear H
    (refine wp_region_fr (X := No) (by kernel_rfl) (by kernel_rfl) ?_); (repeat (first | (apply wq_pass; (focus (exact rfl)); simp only [Act.put, List.setIfInBounds_toArray, List.set_cons_zero, List.set_cons_succ]) | (apply wq_run; (focus (exact rfl)); (focus (intro W hW; go_simp; first | done | exact rfl | (go_at_call 137; exact (ins_of_mem _ _ _ _).mono (fun _ _ h => ⟨h.1, hW.trans0 h.2⟩)) | (go_at_call 138; exact (form_ok_mem _ _ _ _ hs hm).mono (fun _ _ h => ⟨h.1, hW.trans0 h.2⟩)))); simp only [Act.put, List.setIfInBounds_toArray, List.set_cons_zero, List.set_cons_succ]))); refine wpQuiet_nil ?_
    intro w2 hf2
    clear c0 c1 c2 c3
    go_wp2
    go_ret
    exact .mk (by simp) (by exact frc)

set_option maxRecDepth 100000 in
set_option maxHeartbeats 1000000 in
theorem ins_ok_none (i : Ins) (w : World) (hv : formV i = .nilIface) (hI : insB i = false) :
    Calls Tryz.prog 120 #[.agg #[.int .i64 i.op, .int .i64 i.a, .string i.name, .string i.member]] w (BoolFr (insB i) w) := by
  have H := fun W => form_of i W
  rw [hv] at H
  clear hv
  rw [hI]
  clear hI
  obtain ⟨op, a, s, m⟩ := i
  dsimp only at *
  go_enter Tryz.func120, Tryz.ntmps120
  go_wp2_with (go_at_call 136; refine (H _).mono ?_; rintro e w1 ⟨rfl, hf1⟩)
  clear H
  (refine wp_region_fr (X := No) (by kernel_rfl) (by kernel_rfl) ?_); (repeat (first | (apply wq_pass; (focus (exact rfl)); simp only [Act.put, List.setIfInBounds_toArray, List.set_cons_zero, List.set_cons_succ]) | (apply wq_run; (focus (exact rfl)); (focus (intro W hW; go_simp; first | done | exact rfl | fail)); simp only [Act.put, List.setIfInBounds_toArray, List.set_cons_zero, List.set_cons_succ]))); refine wpQuiet_nil ?_
  intro w2 hf2
  go_wp2
  go_ret
  exact .mk rfl (by exact frc)
theorem ins_ok (i : Ins) (w : World) (hs : i.name.size ≤ maxLen) (hm : i.member.size ≤ maxLen) :
    Calls Tryz.prog 120 #[.agg #[.int .i64 i.op, .int .i64 i.a, .string i.name, .string i.member]] w (BoolFr (insB i) w) := by
  cases h1 : opNum i.op
  · cases h2 : opCls i.op
    · cases h3 : opMem i.op
      · cases h4 : opPln i.op
        · exact ins_ok_none i w (by simp [formV, h1, h2, h3, h4]) (by simp [insB, h1, h2, h3, h4])
        · exact ins_ok_pln i w hs hm (by simp [formV, h1, h2, h3, h4]) (by simp [insB, h1, h2, h3, h4])
      · exact ins_ok_mem i w hs hm (by simp [formV, h1, h2, h3]) (by simp [insB, h1, h2, h3, Bool.and_assoc])
    · exact ins_ok_cls i w hs hm (by simp [formV, h1, h2]) (by simp [insB, h1, h2]; cases (i.a == 0) <;> cases namB i.name <;> cases i.member.toList.isEmpty <;> rfl)
  · exact ins_ok_num i w hs hm (by simp [formV, h1]) (by simp [insB, h1]; cases decide (numLo i.op ≤ i.a) <;> cases decide (i.a ≤ numHi i.op) <;> cases i.name.toList.isEmpty <;> cases i.member.toList.isEmpty <;> rfl)
end Go.Proofs.YtghmnkafpnkojaaGreatDoor
