/- The program's own check of an instruction. -/
import Derived.Test.YtghmnkafpnkojaaGreatDoorVal2
import Derived.Deep.RegionHeld3
namespace Go.Proofs.YtghmnkafpnkojaaGreatDoor
open Go.RowKit

def opNum (o : Int) : Bool := o == 1 || o == 2 || o == 3 || o == 11 || o == 12 || o == 13
def opCls (o : Int) : Bool := o == 6 || o == 15
def opMem (o : Int) : Bool := o == 7 || o == 8 || o == 9
def opPln (o : Int) : Bool := o == 4 || o == 5 || o == 10 || o == 14
def numLo (o : Int) : Int := if o == 1 then -9999 else 0
def numHi (o : Int) : Int := if o == 1 then 9999 else if o == 2 || o == 3 then 5 else 15
def insB (i : Ins) : Bool :=
  if opNum i.op then decide (numLo i.op ≤ i.a) && decide (i.a ≤ numHi i.op) && i.name.toList.isEmpty && i.member.toList.isEmpty
  else if opCls i.op then i.a == 0 && namB i.name && i.member.toList.isEmpty
  else if opMem i.op then i.a == 0 && namB i.name && namB i.member
  else opPln i.op && i.a == 0 && i.name.toList.isEmpty && i.member.toList.isEmpty

def formV (i : Ins) : Value :=
  if opNum i.op then .iface 256 (.agg #[.int .i64 i.op, .int .i64 i.a])
  else if opCls i.op then .iface 258 (.agg #[.int .i64 i.op, .string i.name])
  else if opMem i.op then .iface 260 (.agg #[.int .i64 i.op, .string i.name, .string i.member])
  else if opPln i.op then .iface 262 (.agg #[.int .i64 i.op])
  else .nilIface

set_option maxHeartbeats 1000000 in
theorem form_of (i : Ins) (w : World) :
    Calls Tryz.prog 136 #[.agg #[.int .i64 i.op, .int .i64 i.a, .string i.name, .string i.member]] w (Gives (formV i) w) := by
  obtain ⟨op, a, s, m⟩ := i
  go_enter Tryz.func136, Tryz.ntmps136
  go_wp2
  all_goals go_ret
  all_goals exact .mk (by simp [formV, opNum, opCls, opMem, opPln, *]) (by exact frc)


theorem run_assert_same {P : Program} {T x : TypeId} {v : Value} {fs : Array Field} (w : World) (hu : P.underlying T = some (.struct fs)) :
    (Instr.typeAssert (.iface T v) x T true).run P w = .ok (.tuple #[v, .bool true]) w := by
  simp [Instr.typeAssert, run_underlying hu]
theorem run_assert_other {P : Program} {T t x : TypeId} {v z : Value} {fs : Array Field} (w : World) (hu : P.underlying T = some (.struct fs)) (hne : (t == T) = false) (hz : (zeroValue T).run P w = .ok z w) :
    (Instr.typeAssert (.iface t v) x T true).run P w = .ok (.tuple #[z, .bool false]) w := by
  have h : t ≠ T := by simpa using hne
  simp [Instr.typeAssert, run_underlying hu, h, hz]
theorem zero_pln (w : World) : (zeroValue 262).run Tryz.prog w = .ok (.agg #[.int .i64 0]) w := by kernel_rfl
theorem zero_num (w : World) : (zeroValue 256).run Tryz.prog w = .ok (.agg #[.int .i64 0, .int .i64 0]) w := by kernel_rfl
theorem zero_cls (w : World) : (zeroValue 258).run Tryz.prog w = .ok (.agg #[.int .i64 0, .string ⟨#[]⟩]) w := by kernel_rfl
theorem zero_mem (w : World) : (zeroValue 260).run Tryz.prog w = .ok (.agg #[.int .i64 0, .string ⟨#[]⟩, .string ⟨#[]⟩]) w := by kernel_rfl

theorem emp_toList : (⟨#[]⟩ : ByteArray).toList = [] := by decide +kernel
theorem nil_beq (l : List UInt8) : ([] == l) = l.isEmpty := by cases l <;> rfl
theorem beq_comm_int (a b : Int) : (a == b) = (b == a) := by rw [Bool.eq_iff_iff, beq_iff_eq, beq_iff_eq]; exact eq_comm
theorem eql_ins (o1 a1 : Int) (s1 m1 : Str) (o2 a2 : Int) (s2 m2 : Str) (w : World) :
    (binOp .eql 216 (.agg #[.int .i64 o1, .int .i64 a1, .string s1, .string m1]) (.agg #[.int .i64 o2, .int .i64 a2, .string s2, .string m2])).run Tryz.prog w =
      .ok (.bool (o1 == o2 && (a1 == a2 && (s1.toList == s2.toList && m1.toList == m2.toList)))) w := by
  cases h1 : (o1 == o2) <;> cases h2 : (a1 == a2) <;> cases h3 : (s1.toList == s2.toList) <;> cases h4 : (m1.toList == m2.toList)
  all_goals simp only [run_eql_struct]
  all_goals simp [go_sem, h1, h2, h3, h4, Tryz.underlying216, Tryz.underlying3, Tryz.underlying9]

set_option maxRecDepth 100000 in
set_option maxHeartbeats 1000000 in
theorem ins_of_pln (op : Int) (w : World) : Calls Tryz.prog 137 #[.iface 262 (.agg #[.int .i64 op])] w (Gives (.agg #[.int .i64 op, .int .i64 0, .string ⟨#[]⟩, .string ⟨#[]⟩]) w) := by
  have a0 := fun v W => run_assert_same (x := 20) (v := v) W Tryz.underlying262
  go_enter Tryz.func137, Tryz.ntmps137
  go_wp2
  refine bodyPost_ret (v := .agg #[.int .i64 op, .int .i64 0, .string ⟨#[]⟩, .string ⟨#[]⟩]) (by simp [results, Tryz.results137, go_sem]) rfl ?_
  exact .mk rfl (by exact frc)

set_option maxRecDepth 100000 in
set_option maxHeartbeats 1000000 in
theorem form_ok_pln (op : Int) (w : World) : Calls Tryz.prog 138 #[.iface 262 (.agg #[.int .i64 op])] w (BoolFr (true) w) := by
  have a0 := fun v W => run_assert_same (x := 20) (v := v) W Tryz.underlying262
  go_enter Tryz.func138, Tryz.ntmps138
  go_wp2
  all_goals go_ret
  all_goals exact .mk (by rfl) (by exact frc)

set_option maxRecDepth 100000 in
set_option maxHeartbeats 1000000 in
theorem ins_of_num (op a : Int) (w : World) : Calls Tryz.prog 137 #[.iface 256 (.agg #[.int .i64 op, .int .i64 a])] w (Gives (.agg #[.int .i64 op, .int .i64 a, .string ⟨#[]⟩, .string ⟨#[]⟩]) w) := by
  have a0 := fun v W => run_assert_other (x := 20) (t := 256) (v := v) W Tryz.underlying262 rfl (zero_pln W)
  have a1 := fun v W => run_assert_same (x := 20) (v := v) W Tryz.underlying256
  go_enter Tryz.func137, Tryz.ntmps137
  go_wp2
  refine bodyPost_ret (v := .agg #[.int .i64 op, .int .i64 a, .string ⟨#[]⟩, .string ⟨#[]⟩]) (by simp [results, Tryz.results137, go_sem]) rfl ?_
  exact .mk rfl (by exact frc)

set_option maxRecDepth 100000 in
set_option maxHeartbeats 1000000 in
theorem form_ok_num (op a : Int) (w : World) : Calls Tryz.prog 138 #[.iface 256 (.agg #[.int .i64 op, .int .i64 a])] w (BoolFr (decide (numLo op ≤ a) && decide (a ≤ numHi op)) w) := by
  have a0 := fun v W => run_assert_other (x := 20) (t := 256) (v := v) W Tryz.underlying262 rfl (zero_pln W)
  have a1 := fun v W => run_assert_same (x := 20) (v := v) W Tryz.underlying256
  go_enter Tryz.func138, Tryz.ntmps138
  go_wp2
  all_goals go_ret
  all_goals exact .mk (by simp [numLo, numHi, *] <;> omega) (by exact frc)

set_option maxRecDepth 100000 in
set_option maxHeartbeats 1000000 in
theorem ins_of_cls (op : Int) (s : Str) (w : World) : Calls Tryz.prog 137 #[.iface 258 (.agg #[.int .i64 op, .string s])] w (Gives (.agg #[.int .i64 op, .int .i64 0, .string s, .string ⟨#[]⟩]) w) := by
  have a0 := fun v W => run_assert_other (x := 20) (t := 258) (v := v) W Tryz.underlying262 rfl (zero_pln W)
  have a1 := fun v W => run_assert_other (x := 20) (t := 258) (v := v) W Tryz.underlying256 rfl (zero_num W)
  have a2 := fun v W => run_assert_same (x := 20) (v := v) W Tryz.underlying258
  go_enter Tryz.func137, Tryz.ntmps137
  go_wp2
  refine bodyPost_ret (v := .agg #[.int .i64 op, .int .i64 0, .string s, .string ⟨#[]⟩]) (by simp [results, Tryz.results137, go_sem]) rfl ?_
  exact .mk rfl (by exact frc)

set_option maxRecDepth 100000 in
set_option maxHeartbeats 1000000 in
theorem form_ok_cls (op : Int) (s : Str) (w : World) (hs : s.size ≤ maxLen) : Calls Tryz.prog 138 #[.iface 258 (.agg #[.int .i64 op, .string s])] w (BoolFr (namB s) w) := by
  have a0 := fun v W => run_assert_other (x := 20) (t := 258) (v := v) W Tryz.underlying262 rfl (zero_pln W)
  have a1 := fun v W => run_assert_other (x := 20) (t := 258) (v := v) W Tryz.underlying256 rfl (zero_num W)
  have a2 := fun v W => run_assert_same (x := 20) (v := v) W Tryz.underlying258
  go_enter Tryz.func138, Tryz.ntmps138
  go_wp2_with (go_at_call 87; refine (word_ok _ _ (by assumption)).mono ?_; rintro e w' ⟨rfl, rfl⟩)
  all_goals go_ret
  all_goals exact .mk (by rfl) (by exact frc)

set_option maxRecDepth 100000 in
set_option maxHeartbeats 1000000 in
theorem ins_of_mem (op : Int) (s m : Str) (w : World) : Calls Tryz.prog 137 #[.iface 260 (.agg #[.int .i64 op, .string s, .string m])] w (Gives (.agg #[.int .i64 op, .int .i64 0, .string s, .string m]) w) := by
  have a0 := fun v W => run_assert_other (x := 20) (t := 260) (v := v) W Tryz.underlying262 rfl (zero_pln W)
  have a1 := fun v W => run_assert_other (x := 20) (t := 260) (v := v) W Tryz.underlying256 rfl (zero_num W)
  have a2 := fun v W => run_assert_other (x := 20) (t := 260) (v := v) W Tryz.underlying258 rfl (zero_cls W)
  have a3 := fun v W => run_assert_same (x := 20) (v := v) W Tryz.underlying260
  go_enter Tryz.func137, Tryz.ntmps137
  go_wp2
  refine bodyPost_ret (v := .agg #[.int .i64 op, .int .i64 0, .string s, .string m]) (by simp [results, Tryz.results137, go_sem]) rfl ?_
  exact .mk rfl (by exact frc)

set_option maxRecDepth 100000 in
set_option maxHeartbeats 1000000 in
theorem form_ok_mem (op : Int) (s m : Str) (w : World) (hs : s.size ≤ maxLen) (hm : m.size ≤ maxLen) : Calls Tryz.prog 138 #[.iface 260 (.agg #[.int .i64 op, .string s, .string m])] w (BoolFr (namB s && namB m) w) := by
  have a0 := fun v W => run_assert_other (x := 20) (t := 260) (v := v) W Tryz.underlying262 rfl (zero_pln W)
  have a1 := fun v W => run_assert_other (x := 20) (t := 260) (v := v) W Tryz.underlying256 rfl (zero_num W)
  have a2 := fun v W => run_assert_other (x := 20) (t := 260) (v := v) W Tryz.underlying258 rfl (zero_cls W)
  have a3 := fun v W => run_assert_same (x := 20) (v := v) W Tryz.underlying260
  go_enter Tryz.func138, Tryz.ntmps138
  go_wp2_with (go_at_call 87; refine (word_ok _ _ (by assumption)).mono ?_; rintro e w' ⟨rfl, rfl⟩)
  all_goals go_ret
  all_goals exact .mk (by simp [*]) (by exact frc)
end Go.Proofs.YtghmnkafpnkojaaGreatDoor
