/- The program's verifier: the simple instructions (written by lkop.py). -/
import Derived.Test.YtbalicnnlfennaaGreatBG37
namespace Go.Proofs.YtbalicnnlfennaaGreat
open Go.RowKit

theorem tagOf_small {k : Knd} (h : k.name.size ≤ maxLen) : (tagOf k).name.size ≤ maxLen := by
  unfold tagOf
  split
  · exact h
  · exact Nat.zero_le _
set_option maxRecDepth 100000 in
set_option maxHeartbeats 2000000 in
theorem numTag_ok (w : World) : Calls Tryz.prog 123 #[] w (Gives (.agg #[.int .i64 1, .string ⟨#[]⟩]) w) := by
  go_enter Tryz.func123, Tryz.ntmps123
  go_wp2
  refine bodyPost_ret (v := .agg #[.int .i64 1, .string ⟨#[]⟩]) (by simp [results, Tryz.results123, go_sem]) rfl ?_
  exact .mk rfl frc
set_option maxRecDepth 100000 in
set_option maxHeartbeats 2000000 in
theorem classTag_ok (s : Str) (w : World) : Calls Tryz.prog 64 #[.string s] w (Gives (.agg #[.int .i64 2, .string s]) w) := by
  go_enter Tryz.func64, Tryz.ntmps64
  go_wp2
  refine bodyPost_ret (v := .agg #[.int .i64 2, .string s]) (by simp [results, Tryz.results64, go_sem]) rfl ?_
  exact .mk rfl frc

set_option maxRecDepth 100000 in
set_option maxHeartbeats 4000000 in
theorem lookNum_ok (K : LkP) (E : LkE K) (n : Nat) (Z0 : Nat → Prop) (j : Int) (f : Frm) (vl vs : Value) (w : World) (h : LkS K n Z0 j f vl vs w) (hj : 0 ≤ j) (hj2 : j < 1000) (i : Ins) (_ : i.name.size ≤ maxLen) :
    Calls Tryz.prog 93 #[.pointer (some ⟨K.kb, 0, none⟩), .agg #[.int .i64 i.op, .int .i64 i.a, .string i.name, .string i.member]] w (LkPost K n Z0 j ((pushF K.m.stack f.stack numT).map (⟨f.locals, ·⟩)) w) := by
  obtain ⟨wA, hwA⟩ : ∃ wA, wA = (w.alloc (.cells #[.int .i64 i.op, .int .i64 i.a, .string i.name, .string i.member] 27)) := ⟨_, rfl⟩
  have hfA : Fr No w wA := hwA ▸ frc
  have B0 := (hwA ▸ bxc : Bx wA w.heap.size 27 #[.int .i64 i.op, .int .i64 i.a, .string i.name, .string i.member])
  have hZ0 : ¬ Z0 w.heap.size := fun hz => by have := h.lt hz; omega
  have hkl := h.lt h.zkb
  have hS0 := Lib.hid (h.keep E hfA)
  obtain ⟨_, _, c4, c5, _, _, _, _, _, _, _, _⟩ := h.cells w (Fr.refl _ _)
  have hz0 : ∀ b, Z0 b → Z0 b := fun _ h => h
  have hy0 : ∀ b, Z0 b → Z0 b ∨ wA.heap.size ≤ b := fun _ h => .inl h
  have hf0 : Fr Z0 wA wA := Fr.refl _ _
  have hw0 : Fr No wA (w.alloc (.cells #[.int .i64 i.op, .int .i64 i.a, .string i.name, .string i.member] 27)) := by rw [hwA]; exact Fr.refl _ _
  clear h
  cases g1 : pushF K.m.stack f.stack numT with
  | none =>
    simp only [Option.map_none]
    go_enter Tryz.func93, Tryz.ntmps93
    go_wp2_with (first | (go_at_call 122; refine (put_ok K E n Z0 j f _ _ _ (hS0.out.keep E frc) hj hj2 numT (Nat.zero_le _)).mono ?_; simp only [g1, Option.map_none]; rintro e wN ⟨c, rfl, hN⟩) | (go_at_call 123; refine (numTag_ok _).mono ?_; rintro e w' ⟨rfl, hg⟩) | (go_at_call 64; refine (classTag_ok _ _).mono ?_; rintro e w' ⟨rfl, hg⟩) | (go_at_call 65; refine (tagof_ok K.m.ret _ E.ret).mono ?_; rintro e w' ⟨rfl, hg⟩))
    exact ⟨rfl, c, rfl, (LkNo.then hy0 hf0 (hN.from frc)).from hfA⟩
  | some s1 =>
    simp only [Option.map_some]
    go_enter Tryz.func93, Tryz.ntmps93
    go_wp2_with (first | (go_at_call 122; refine (put_ok K E n Z0 j f _ _ _ (hS0.out.keep E frc) hj hj2 numT (Nat.zero_le _)).mono ?_; simp only [g1, Option.map_some]; rintro e w1 ⟨rfl, hOk⟩; obtain ⟨Z1, vl1, vs1, hS1, hz1, hy1, hf1⟩ := LkOk.then hz0 hy0 hf0 (hOk.from frc); clear hOk; replace hS1 := Lib.hid hS1; have hB := B0.keepX hf1 hZ0; obtain ⟨p0, p1, p2, p3⟩ := hB.c4; have pl := hB.lt; have hw1 : Fr No w1 w1 := Fr.refl _ _) | (go_at_call 123; refine (numTag_ok _).mono ?_; rintro e w' ⟨rfl, hg⟩) | (go_at_call 64; refine (classTag_ok _ _).mono ?_; rintro e w' ⟨rfl, hg⟩) | (go_at_call 65; refine (tagof_ok K.m.ret _ E.ret).mono ?_; rintro e w' ⟨rfl, hg⟩))
    go_end0
    exact ⟨rfl, (show LkOk K n Z0 j ⟨f.locals, s1⟩ wA w1 from ⟨Z1, vl1, vs1, hS1.out, hz1, hy1, hf1⟩).from hfA⟩

set_option maxRecDepth 100000 in
set_option maxHeartbeats 4000000 in
theorem lookNull_ok (K : LkP) (E : LkE K) (n : Nat) (Z0 : Nat → Prop) (j : Int) (f : Frm) (vl vs : Value) (w : World) (h : LkS K n Z0 j f vl vs w) (hj : 0 ≤ j) (hj2 : j < 1000) (i : Ins) (_ : i.name.size ≤ maxLen) :
    Calls Tryz.prog 97 #[.pointer (some ⟨K.kb, 0, none⟩), .agg #[.int .i64 i.op, .int .i64 i.a, .string i.name, .string i.member]] w (LkPost K n Z0 j ((pushF K.m.stack f.stack nullT).map (⟨f.locals, ·⟩)) w) := by
  obtain ⟨wA, hwA⟩ : ∃ wA, wA = (w.alloc (.cells #[.int .i64 i.op, .int .i64 i.a, .string i.name, .string i.member] 27)) := ⟨_, rfl⟩
  have hfA : Fr No w wA := hwA ▸ frc
  have B0 := (hwA ▸ bxc : Bx wA w.heap.size 27 #[.int .i64 i.op, .int .i64 i.a, .string i.name, .string i.member])
  have hZ0 : ¬ Z0 w.heap.size := fun hz => by have := h.lt hz; omega
  have hkl := h.lt h.zkb
  have hS0 := Lib.hid (h.keep E hfA)
  obtain ⟨_, _, c4, c5, _, _, _, _, _, _, _, _⟩ := h.cells w (Fr.refl _ _)
  have hz0 : ∀ b, Z0 b → Z0 b := fun _ h => h
  have hy0 : ∀ b, Z0 b → Z0 b ∨ wA.heap.size ≤ b := fun _ h => .inl h
  have hf0 : Fr Z0 wA wA := Fr.refl _ _
  have hw0 : Fr No wA (w.alloc (.cells #[.int .i64 i.op, .int .i64 i.a, .string i.name, .string i.member] 27)) := by rw [hwA]; exact Fr.refl _ _
  clear h
  cases g1 : pushF K.m.stack f.stack nullT with
  | none =>
    simp only [Option.map_none]
    go_enter Tryz.func97, Tryz.ntmps97
    go_wp2_with (first | (go_at_call 122; refine (put_ok K E n Z0 j f _ _ _ (hS0.out.keep E frc) hj hj2 nullT (Nat.zero_le _)).mono ?_; simp only [g1, Option.map_none]; rintro e wN ⟨c, rfl, hN⟩) | (go_at_call 123; refine (numTag_ok _).mono ?_; rintro e w' ⟨rfl, hg⟩) | (go_at_call 64; refine (classTag_ok _ _).mono ?_; rintro e w' ⟨rfl, hg⟩) | (go_at_call 65; refine (tagof_ok K.m.ret _ E.ret).mono ?_; rintro e w' ⟨rfl, hg⟩))
    exact ⟨rfl, c, rfl, (LkNo.then hy0 hf0 (hN.from frc)).from hfA⟩
  | some s1 =>
    simp only [Option.map_some]
    go_enter Tryz.func97, Tryz.ntmps97
    go_wp2_with (first | (go_at_call 122; refine (put_ok K E n Z0 j f _ _ _ (hS0.out.keep E frc) hj hj2 nullT (Nat.zero_le _)).mono ?_; simp only [g1, Option.map_some]; rintro e w1 ⟨rfl, hOk⟩; obtain ⟨Z1, vl1, vs1, hS1, hz1, hy1, hf1⟩ := LkOk.then hz0 hy0 hf0 (hOk.from frc); clear hOk; replace hS1 := Lib.hid hS1; have hB := B0.keepX hf1 hZ0; obtain ⟨p0, p1, p2, p3⟩ := hB.c4; have pl := hB.lt; have hw1 : Fr No w1 w1 := Fr.refl _ _) | (go_at_call 123; refine (numTag_ok _).mono ?_; rintro e w' ⟨rfl, hg⟩) | (go_at_call 64; refine (classTag_ok _ _).mono ?_; rintro e w' ⟨rfl, hg⟩) | (go_at_call 65; refine (tagof_ok K.m.ret _ E.ret).mono ?_; rintro e w' ⟨rfl, hg⟩))
    go_end0
    exact ⟨rfl, (show LkOk K n Z0 j ⟨f.locals, s1⟩ wA w1 from ⟨Z1, vl1, vs1, hS1.out, hz1, hy1, hf1⟩).from hfA⟩

set_option maxRecDepth 100000 in
set_option maxHeartbeats 4000000 in
theorem lookNew_ok (K : LkP) (E : LkE K) (n : Nat) (Z0 : Nat → Prop) (j : Int) (f : Frm) (vl vs : Value) (w : World) (h : LkS K n Z0 j f vl vs w) (hj : 0 ≤ j) (hj2 : j < 1000) (i : Ins) (h1 : i.name.size ≤ maxLen) :
    Calls Tryz.prog 98 #[.pointer (some ⟨K.kb, 0, none⟩), .agg #[.int .i64 i.op, .int .i64 i.a, .string i.name, .string i.member]] w (LkPost K n Z0 j ((pushF K.m.stack f.stack (clsT i.name)).map (⟨f.locals, ·⟩)) w) := by
  obtain ⟨wA, hwA⟩ : ∃ wA, wA = (w.alloc (.cells #[.int .i64 i.op, .int .i64 i.a, .string i.name, .string i.member] 27)) := ⟨_, rfl⟩
  have hfA : Fr No w wA := hwA ▸ frc
  have B0 := (hwA ▸ bxc : Bx wA w.heap.size 27 #[.int .i64 i.op, .int .i64 i.a, .string i.name, .string i.member])
  have hZ0 : ¬ Z0 w.heap.size := fun hz => by have := h.lt hz; omega
  have hkl := h.lt h.zkb
  have hS0 := Lib.hid (h.keep E hfA)
  obtain ⟨_, _, c4, c5, _, _, _, _, _, _, _, _⟩ := h.cells w (Fr.refl _ _)
  have hz0 : ∀ b, Z0 b → Z0 b := fun _ h => h
  have hy0 : ∀ b, Z0 b → Z0 b ∨ wA.heap.size ≤ b := fun _ h => .inl h
  have hf0 : Fr Z0 wA wA := Fr.refl _ _
  have hw0 : Fr No wA (w.alloc (.cells #[.int .i64 i.op, .int .i64 i.a, .string i.name, .string i.member] 27)) := by rw [hwA]; exact Fr.refl _ _
  clear h
  cases g1 : pushF K.m.stack f.stack (clsT i.name) with
  | none =>
    simp only [Option.map_none]
    go_enter Tryz.func98, Tryz.ntmps98
    go_wp2_with (first | (go_at_call 122; refine (put_ok K E n Z0 j f _ _ _ (hS0.out.keep E frc) hj hj2 (clsT i.name) h1).mono ?_; simp only [g1, Option.map_none]; rintro e wN ⟨c, rfl, hN⟩) | (go_at_call 123; refine (numTag_ok _).mono ?_; rintro e w' ⟨rfl, hg⟩) | (go_at_call 64; refine (classTag_ok _ _).mono ?_; rintro e w' ⟨rfl, hg⟩) | (go_at_call 65; refine (tagof_ok K.m.ret _ E.ret).mono ?_; rintro e w' ⟨rfl, hg⟩))
    exact ⟨rfl, c, rfl, (LkNo.then hy0 hf0 (hN.from frc)).from hfA⟩
  | some s1 =>
    simp only [Option.map_some]
    go_enter Tryz.func98, Tryz.ntmps98
    go_wp2_with (first | (go_at_call 122; refine (put_ok K E n Z0 j f _ _ _ (hS0.out.keep E frc) hj hj2 (clsT i.name) h1).mono ?_; simp only [g1, Option.map_some]; rintro e w1 ⟨rfl, hOk⟩; obtain ⟨Z1, vl1, vs1, hS1, hz1, hy1, hf1⟩ := LkOk.then hz0 hy0 hf0 (hOk.from frc); clear hOk; replace hS1 := Lib.hid hS1; have hB := B0.keepX hf1 hZ0; obtain ⟨p0, p1, p2, p3⟩ := hB.c4; have pl := hB.lt; have hw1 : Fr No w1 w1 := Fr.refl _ _) | (go_at_call 123; refine (numTag_ok _).mono ?_; rintro e w' ⟨rfl, hg⟩) | (go_at_call 64; refine (classTag_ok _ _).mono ?_; rintro e w' ⟨rfl, hg⟩) | (go_at_call 65; refine (tagof_ok K.m.ret _ E.ret).mono ?_; rintro e w' ⟨rfl, hg⟩))
    go_end0
    exact ⟨rfl, (show LkOk K n Z0 j ⟨f.locals, s1⟩ wA w1 from ⟨Z1, vl1, vs1, hS1.out, hz1, hy1, hf1⟩).from hfA⟩

set_option maxRecDepth 100000 in
set_option maxHeartbeats 4000000 in
theorem lookRet_ok (K : LkP) (E : LkE K) (n : Nat) (Z0 : Nat → Prop) (j : Int) (f : Frm) (vl vs : Value) (w : World) (h : LkS K n Z0 j f vl vs w) (hj : 0 ≤ j) (hj2 : j < 1000) (i : Ins) (_ : i.name.size ≤ maxLen) :
    Calls Tryz.prog 102 #[.pointer (some ⟨K.kb, 0, none⟩), .agg #[.int .i64 i.op, .int .i64 i.a, .string i.name, .string i.member]] w (LkPost K n Z0 j ((popF K.p K.k f.stack (tagOf K.m.ret)).map (⟨f.locals, ·⟩)) w) := by
  obtain ⟨wA, hwA⟩ : ∃ wA, wA = (w.alloc (.cells #[.int .i64 i.op, .int .i64 i.a, .string i.name, .string i.member] 27)) := ⟨_, rfl⟩
  have hfA : Fr No w wA := hwA ▸ frc
  have B0 := (hwA ▸ bxc : Bx wA w.heap.size 27 #[.int .i64 i.op, .int .i64 i.a, .string i.name, .string i.member])
  have hZ0 : ¬ Z0 w.heap.size := fun hz => by have := h.lt hz; omega
  have hkl := h.lt h.zkb
  have hS0 := Lib.hid (h.keep E hfA)
  obtain ⟨_, _, c4, c5, _, _, _, _, _, _, _, _⟩ := h.cells w (Fr.refl _ _)
  have hz0 : ∀ b, Z0 b → Z0 b := fun _ h => h
  have hy0 : ∀ b, Z0 b → Z0 b ∨ wA.heap.size ≤ b := fun _ h => .inl h
  have hf0 : Fr Z0 wA wA := Fr.refl _ _
  have hw0 : Fr No wA (w.alloc (.cells #[.int .i64 i.op, .int .i64 i.a, .string i.name, .string i.member] 27)) := by rw [hwA]; exact Fr.refl _ _
  clear h
  cases g1 : popF K.p K.k f.stack (tagOf K.m.ret) with
  | none =>
    simp only [Option.map_none]
    go_enter Tryz.func102, Tryz.ntmps102
    go_wp2_with (first | (go_at_call 125; refine (takeAs_ok K E n Z0 j f _ _ _ (hS0.out.keep E frc) hj hj2 (tagOf K.m.ret) (tagOf_small E.ret)).mono ?_; simp only [g1, Option.map_none]; rintro e wN ⟨c, rfl, hN⟩) | (go_at_call 123; refine (numTag_ok _).mono ?_; rintro e w' ⟨rfl, hg⟩) | (go_at_call 64; refine (classTag_ok _ _).mono ?_; rintro e w' ⟨rfl, hg⟩) | (go_at_call 65; refine (tagof_ok K.m.ret _ E.ret).mono ?_; rintro e w' ⟨rfl, hg⟩))
    exact ⟨rfl, c, rfl, (LkNo.then hy0 hf0 (hN.from frc)).from hfA⟩
  | some s1 =>
    simp only [Option.map_some]
    go_enter Tryz.func102, Tryz.ntmps102
    go_wp2_with (first | (go_at_call 125; refine (takeAs_ok K E n Z0 j f _ _ _ (hS0.out.keep E frc) hj hj2 (tagOf K.m.ret) (tagOf_small E.ret)).mono ?_; simp only [g1, Option.map_some]; rintro e w1 ⟨rfl, hOk⟩; obtain ⟨Z1, vl1, vs1, hS1, hz1, hy1, hf1⟩ := LkOk.then hz0 hy0 hf0 (hOk.from frc); clear hOk; replace hS1 := Lib.hid hS1; have hB := B0.keepX hf1 hZ0; obtain ⟨p0, p1, p2, p3⟩ := hB.c4; have pl := hB.lt; have hw1 : Fr No w1 w1 := Fr.refl _ _) | (go_at_call 123; refine (numTag_ok _).mono ?_; rintro e w' ⟨rfl, hg⟩) | (go_at_call 64; refine (classTag_ok _ _).mono ?_; rintro e w' ⟨rfl, hg⟩) | (go_at_call 65; refine (tagof_ok K.m.ret _ E.ret).mono ?_; rintro e w' ⟨rfl, hg⟩))
    go_end0
    exact ⟨rfl, (show LkOk K n Z0 j ⟨f.locals, s1⟩ wA w1 from ⟨Z1, vl1, vs1, hS1.out, hz1, hy1, hf1⟩).from hfA⟩

set_option maxRecDepth 100000 in
set_option maxHeartbeats 4000000 in
theorem lookCast_ok (K : LkP) (E : LkE K) (n : Nat) (Z0 : Nat → Prop) (j : Int) (f : Frm) (vl vs : Value) (w : World) (h : LkS K n Z0 j f vl vs w) (hj : 0 ≤ j) (hj2 : j < 1000) (i : Ins) (h1 : i.name.size ≤ maxLen) :
    Calls Tryz.prog 107 #[.pointer (some ⟨K.kb, 0, none⟩), .agg #[.int .i64 i.op, .int .i64 i.a, .string i.name, .string i.member]] w (LkPost K n Z0 j (((popR f.stack).bind fun s => pushF K.m.stack s (clsT i.name)).map (⟨f.locals, ·⟩)) w) := by
  obtain ⟨wA, hwA⟩ : ∃ wA, wA = (w.alloc (.cells #[.int .i64 i.op, .int .i64 i.a, .string i.name, .string i.member] 27)) := ⟨_, rfl⟩
  have hfA : Fr No w wA := hwA ▸ frc
  have B0 := (hwA ▸ bxc : Bx wA w.heap.size 27 #[.int .i64 i.op, .int .i64 i.a, .string i.name, .string i.member])
  have hZ0 : ¬ Z0 w.heap.size := fun hz => by have := h.lt hz; omega
  have hkl := h.lt h.zkb
  have hS0 := Lib.hid (h.keep E hfA)
  obtain ⟨_, _, c4, c5, _, _, _, _, _, _, _, _⟩ := h.cells w (Fr.refl _ _)
  have hz0 : ∀ b, Z0 b → Z0 b := fun _ h => h
  have hy0 : ∀ b, Z0 b → Z0 b ∨ wA.heap.size ≤ b := fun _ h => .inl h
  have hf0 : Fr Z0 wA wA := Fr.refl _ _
  have hw0 : Fr No wA (w.alloc (.cells #[.int .i64 i.op, .int .i64 i.a, .string i.name, .string i.member] 27)) := by rw [hwA]; exact Fr.refl _ _
  clear h
  cases g1 : popR f.stack with
  | none =>
    simp only [Option.bind_none, Option.map_none]
    go_enter Tryz.func107, Tryz.ntmps107
    go_wp2_with (first | (go_at_call 129; refine (takeObject_ok K E n Z0 j f _ _ _ (hS0.out.keep E frc) hj hj2).mono ?_; simp only [g1, Option.map_none]; rintro e wN ⟨c, rfl, hN⟩) | (go_at_call 123; refine (numTag_ok _).mono ?_; rintro e w' ⟨rfl, hg⟩) | (go_at_call 64; refine (classTag_ok _ _).mono ?_; rintro e w' ⟨rfl, hg⟩) | (go_at_call 65; refine (tagof_ok K.m.ret _ E.ret).mono ?_; rintro e w' ⟨rfl, hg⟩))
    exact ⟨rfl, c, rfl, (LkNo.then hy0 hf0 (hN.from frc)).from hfA⟩
  | some s1 =>
    cases g2 : pushF K.m.stack s1 (clsT i.name) with
    | none =>
      simp only [g2, Option.bind_some, Option.map_none]
      go_enter Tryz.func107, Tryz.ntmps107
      go_wp2_with (first | (go_at_call 122; refine (put_ok K E n Z1 j ⟨f.locals, s1⟩ _ _ _ (hS1.out.keep E frc) hj hj2 (clsT i.name) h1).mono ?_; simp only [g2, Option.map_none]; rintro e wN ⟨c, rfl, hN⟩) | (go_at_call 129; refine (takeObject_ok K E n Z0 j f _ _ _ (hS0.out.keep E frc) hj hj2).mono ?_; simp only [g1, Option.map_some]; rintro e w1 ⟨rfl, hOk⟩; obtain ⟨Z1, vl1, vs1, hS1, hz1, hy1, hf1⟩ := LkOk.then hz0 hy0 hf0 (hOk.from frc); clear hOk; replace hS1 := Lib.hid hS1; have hB := B0.keepX hf1 hZ0; obtain ⟨p0, p1, p2, p3⟩ := hB.c4; have pl := hB.lt; have hw1 : Fr No w1 w1 := Fr.refl _ _) | (go_at_call 123; refine (numTag_ok _).mono ?_; rintro e w' ⟨rfl, hg⟩) | (go_at_call 64; refine (classTag_ok _ _).mono ?_; rintro e w' ⟨rfl, hg⟩) | (go_at_call 65; refine (tagof_ok K.m.ret _ E.ret).mono ?_; rintro e w' ⟨rfl, hg⟩))
      exact ⟨rfl, c, rfl, (LkNo.then hy1 hf1 (hN.from frc)).from hfA⟩
    | some s2 =>
      simp only [g2, Option.bind_some, Option.map_some]
      go_enter Tryz.func107, Tryz.ntmps107
      go_wp2_with (first | (go_at_call 122; refine (put_ok K E n Z1 j ⟨f.locals, s1⟩ _ _ _ (hS1.out.keep E frc) hj hj2 (clsT i.name) h1).mono ?_; simp only [g2, Option.map_some]; rintro e w2 ⟨rfl, hOk⟩; obtain ⟨Z2, vl2, vs2, hS2, hz2, hy2, hf2⟩ := LkOk.then hz1 hy1 hf1 (hOk.from frc); clear hOk; replace hS2 := Lib.hid hS2; have hB := B0.keepX hf2 hZ0; obtain ⟨p0, p1, p2, p3⟩ := hB.c4; have pl := hB.lt; have hw2 : Fr No w2 w2 := Fr.refl _ _) | (go_at_call 129; refine (takeObject_ok K E n Z0 j f _ _ _ (hS0.out.keep E frc) hj hj2).mono ?_; simp only [g1, Option.map_some]; rintro e w1 ⟨rfl, hOk⟩; obtain ⟨Z1, vl1, vs1, hS1, hz1, hy1, hf1⟩ := LkOk.then hz0 hy0 hf0 (hOk.from frc); clear hOk; replace hS1 := Lib.hid hS1; have hB := B0.keepX hf1 hZ0; obtain ⟨p0, p1, p2, p3⟩ := hB.c4; have pl := hB.lt; have hw1 : Fr No w1 w1 := Fr.refl _ _) | (go_at_call 123; refine (numTag_ok _).mono ?_; rintro e w' ⟨rfl, hg⟩) | (go_at_call 64; refine (classTag_ok _ _).mono ?_; rintro e w' ⟨rfl, hg⟩) | (go_at_call 65; refine (tagof_ok K.m.ret _ E.ret).mono ?_; rintro e w' ⟨rfl, hg⟩))
      go_end0
      exact ⟨rfl, (show LkOk K n Z0 j ⟨f.locals, s2⟩ wA w2 from ⟨Z2, vl2, vs2, hS2.out, hz2, hy2, hf2⟩).from hfA⟩

end Go.Proofs.YtbalicnnlfennaaGreat

/- The program's verifier: a place is taken, or put. -/
namespace Go.Proofs.YtbalicnnlfennaaGreat
open Go.RowKit

theorem TagRow.get {w : World} {e : TypeId} {v : Value} {xs : List Tag} (h : TagRow w e v xs) {a : Nat} (ha : a < xs.length) : ∃ g c, v = .slice (some ⟨g, 0, none⟩) xs.length c ∧ rowBlk v = some g ∧ xs.length ≤ c ∧ c ≤ maxLen ∧
    w.cell? ⟨g, a * 2, none⟩ = some (.int .i64 xs[a].kind) ∧ w.cell? ⟨g, a * 2 + 1, none⟩ = some (.string xs[a].name) ∧ xs[a].name.size ≤ maxLen := by
  obtain ⟨h, hn⟩ := h
  obtain ⟨g, c, cur, rfl, h1, h2, _, _, _, hq⟩ := h.at_ (by omega)
  refine ⟨g, c, rfl, hq, h1, h2, ?_, ?_, hn _ (List.getElem_mem ha)⟩
  · rw [h.cell rfl (by omega)]; exact flat_tag xs a ha 0 (by decide)
  · rw [h.cell rfl (by omega)]; exact flat_tag xs a ha 1 (by decide)

set_option maxRecDepth 100000 in
set_option maxHeartbeats 8000000 in
theorem lookTake_ok (K : LkP) (E : LkE K) (n : Nat) (Z : Nat → Prop) (j : Int) (f : Frm) (vl vs : Value) (w : World) (h : LkS K n Z j f vl vs w) (hj : 0 ≤ j) (hj2 : j < 1000) (i : Ins) (ha0 : 0 ≤ i.a) (ha1 : i.a < K.m.locals) :
    Calls Tryz.prog 94 #[.pointer (some ⟨K.kb, 0, none⟩), .agg #[.int .i64 i.op, .int .i64 i.a, .string i.name, .string i.member]] w (LkPost K n Z j (if (f.locals.getD i.a.toNat noT).kind = 0 then none else (pushF K.m.stack f.stack (f.locals.getD i.a.toNat noT)).map (⟨f.locals, ·⟩)) w) := by
  obtain ⟨iop, ia, inm, imb⟩ := i
  dsimp only at ha0 ha1 ⊢
  obtain ⟨a, rfl⟩ : ∃ a : Nat, ia = a := ⟨ia.toNat, by omega⟩
  have ha : a < f.locals.length := by have := h.ll; omega
  have hl6 := E.locals_le
  have hx0 : f.locals.getD (a : Int).toNat noT = f.locals[a] := by simp [ha]
  rw [hx0]
  clear hx0
  obtain ⟨wA, hwA⟩ : ∃ wA, wA = (w.alloc (.cells #[.int .i64 iop, .int .i64 a, .string inm, .string imb] 27)) := ⟨_, rfl⟩
  have hfA : Fr No w wA := hwA ▸ frc
  have B0 := (hwA ▸ bxc : Bx wA w.heap.size 27 #[.int .i64 iop, .int .i64 a, .string inm, .string imb])
  have hA := h.keep E hfA
  have hkl := h.lt h.zkb
  have hll := h.ll
  obtain ⟨g, c, rfl, hq, hc1, hc2, t0, t1, hxn⟩ := hA.loc.get ha
  have KC := hA.cells
  have K0 := B0.r4
  have KT0 := cr t0
  have KT1 := cr t1
  have hlen : f.locals.length ≤ 1000 := by omega
  clear t0 t1
  generalize f.locals[a] = x at *
  replace hA := Lib.hid hA
  replace h := Lib.hid h
  replace hll := Lib.hid hll
  have HP := fun W (hW : Fr No wA W) => put_ok K E n Z j f _ vs W (hA.out.keep E hW) hj hj2 x hxn
  have HW := fun W (hW : Fr No wA W) => wrong_ok K n Z j f _ vs W (hA.out.keep E hW) hj hj2
  have hN := fun W (hW : Fr No wA W) => (((hA.out.keep E hW).no).from hW).from hfA
  have hcase : (x.kind = 0 ∧ Hid (x.kind = 0)) ∨ (¬ x.kind = 0 ∧ pushF K.m.stack f.stack x = none) ∨ ∃ s, ¬ x.kind = 0 ∧ pushF K.m.stack f.stack x = some s := by
    by_cases hk : x.kind = 0
    · exact .inl ⟨hk, hk⟩
    · cases hp : pushF K.m.stack f.stack x with
      | none => exact .inr (.inl ⟨hk, rfl⟩)
      | some s => exact .inr (.inr ⟨s, hk, rfl⟩)
  rcases hcase with ⟨hk, hk0⟩ | ⟨hk, hp⟩ | ⟨s, hk, hp⟩
  · rw [if_pos hk]
    have hk2 : (x.kind == 0) = true := by simpa using hk
    replace hk := Lib.hid hk
    clear hk0
    go_enter Tryz.func94, Tryz.ntmps94
    go_wp2_with fail
    rw [← hwA]
    replace hwA := Lib.hid hwA
    refine wp_region_monR 9 13 [mV (.pointer (some ⟨K.kb, 0, none⟩)), mV (.pointer (some ⟨K.kb, 0, none⟩)), mV (.pointer (some ⟨K.kb, 11, none⟩)), mV (.slice (some ⟨g, 0, none⟩) f.locals.length c), mV (.pointer (some ⟨w.heap.size, 1, none⟩)), mV (.int .i64 a), mV (.pointer (some ⟨g, a * 2, none⟩)), mV (.agg #[.int .i64 x.kind, .string x.name]), mB 24 (#[.int .i64 0, .string ⟨#[]⟩]) wA.heap.size] (by kernel_rfl) (by kernel_rfl) (by simp) ?_ ?_
    · refine hopC ?_ <| hopC ?_ <| hopC ?_ <| hopC ?_ <| hopC ?_ <| hopC ?_ <| hopC ?_ <| hopC ?_ <| hopC ?_ <| hopZ
      all_goals (intro a' W hW hoff hdep; have hbs := hW.size; have H0 := hoff 0 rfl; have H3 := hoff 3 rfl; refine nE rfl ?_)
      · simp [execOp, Act.eval, H0, go_sem, givesUpon]; exact fr1 rfl
      · have D5 : _ = _ := hdep 0 5 rfl; simp [execOp, Act.eval, D5, go_sem, givesUpon]; exact fr1 rfl
      · have D6 : _ = _ := hdep 1 6 rfl; simp [execOp, Act.eval, D6, go_sem, givesUpon]; exact fr1 rfl
      · have D7 : _ = _ := hdep 2 7 rfl; clear hoff hdep; simp [execOp, Act.eval, go_sem, givesUpon, *]; exact fr1 rfl
      · simp [execOp, Act.eval, H3, go_sem, givesUpon]; exact fr1 rfl
      · have D9 : _ = _ := hdep 4 9 rfl; clear hoff hdep; simp [execOp, Act.eval, go_sem, givesUpon, *]; exact fr1 rfl
      · have D8 : _ = _ := hdep 3 8 rfl; have D10 : _ = _ := hdep 5 10 rfl; clear hoff hdep; simp [execOp, Act.eval, go_sem, givesUpon, *]; exact fr1 rfl
      · have D11 : _ = _ := hdep 6 11 rfl; clear hoff hdep; simp [execOp, Act.eval, go_sem, givesUpon, *]; exact fr1 rfl
      · simp [execOp, go_sem, givesUpon]; exact ⟨(Fr.refl _ _).alloc _, ⟨_, rfl, Bx.new_ rfl, hbs⟩, Nat.le_refl _⟩
    intro vs WR hWR hv hne
    obtain ⟨b8, e8, hb8, hl8⟩ := hv 8 (by omega)
    simp only [List.drop_succ_cons, List.drop_zero, putsR_B, putsR_V, putsR_0, Nat.zero_add, Nat.reduceAdd, e8]
    simp only [Act.put, List.setIfInBounds_toArray, List.set_cons_zero, List.set_cons_succ]
    clear e8 hv
    obtain ⟨y0, y1⟩ := hb8.c2
    have yf := fun i => hb8.frozen i
    have yl := hb8.lt
    have hwr : Fr No wA ((WR.setCell ⟨b8, 0, none⟩ (.int .i64 x.kind)).setCell ⟨b8, 1, none⟩ (.string x.name)) := (hWR.setCell (p := ⟨b8, 0, none⟩) hl8 _).setCell (p := ⟨b8, 1, none⟩) hl8 _
    clear KC K0 KT0 KT1 hb8 hne
    go_wp2_with (go_at_call 110; refine (HW _ hwr).mono ?_; rintro e w4 ⟨rfl, rfl⟩)
    exact ⟨rfl, _, rfl, hN _ hwr⟩
  · rw [if_neg hk, hp, Option.map_none]
    have hk2 : (x.kind == 0) = false := by simpa using hk
    simp only [hp, Option.map_none] at HP
    go_enter Tryz.func94, Tryz.ntmps94
    go_wp2_with fail
    rw [← hwA]
    replace hwA := Lib.hid hwA
    refine wp_region_monR 9 13 [mV (.pointer (some ⟨K.kb, 0, none⟩)), mV (.pointer (some ⟨K.kb, 0, none⟩)), mV (.pointer (some ⟨K.kb, 11, none⟩)), mV (.slice (some ⟨g, 0, none⟩) f.locals.length c), mV (.pointer (some ⟨w.heap.size, 1, none⟩)), mV (.int .i64 a), mV (.pointer (some ⟨g, a * 2, none⟩)), mV (.agg #[.int .i64 x.kind, .string x.name]), mB 24 (#[.int .i64 0, .string ⟨#[]⟩]) wA.heap.size] (by kernel_rfl) (by kernel_rfl) (by simp) ?_ ?_
    · refine hopC ?_ <| hopC ?_ <| hopC ?_ <| hopC ?_ <| hopC ?_ <| hopC ?_ <| hopC ?_ <| hopC ?_ <| hopC ?_ <| hopZ
      all_goals (intro a' W hW hoff hdep; have hbs := hW.size; have H0 := hoff 0 rfl; have H3 := hoff 3 rfl; refine nE rfl ?_)
      · simp [execOp, Act.eval, H0, go_sem, givesUpon]; exact fr1 rfl
      · have D5 : _ = _ := hdep 0 5 rfl; simp [execOp, Act.eval, D5, go_sem, givesUpon]; exact fr1 rfl
      · have D6 : _ = _ := hdep 1 6 rfl; simp [execOp, Act.eval, D6, go_sem, givesUpon]; exact fr1 rfl
      · have D7 : _ = _ := hdep 2 7 rfl; clear hoff hdep; simp [execOp, Act.eval, go_sem, givesUpon, *]; exact fr1 rfl
      · simp [execOp, Act.eval, H3, go_sem, givesUpon]; exact fr1 rfl
      · have D9 : _ = _ := hdep 4 9 rfl; clear hoff hdep; simp [execOp, Act.eval, go_sem, givesUpon, *]; exact fr1 rfl
      · have D8 : _ = _ := hdep 3 8 rfl; have D10 : _ = _ := hdep 5 10 rfl; clear hoff hdep; simp [execOp, Act.eval, go_sem, givesUpon, *]; exact fr1 rfl
      · have D11 : _ = _ := hdep 6 11 rfl; clear hoff hdep; simp [execOp, Act.eval, go_sem, givesUpon, *]; exact fr1 rfl
      · simp [execOp, go_sem, givesUpon]; exact ⟨(Fr.refl _ _).alloc _, ⟨_, rfl, Bx.new_ rfl, hbs⟩, Nat.le_refl _⟩
    intro vs WR hWR hv hne
    obtain ⟨b8, e8, hb8, hl8⟩ := hv 8 (by omega)
    simp only [List.drop_succ_cons, List.drop_zero, putsR_B, putsR_V, putsR_0, Nat.zero_add, Nat.reduceAdd, e8]
    simp only [Act.put, List.setIfInBounds_toArray, List.set_cons_zero, List.set_cons_succ]
    clear e8 hv
    obtain ⟨y0, y1⟩ := hb8.c2
    have yf := fun i => hb8.frozen i
    have yl := hb8.lt
    have hwr : Fr No wA ((WR.setCell ⟨b8, 0, none⟩ (.int .i64 x.kind)).setCell ⟨b8, 1, none⟩ (.string x.name)) := (hWR.setCell (p := ⟨b8, 0, none⟩) hl8 _).setCell (p := ⟨b8, 1, none⟩) hl8 _
    clear KC K0 KT0 KT1 hb8 hne
    go_wp2_with (go_at_call 122; refine (HP _ hwr).mono ?_; rintro e w4 ⟨c, rfl, hNN⟩)
    exact ⟨rfl, c, rfl, (hNN.from hwr).from hfA⟩
  · rw [if_neg hk, hp, Option.map_some]
    have hk2 : (x.kind == 0) = false := by simpa using hk
    simp only [hp, Option.map_some] at HP
    go_enter Tryz.func94, Tryz.ntmps94
    go_wp2_with fail
    rw [← hwA]
    replace hwA := Lib.hid hwA
    refine wp_region_monR 9 13 [mV (.pointer (some ⟨K.kb, 0, none⟩)), mV (.pointer (some ⟨K.kb, 0, none⟩)), mV (.pointer (some ⟨K.kb, 11, none⟩)), mV (.slice (some ⟨g, 0, none⟩) f.locals.length c), mV (.pointer (some ⟨w.heap.size, 1, none⟩)), mV (.int .i64 a), mV (.pointer (some ⟨g, a * 2, none⟩)), mV (.agg #[.int .i64 x.kind, .string x.name]), mB 24 (#[.int .i64 0, .string ⟨#[]⟩]) wA.heap.size] (by kernel_rfl) (by kernel_rfl) (by simp) ?_ ?_
    · refine hopC ?_ <| hopC ?_ <| hopC ?_ <| hopC ?_ <| hopC ?_ <| hopC ?_ <| hopC ?_ <| hopC ?_ <| hopC ?_ <| hopZ
      all_goals (intro a' W hW hoff hdep; have hbs := hW.size; have H0 := hoff 0 rfl; have H3 := hoff 3 rfl; refine nE rfl ?_)
      · simp [execOp, Act.eval, H0, go_sem, givesUpon]; exact fr1 rfl
      · have D5 : _ = _ := hdep 0 5 rfl; simp [execOp, Act.eval, D5, go_sem, givesUpon]; exact fr1 rfl
      · have D6 : _ = _ := hdep 1 6 rfl; simp [execOp, Act.eval, D6, go_sem, givesUpon]; exact fr1 rfl
      · have D7 : _ = _ := hdep 2 7 rfl; clear hoff hdep; simp [execOp, Act.eval, go_sem, givesUpon, *]; exact fr1 rfl
      · simp [execOp, Act.eval, H3, go_sem, givesUpon]; exact fr1 rfl
      · have D9 : _ = _ := hdep 4 9 rfl; clear hoff hdep; simp [execOp, Act.eval, go_sem, givesUpon, *]; exact fr1 rfl
      · have D8 : _ = _ := hdep 3 8 rfl; have D10 : _ = _ := hdep 5 10 rfl; clear hoff hdep; simp [execOp, Act.eval, go_sem, givesUpon, *]; exact fr1 rfl
      · have D11 : _ = _ := hdep 6 11 rfl; clear hoff hdep; simp [execOp, Act.eval, go_sem, givesUpon, *]; exact fr1 rfl
      · simp [execOp, go_sem, givesUpon]; exact ⟨(Fr.refl _ _).alloc _, ⟨_, rfl, Bx.new_ rfl, hbs⟩, Nat.le_refl _⟩
    intro vs WR hWR hv hne
    obtain ⟨b8, e8, hb8, hl8⟩ := hv 8 (by omega)
    simp only [List.drop_succ_cons, List.drop_zero, putsR_B, putsR_V, putsR_0, Nat.zero_add, Nat.reduceAdd, e8]
    simp only [Act.put, List.setIfInBounds_toArray, List.set_cons_zero, List.set_cons_succ]
    clear e8 hv
    obtain ⟨y0, y1⟩ := hb8.c2
    have yf := fun i => hb8.frozen i
    have yl := hb8.lt
    have hwr : Fr No wA ((WR.setCell ⟨b8, 0, none⟩ (.int .i64 x.kind)).setCell ⟨b8, 1, none⟩ (.string x.name)) := (hWR.setCell (p := ⟨b8, 0, none⟩) hl8 _).setCell (p := ⟨b8, 1, none⟩) hl8 _
    clear KC K0 KT0 KT1 hb8 hne
    go_wp2_with (go_at_call 122; refine (HP _ hwr).mono ?_; rintro e w4 ⟨rfl, hOk⟩)
    go_end0
    exact ⟨rfl, (hOk.from hwr).from hfA⟩

theorem tkN_put {K : LkP} {n : Nat} {Z : Nat → Prop} {j : Int} {f : Frm} {g : Tag × List Tag → Frm} {c : List PanicEntry} {a : Act} {w wA W : World} (ha : Fr No w wA) (hd : a.defers = []) (h : TkN K n Z j f wA c W) : a.defers = [] ∧ LkPost K n Z j ((takeF f.stack).map g) w (.panicked c) W := by
  refine ⟨hd, ?_⟩
  rw [h.1]
  exact ⟨c, rfl, h.2.from ha⟩
set_option maxRecDepth 100000 in
set_option maxHeartbeats 8000000 in
theorem lookPut_ok (K : LkP) (E : LkE K) (n : Nat) (Z : Nat → Prop) (j : Int) (f : Frm) (vl vs : Value) (w : World) (h : LkS K n Z j f vl vs w) (hj : 0 ≤ j) (hj2 : j < 1000) (i : Ins) (ha0 : 0 ≤ i.a) (ha1 : i.a < K.m.locals) :
    Calls Tryz.prog 95 #[.pointer (some ⟨K.kb, 0, none⟩), .agg #[.int .i64 i.op, .int .i64 i.a, .string i.name, .string i.member]] w (LkPost K n Z j ((takeF f.stack).map (fun x => ⟨f.locals.set i.a.toNat x.1, x.2⟩)) w) := by
  obtain ⟨iop, ia, inm, imb⟩ := i
  dsimp only at ha0 ha1 ⊢
  obtain ⟨a, rfl⟩ : ∃ a : Nat, ia = a := ⟨ia.toNat, by omega⟩
  have ha : a < f.locals.length := by have := h.ll; omega
  have hl6 := E.locals_le
  rw [show (a : Int).toNat = a by omega]
  obtain ⟨wA, hwA⟩ : ∃ wA, wA = (w.alloc (.cells #[.int .i64 iop, .int .i64 a, .string inm, .string imb] 27)) := ⟨_, rfl⟩
  have hfA : Fr No w wA := hwA ▸ frc
  have B0 := (hwA ▸ bxc : Bx wA w.heap.size 27 #[.int .i64 iop, .int .i64 a, .string inm, .string imb])
  have hA := h.keep E hfA
  have hkl := h.lt h.zkb
  have hll := h.ll
  obtain ⟨g, c, rfl, hq, hc1, hc2, t0, t1, hxn⟩ := hA.loc.get ha
  have hlen : f.locals.length ≤ 1000 := by omega
  clear t0 t1
  have hZ0 : ¬ Z w.heap.size := fun hz => by have := h.lt hz; omega
  have HT := fun W (hW : Fr No wA W) => take_ok K E n Z j f _ vs W (hA.keep E hW) hj hj2
  obtain ⟨G, hG, hGs, KC⟩ : ∃ G : World → Prop, (∀ W, (Fr No wA W ∨ TkC K n Z j f (.slice (some ⟨g, 0, none⟩) f.locals.length c) wA W) → G W) ∧ (∀ W, G W → wA.heap.size ≤ W.heap.size) ∧
      (∀ W, G W → W.cell? ⟨K.kb, 11, none⟩ = some (.slice (some ⟨g, 0, none⟩) f.locals.length c) ∧ K.kb < W.heap.size ∧ W.cell? ⟨w.heap.size, 1, none⟩ = some (.int .i64 a) ∧ w.heap.size < W.heap.size) := by
    refine ⟨fun W => Fr No wA W ∨ TkC K n Z j f (.slice (some ⟨g, 0, none⟩) f.locals.length c) wA W, fun _ h => h, fun W hW => ?_, fun W hW => ?_⟩
    · rcases hW with hW | ⟨_, _, _, ⟨_, _, _, _, _, _, hW⟩, _⟩ <;> exact hW.size
    · rcases hW with hW | ⟨_, _, _, ⟨_, _, _, hS, _, _, hW⟩, hc⟩
      · obtain ⟨_, _, _, _, _, _, _, _, c11, _, _, hl⟩ := hA.cells W hW
        obtain ⟨b0, b1, _⟩ := (B0.keep hW).c4
        exact ⟨c11, hl, b1, (B0.keep hW).lt⟩
      · obtain ⟨_, _, _, _, _, _, _, _, _, _, _, hl⟩ := hS.cells W (Fr.refl _ _)
        obtain ⟨b0, b1, _⟩ := (B0.keepX hW hZ0).c4
        exact ⟨hc, hl, b1, (B0.keepX hW hZ0).lt⟩
  replace h := Lib.hid h
  replace hA := Lib.hid hA
  replace hll := Lib.hid hll
  go_enter Tryz.func95, Tryz.ntmps95
  go_wp2_with fail
  rw [← hwA]
  replace hwA := Lib.hid hwA
  refine wp_region_mowR 8 12 [mV (.pointer (some ⟨K.kb, 0, none⟩)), mV (.pointer (some ⟨K.kb, 0, none⟩)), mV (.pointer (some ⟨K.kb, 11, none⟩)), mV (.slice (some ⟨g, 0, none⟩) f.locals.length c), mV (.pointer (some ⟨w.heap.size, 1, none⟩)), mV (.int .i64 a), mV (.pointer (some ⟨K.kb, 0, none⟩)), mC (TkV f) (TkV.mono f)] 7 (TkN K n Z j f wA) (TkC K n Z j f (.slice (some ⟨g, 0, none⟩) f.locals.length c) wA) (Fr Z) (by kernel_rfl) (by kernel_rfl) (by simp) (fun W W' h hf => h.to E hf) ?_ ?_ ?_ ?_ ?_
  · exact fun v W W' hs => hSV <| hSV <| hSV <| hSV <| hSV <| hSV <| hSV <| hopZ
  · refine hopC ?_ <| hopC ?_ <| hopC ?_ <| hopC ?_ <| hopC ?_ <| hopC ?_ <| hopC ?_ <| hopZ
    all_goals (intro a' W hW hoff hdep; replace hW := hG _ hW; have hbs := hGs _ hW; have H0 := hoff 0 rfl; have H3 := hoff 3 rfl; refine nE rfl ?_)
    · simp [execOp, Act.eval, H0, go_sem, givesUpon]; exact fr1 rfl
    · have D4 : _ = _ := hdep 0 4 rfl; simp [execOp, Act.eval, D4, go_sem, givesUpon]; exact fr1 rfl
    · have D5 : _ = _ := hdep 1 5 rfl; simp [execOp, Act.eval, D5, go_sem, givesUpon]; exact fr1 rfl
    · have D6 : _ = _ := hdep 2 6 rfl; clear hoff hdep; simp [execOp, Act.eval, go_sem, givesUpon, *]; exact fr1 rfl
    · simp [execOp, Act.eval, H3, go_sem, givesUpon]; exact fr1 rfl
    · have D8 : _ = _ := hdep 4 8 rfl; clear hoff hdep; simp [execOp, Act.eval, go_sem, givesUpon, *]; exact fr1 rfl
    · simp [execOp, Act.eval, H0, go_sem, givesUpon]; exact fr1 rfl
  · intro o r ho hr a' W hW hoff hdep
    have hbs := hW.size
    cases ho; cases hr
    have D10 : _ = _ := hdep 6 10 rfl
    simp [Act.eval, D10, go_sem, givesUponN]
    exact (HT _ hW).mono (fun e w' h => take_end hA.out hW h)
  · intro c a' W hd hN; exact tkN_put hfA hd hN
  intro vs WR hWR hv hne
  replace hWR := hWR.resolve_left (fun h => absurd h.1 (by decide))
  obtain ⟨xR7, rR7, hxR7, e7, hxnR7⟩ := hv 7 (by omega)
  simp only [List.drop_succ_cons, List.drop_zero, putsR_C, putsR_V, putsR_0, Nat.zero_add, Nat.reduceAdd, e7]
  simp only [Act.put, List.setIfInBounds_toArray, List.set_cons_zero, List.set_cons_succ]
  clear e7 hv
  obtain ⟨x, r, hx, hOk, hc11⟩ := hWR
  rw [hx] at hxR7
  cases hxR7
  obtain ⟨Z', vl', vs', hS1, hz, hz', hf1⟩ := hOk
  have hvl : vl' = .slice (some ⟨g, 0, none⟩) f.locals.length c := by
    have := hS1.box.cell 11
    rw [hc11] at this
    exact (Option.some.inj this).symm
  subst hvl
  obtain ⟨g', c', he, _, _, _, u0, u1, _⟩ := hS1.loc.get (a := a) ha
  cases he
  have uf : ∀ q, WR.frozen? ⟨g, q, none⟩ = false := fun q => by
    obtain ⟨g9, c9, cur, he, _, _, hb, _⟩ := hS1.loc.1.at_ (by show 0 < f.locals.length; omega)
    cases he
    exact hb.frozen q
  have ul := lt_of_cell u0
  have hset := hS1.setLoc (i := a) E ha hxnR7
  have hfin := Lib.hid ((LkOk.then hz hz' hf1 hset).from hfA)
  clear KC HT hne hS1 hset hG hGs
  go_wp2
  go_end0
  rw [hx]
  exact ⟨rfl, hfin.out⟩
end Go.Proofs.YtbalicnnlfennaaGreat
