/- The program's own checks of a method's instructions and stack maps, of methods and of classes. -/
import Derived.Test.YtghmnkafpnkojaaGreatDoorVal4
namespace Go.Proofs.YtghmnkafpnkojaaGreatDoor
open Go.RowKit

def insAt (locals len : Int) (i : Ins) : Bool :=
  insB i && (if i.op == 2 || i.op == 3 then decide (i.a < locals) else if i.op == 11 || i.op == 12 || i.op == 13 then decide (i.a < len) else true)
def codeB (m : Mth) : Bool := decide (1 ≤ m.code.length) && decide (m.code.length ≤ 16) && m.code.all (insAt m.locals m.code.length)

set_option maxRecDepth 100000 in
set_option maxHeartbeats 1000000 in
theorem code_ok (X : Nat → Prop) (m : Mth) (cs : List Value) (w : World) (h : MthC X w cs m) :
    Calls Tryz.prog 107 #[.agg cs.toArray] w (BoolFr (codeB m) w) := by
  obtain ⟨va, vc, vm, rfl, _, _, ha, hc, hm⟩ := h
  obtain ⟨A, cap, rfl, hcap, hlen⟩ := hc.form
  have hlen' := hlen
  unfold maxLen at hlen'
  clear ha hm
  by_cases hr : 1 ≤ m.code.length ∧ m.code.length ≤ 16
  · obtain ⟨h1, h16⟩ := hr
    have d1 : decide ((m.code.length : Int) < 1) = false := by simp; omega
    have d2 : decide (16 < (m.code.length : Int)) = false := by simp; omega
    have hb : Hid (codeB m = m.code.all (insAt m.locals m.code.length)) := by unfold Hid codeB; rw [decide_eq_true h1, decide_eq_true h16]; rfl
    have hB := Bx.new w 85 #[.string m.name, va, .int .i64 m.ret.kind, .string m.ret.name, .int .i64 m.locals, .int .i64 m.stack, .slice A m.code.length cap, vm]
    go_enter Tryz.func107, Tryz.ntmps107
    go_wp2
    go_loopw [18, 2] (fun i r wr => ∃ k : Nat, k ≤ m.code.length ∧ i = .int .i64 k ∧ r = .bool false ∧ Hid ((m.code.take k).all (insAt m.locals m.code.length) = true) ∧
      Fr No (w.alloc (.cells #[.string m.name, va, .int .i64 m.ret.kind, .string m.ret.name, .int .i64 m.locals, .int .i64 m.stack, .slice A m.code.length cap, vm] 85)) wr) (fun i _ _ => m.code.length - (intOf i).toNat)
    case atStart => exact ⟨0, Nat.zero_le _, rfl, rfl, by simp [Hid], Fr.refl _ _⟩
    case round =>
      obtain ⟨k, hk, rfl, rfl, ha, hf⟩ := hrel
      have hw : Fr No w wr := ((Fr.refl No w).alloc _).trans0 hf
      obtain ⟨b0, b1, b2, b3, b4, b5, b6, b7⟩ := (hB.keep hf).c8
      have hB' := hB.keep hf
      clear hB
      by_cases hlt : k < m.code.length
      · obtain ⟨b, off, rfl, hX, c0, c1, c2, c3, hs, hs'⟩ := (hc.keep hw (fun _ h => h.elim) (fun _ _ _ h => h)).ins hlt
        clear hc
        have H := fun W => ins_ok m.code[k] W hs hs'
        have ha1 := all_snoc (insAt m.locals m.code.length) m.code k hlt
        rw [ha.out, Bool.true_and] at ha1
        clear ha
        have HS : insAt m.locals m.code.length m.code[k] = true → Hid ((m.code.take (k + 1)).all (insAt m.locals m.code.length) = true) := fun h => ha1.trans h
        have HN : insAt m.locals m.code.length m.code[k] = false → Hid (m.code.all (insAt m.locals m.code.length) = false) := fun h => all_no _ m.code k hlt h
        clear ha1
        have HS := Lib.hid HS
        have HN := Lib.hid HN
        generalize m.code[k] = i at *
        cases ht : insB i
        all_goals
          simp only [ht] at H
          have ht := Lib.hid ht
          go_wp2_with (go_at_call 120; refine (H _).mono ?_; rintro e w1 ⟨rfl, hf1⟩; obtain ⟨e0, e1, e2, e3, e4, e5, e6, e7⟩ := (hB'.keep (by exact ((Fr.refl No wr).alloc _).trans0 hf1)).c8; obtain ⟨f0, f1, f2, f3⟩ := ((Bx.new wr 216 #[.int .i64 i.op, .int .i64 i.a, .string i.name, .string i.member]).keep hf1).c4)
        all_goals first
          | (go_roundw; (case rel => exact ⟨k + 1, by omega, by go_num, rfl, HS.out (by simp [insAt, ht.out, *]), by exact frc⟩); (case measure => simp [intOf]; omega))
          | (go_ret; exact .mk (by rw [hb.out, HN.out (by simp [insAt, ht.out, *])]) (by exact frc))
      · have HS : Hid (m.code.all (insAt m.locals m.code.length) = true) := all_yes _ m.code k (by omega) ha.out
        clear ha hc
        go_wp2
        go_ret
        exact .mk (by rw [hb.out, HS.out]) (by exact frc)
  · have hb : Hid (codeB m = false) := by unfold Hid codeB; rw [Bool.and_eq_false_iff, Bool.and_eq_false_iff, decide_eq_false_iff_not, decide_eq_false_iff_not]; omega
    have hr' : m.code.length < 1 ∨ 16 < m.code.length := by omega
    clear hr hc
    rcases hr' with h1 | h1
    all_goals
      go_enter Tryz.func107, Tryz.ntmps107
      go_wp2
      go_ret
      exact .mk (by rw [hb.out]) (by exact frc)
end Go.Proofs.YtghmnkafpnkojaaGreatDoor
