/- What may be turned (a change), as data; the laws' own size, copy and comparison of it. -/
import Derived.Test.YtlcdppoelflamaaGreatDoorTo2
import Derived.Test.YtlcdppoelflamaaGreatDoorEq
namespace Go.Proofs.YtlcdppoelflamaaGreatDoor
open Go.RowKit

structure Chg where
  kind : Int
  keeper : Int
  name : Str
  to : Int
  cls : Cls
def ChgC (X : Nat → Prop) (w : World) (cs : List Value) (c : Chg) : Prop :=
  ∃ vf vm, cs = [.int .i64 c.kind, .int .i64 c.keeper, .string c.name, .int .i64 c.to, .string c.cls.name, .string c.cls.super, vf, vm] ∧ c.name.size ≤ maxLen ∧ c.cls.name.size ≤ maxLen ∧ c.cls.super.size ≤ maxLen ∧
    Sl X w 3 FldC vf c.cls.fields ∧ Sl X w 8 (MthC X w) vm c.cls.methods
section
variable {X Y : Nat → Prop} {w w' : World} {cs : List Value}
theorem ChgC.keep {c : Chg} (h : ChgC X w cs c) (hf : Fr Y w w') (hXY : ∀ b, Y b → X b) : ChgC X w' cs c := by
  obtain ⟨vf, vm, rfl, h1, h2, h3, h4, h5⟩ := h
  exact ⟨vf, vm, rfl, h1, h2, h3, h4.keep hf hXY (fun _ _ _ h => h), h5.keep hf hXY (fun _ _ _ h => h.keep hf hXY)⟩
theorem ChgC.weaken {c : Chg} (h : ChgC X w cs c) (hYX : ∀ b, Y b → X b) : ChgC Y w cs c := by
  obtain ⟨vf, vm, rfl, h1, h2, h3, h4, h5⟩ := h
  exact ⟨vf, vm, rfl, h1, h2, h3, h4.weaken hYX (fun _ _ _ h => h), h5.weaken hYX (fun _ _ _ h => h.weaken hYX)⟩
end
def szChg (x : Chg) : Nat := x.name.size + szCls x.cls

set_option maxRecDepth 100000 in
set_option maxHeartbeats 2000000 in
theorem szChg_go (X : Nat → Prop) (x : Chg) (cs : List Value) (left : Int) (w : World) (h : ChgC X w cs x) (h0 : 0 ≤ left) (h1 : left ≤ 1048576) :
    Calls Tryz.prog 4 #[.agg cs.toArray, .int .i64 left] w (SzPost (szChg x) left w) := by
  obtain ⟨v_fields, v_methods, rfl, hz0, hz1, hz2, h_fields, h_methods⟩ := h
  have HC : ClsC X w [.string x.cls.name, .string x.cls.super, v_fields, v_methods] x.cls := ⟨_, _, rfl, hz1, hz2, h_fields, h_methods⟩
  have H := fun W l (h : Fr No w W) => szCls_go X x.cls _ l W (HC.keep h (fun _ h => h.elim))
  unfold maxLen at hz0
  obtain ⟨A_fields, c_fields, rfl, p_fields, q_fields⟩ := h_fields.form
  obtain ⟨A_methods, c_methods, rfl, p_methods, q_methods⟩ := h_methods.form
  clear h_fields h_methods HC
  go_enter Tryz.func4, Tryz.ntmps4
  go_wp2_with (first
    | (go_at_call 9; refine (H _ _ ?_ ?_ ?_).mono ?_; (focus ((repeat (first | (with_reducible assumption) | (with_reducible exact Fr.refl _ _) | (with_reducible refine Fr.alloc ?_ _) | (with_reducible refine Fr.drew ?_) | (with_reducible refine Fr.drewN ?_ _) | (with_reducible refine Fr.setCellO ?_ ?_ _; (focus (first | (dsimp only; omega) | (simp; done) | (simp; omega)))) | (with_reducible refine Fr.trans0 ?_ (by assumption)) | (with_reducible refine Fr.trans0 ?_ (Fr.of0 (by assumption))))))); omega; omega; rintro e w0 ⟨n0, rfl, hn0, hf0⟩; have hnb0 : n0 ≤ 1048576 := (by have := hn0.out; omega); have hw0 : Fr No w w0 := (by (repeat (first | (with_reducible assumption) | (with_reducible exact Fr.refl _ _) | (with_reducible refine Fr.alloc ?_ _) | (with_reducible refine Fr.drew ?_) | (with_reducible refine Fr.drewN ?_ _) | (with_reducible refine Fr.setCellO ?_ ?_ _; (focus (first | (dsimp only; omega) | (simp; done) | (simp; omega)))) | (with_reducible refine Fr.trans0 ?_ (by assumption)) | (with_reducible refine Fr.trans0 ?_ (Fr.of0 (by assumption))))))))
  all_goals go_ret
  all_goals refine SzPost.mk _ ?_ (by (repeat (first | (with_reducible assumption) | (with_reducible exact Fr.refl _ _) | (with_reducible refine Fr.alloc ?_ _) | (with_reducible refine Fr.drew ?_) | (with_reducible refine Fr.drewN ?_ _) | (with_reducible refine Fr.setCellO ?_ ?_ _; (focus (first | (dsimp only; omega) | (simp; done) | (simp; omega)))) | (with_reducible refine Fr.trans0 ?_ (by assumption)) | (with_reducible refine Fr.trans0 ?_ (Fr.of0 (by assumption))))))
  all_goals (first | (left; refine ⟨?_, ?_⟩ <;> ((try simp only [szChg, Hid] at *) <;> omega)) | (right; refine ⟨rfl, ?_⟩; ((try simp only [szChg, Hid] at *) <;> omega)))

set_option maxRecDepth 100000 in
set_option maxHeartbeats 2000000 in
theorem eqChg_go (X Y : Nat → Prop) (x : Chg) (cs cs1 : List Value) (w : World) (h : ChgC X w cs x) (h1 : ChgC Y w cs1 x) :
    Calls Tryz.prog 8 #[.agg cs.toArray, .agg cs1.toArray] w (BoolFr true w) := by
  obtain ⟨v_fields, v_methods, rfl, z0, z1, z2, h_fields, h_methods⟩ := h
  obtain ⟨u_fields, u_methods, rfl, _, _, _, g_fields, g_methods⟩ := h1
  have HC : ClsC X w [.string x.cls.name, .string x.cls.super, v_fields, v_methods] x.cls := ⟨_, _, rfl, z1, z2, h_fields, h_methods⟩
  have GC : ClsC Y w [.string x.cls.name, .string x.cls.super, u_fields, u_methods] x.cls := ⟨_, _, rfl, z1, z2, g_fields, g_methods⟩
  have H := fun W (h : Fr No w W) => eqCls_go X Y x.cls _ _ W (HC.keep h (fun _ h => h.elim)) (GC.keep h (fun _ h => h.elim))
  obtain ⟨A_fields, c_fields, rfl, _, _⟩ := h_fields.form
  obtain ⟨B_fields, d_fields, rfl, _, _⟩ := g_fields.form
  obtain ⟨A_methods, c_methods, rfl, _, _⟩ := h_methods.form
  obtain ⟨B_methods, d_methods, rfl, _, _⟩ := g_methods.form
  clear h_fields g_fields h_methods g_methods HC GC
  go_enter Tryz.func8, Tryz.ntmps8
  go_wp2_with (go_at_call 15; refine (H _ ?_).mono ?_; (focus ((repeat (first | (with_reducible assumption) | (with_reducible exact Fr.refl _ _) | (with_reducible refine Fr.alloc ?_ _) | (with_reducible refine Fr.drew ?_) | (with_reducible refine Fr.drewN ?_ _) | (with_reducible refine Fr.setCellO ?_ ?_ _; (focus (first | (dsimp only; omega) | (simp; done) | (simp; omega)))) | (with_reducible refine Fr.trans0 ?_ (by assumption)) | (with_reducible refine Fr.trans0 ?_ (Fr.of0 (by assumption))))))); rintro e w1 ⟨rfl, hf1⟩; have hw1 : Fr No w w1 := (by (repeat (first | (with_reducible assumption) | (with_reducible exact Fr.refl _ _) | (with_reducible refine Fr.alloc ?_ _) | (with_reducible refine Fr.drew ?_) | (with_reducible refine Fr.drewN ?_ _) | (with_reducible refine Fr.setCellO ?_ ?_ _; (focus (first | (dsimp only; omega) | (simp; done) | (simp; omega)))) | (with_reducible refine Fr.trans0 ?_ (by assumption)) | (with_reducible refine Fr.trans0 ?_ (Fr.of0 (by assumption)))))))
  go_ret
  exact .mk rfl (by (repeat (first | (with_reducible assumption) | (with_reducible exact Fr.refl _ _) | (with_reducible refine Fr.alloc ?_ _) | (with_reducible refine Fr.drew ?_) | (with_reducible refine Fr.drewN ?_ _) | (with_reducible refine Fr.setCellO ?_ ?_ _; (focus (first | (dsimp only; omega) | (simp; done) | (simp; omega)))) | (with_reducible refine Fr.trans0 ?_ (by assumption)) | (with_reducible refine Fr.trans0 ?_ (Fr.of0 (by assumption))))))

set_option maxRecDepth 100000 in
set_option maxHeartbeats 2000000 in
theorem toChg_go (X : Nat → Prop) (x : Chg) (cs : List Value) (w : World) (h : ChgC X w cs x) (hs : szChg x ≤ 1048576) :
    Calls Tryz.prog 6 #[.agg cs.toArray] w (ToPost ChgC x w) := by
  obtain ⟨v_fields, v_methods, rfl, z0, z1, z2, h_fields, h_methods⟩ := h
  unfold szChg at hs
  have HC : ClsC X w [.string x.cls.name, .string x.cls.super, v_fields, v_methods] x.cls := ⟨_, _, rfl, z1, z2, h_fields, h_methods⟩
  have H := fun W (h : Fr No w W) => toCls_go X x.cls _ W (HC.keep h (fun _ h => h.elim)) (by omega)
  obtain ⟨A_fields, c_fields, rfl, _, _⟩ := h_fields.form
  obtain ⟨A_methods, c_methods, rfl, _, _⟩ := h_methods.form
  clear h_fields h_methods HC hs
  go_enter Tryz.func6, Tryz.ntmps6
  go_wp2_with fail
  refine (H _ ?_).mono ?_
  · (repeat (first | (with_reducible assumption) | (with_reducible exact Fr.refl _ _) | (with_reducible refine Fr.alloc ?_ _) | (with_reducible refine Fr.drew ?_) | (with_reducible refine Fr.drewN ?_ _) | (with_reducible refine Fr.setCellO ?_ ?_ _; (focus (first | (dsimp only; omega) | (simp; done) | (simp; omega)))) | (with_reducible refine Fr.trans0 ?_ (by assumption)) | (with_reducible refine Fr.trans0 ?_ (Fr.of0 (by assumption)))))
  rintro e w1 ⟨cs1, rfl, ⟨u_fields, u_methods, rfl, _, _, s_fields, s_methods⟩, hf1⟩
  obtain ⟨B_fields, d_fields, rfl, _, _⟩ := s_fields.form
  obtain ⟨B_methods, d_methods, rfl, _, _⟩ := s_methods.form
  have t_fields := s_fields.weaken (Y := fun b => b < w.heap.size + 3) (fun b (hb : b < w.heap.size + 3) => Nat.lt_of_lt_of_le hb (by first | (simp; done) | (simp; omega))) (fun _ _ _ h => h)
  have t_methods := s_methods.weaken (Y := fun b => b < w.heap.size + 3) (fun b (hb : b < w.heap.size + 3) => Nat.lt_of_lt_of_le hb (by first | (simp; done) | (simp; omega))) (fun _ _ _ h9 => h9.weaken (fun b (hb : b < w.heap.size + 3) => Nat.lt_of_lt_of_le hb (by first | (simp; done) | (simp; omega))))
  clear s_fields s_methods
  have hb1 : Bx w1 w.heap.size 27 #[.int .i64 x.kind, .int .i64 x.keeper, .string x.name, .int .i64 x.to, .string x.cls.name, .string x.cls.super, .slice A_fields x.cls.fields.length c_fields, .slice A_methods x.cls.methods.length c_methods] := Bx.keepTo w1 (by (repeat (first | (with_reducible assumption) | (with_reducible exact Bx.new_ rfl) | (with_reducible refine Bx.new_ ?_; (focus (simp; done))) | (with_reducible refine Bx.alloc ?_ _) | (with_reducible refine Bx.farO ?_ ?_ _; (focus (dsimp only; omega))) | (with_reducible apply Bx.setc) | rfl))) hf1
  have hr1 : Bx w1 (w.heap.size + 1) 35 #[.int .i64 0, .int .i64 0, .string ⟨#[]⟩, .int .i64 0, .string ⟨#[]⟩, .string ⟨#[]⟩, .slice none 0 0, .slice none 0 0] := Bx.keepTo w1 (by (repeat (first | (with_reducible assumption) | (with_reducible exact Bx.new_ rfl) | (with_reducible refine Bx.new_ ?_; (focus (simp; done))) | (with_reducible refine Bx.alloc ?_ _) | (with_reducible refine Bx.farO ?_ ?_ _; (focus (dsimp only; omega))) | (with_reducible apply Bx.setc) | rfl))) hf1
  have ho1 : Bx w1 (w.heap.size + 1 + 1) 35 #[.int .i64 x.kind, .int .i64 x.keeper, .string x.name, .int .i64 x.to, .string ⟨#[]⟩, .string ⟨#[]⟩, .slice none 0 0, .slice none 0 0] := Bx.keepTo w1 (by (repeat (first | (with_reducible assumption) | (with_reducible exact Bx.new_ rfl) | (with_reducible refine Bx.new_ ?_; (focus (simp; done))) | (with_reducible refine Bx.alloc ?_ _) | (with_reducible refine Bx.farO ?_ ?_ _; (focus (dsimp only; omega))) | (with_reducible apply Bx.setc) | rfl))) hf1
  obtain ⟨b1_0, b1_1, b1_2, b1_3, b1_4, b1_5, b1_6, b1_7⟩ := hr1.c8
  obtain ⟨c1_0, c1_1, c1_2, c1_3, c1_4, c1_5, c1_6, c1_7⟩ := ho1.c8
  have fr1 := fun j => hr1.frozen j
  have fo1 := fun j => ho1.frozen j
  go_wp2
  refine bodyPost_ret (v := .agg #[.int .i64 x.kind, .int .i64 x.keeper, .string x.name, .int .i64 x.to, .string x.cls.name, .string x.cls.super, .slice B_fields x.cls.fields.length d_fields, .slice B_methods x.cls.methods.length d_methods]) (by simp [results, Tryz.results6, go_sem, *]) rfl ?_
  refine ⟨_, rfl, ⟨_, _, rfl, z0, z1, z2, ?_, ?_⟩, by (repeat (first | (with_reducible assumption) | (with_reducible exact Fr.refl _ _) | (with_reducible refine Fr.alloc ?_ _) | (with_reducible refine Fr.drew ?_) | (with_reducible refine Fr.drewN ?_ _) | (with_reducible refine Fr.setCellO ?_ ?_ _; (focus (first | (dsimp only; omega) | (simp; done) | (simp; omega)))) | (with_reducible refine Fr.trans0 ?_ (by assumption)) | (with_reducible refine Fr.trans0 ?_ (Fr.of0 (by assumption)))))⟩
  · exact (t_fields.keep (Y := fun b => b < w.heap.size + 3) (by (repeat (first | (with_reducible assumption) | (with_reducible exact Fr.refl _ _) | (with_reducible refine Fr.alloc ?_ _) | (with_reducible refine Fr.drew ?_) | (with_reducible refine Fr.drewN ?_ _) | (with_reducible refine Fr.setCellXO ?_ ?_ _; (focus (dsimp only; omega))) | (with_reducible refine Fr.trans0 ?_ (by assumption))))) (fun _ h => h) (fun _ _ _ h => h)).weaken (fun b hb => Nat.lt_add_right 3 hb) (fun _ _ _ h => h)
  · exact (t_methods.keep (Y := fun b => b < w.heap.size + 3) (by (repeat (first | (with_reducible assumption) | (with_reducible exact Fr.refl _ _) | (with_reducible refine Fr.alloc ?_ _) | (with_reducible refine Fr.drew ?_) | (with_reducible refine Fr.drewN ?_ _) | (with_reducible refine Fr.setCellXO ?_ ?_ _; (focus (dsimp only; omega))) | (with_reducible refine Fr.trans0 ?_ (by assumption))))) (fun _ h => h) (fun _ _ _ h9 => h9.keep (Y := fun b => b < w.heap.size + 3) (by (repeat (first | (with_reducible assumption) | (with_reducible exact Fr.refl _ _) | (with_reducible refine Fr.alloc ?_ _) | (with_reducible refine Fr.drew ?_) | (with_reducible refine Fr.drewN ?_ _) | (with_reducible refine Fr.setCellXO ?_ ?_ _; (focus (dsimp only; omega))) | (with_reducible refine Fr.trans0 ?_ (by assumption))))) (fun _ h => h))).weaken (fun b hb => Nat.lt_add_right 3 hb) (fun _ _ _ h9 => h9.weaken (fun b hb => Nat.lt_add_right 3 hb))
end Go.Proofs.YtlcdppoelflamaaGreatDoor
