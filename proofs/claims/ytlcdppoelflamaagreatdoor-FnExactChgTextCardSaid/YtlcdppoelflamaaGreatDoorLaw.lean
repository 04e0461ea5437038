/- The law's walk: the program's text of a change is the reference's, and the change stays as it was. -/
import Derived.Test.YtlcdppoelflamaaGreatDoorSpc8
namespace Go.Proofs.YtlcdppoelflamaaGreatDoor
open Go.RowKit

set_option maxRecDepth 100000 in
set_option maxHeartbeats 4000000 in
theorem law_walk (X : Nat → Prop) (c : Chg) (cs : List Value) (w : World) (h : ChgC X w cs c) :
    Calls Tryz.prog 3 #[.agg cs.toArray] w (BoolFr true w) := by
  have HZ := fun W (hW : Fr No w W) => szChg_go X c cs 1048576 W (h.keep hW (fun _ h => h.elim)) (by omega) (by omega)
  have HT := fun W (hW : Fr No w W) (hs : szChg c ≤ 1048576) => toChg_go X c cs W (h.keep hW (fun _ h => h.elim)) hs
  obtain ⟨vf, vm, rfl, hz0, hz1, hz2, hf, hm⟩ := h
  obtain ⟨Af, cf, rfl, _, _⟩ := hf.form
  obtain ⟨Am, cm, rfl, _, _⟩ := hm.form
  clear hf hm
  have hB := Bx.new w 27 #[.int .i64 c.kind, .int .i64 c.keeper, .string c.name, .int .i64 c.to, .string c.cls.name, .string c.cls.super, .slice Af c.cls.fields.length cf, .slice Am c.cls.methods.length cm]
  go_enter Tryz.func3, Tryz.ntmps3
  go_wp2_with fail
  refine (HZ _ ?_).mono ?_
  · (repeat (first | (with_reducible assumption) | (with_reducible exact Fr.refl _ _) | (with_reducible refine Fr.alloc ?_ _) | (with_reducible refine Fr.drew ?_) | (with_reducible refine Fr.drewN ?_ _) | (with_reducible refine Fr.setCellO ?_ ?_ _; (focus (first | (dsimp only; omega) | (simp; done) | (simp; omega)))) | (with_reducible refine Fr.trans0 ?_ (by assumption)) | (with_reducible refine Fr.trans0 ?_ (Fr.of0 (by assumption)))))
  rintro e w1 ⟨n, rfl, hn, hf1⟩
  have hb1 := hB.keep hf1
  have hw1 : Fr No w w1 := by (repeat (first | (with_reducible assumption) | (with_reducible exact Fr.refl _ _) | (with_reducible refine Fr.alloc ?_ _) | (with_reducible refine Fr.drew ?_) | (with_reducible refine Fr.drewN ?_ _) | (with_reducible refine Fr.setCellO ?_ ?_ _; (focus (first | (dsimp only; omega) | (simp; done) | (simp; omega)))) | (with_reducible refine Fr.trans0 ?_ (by assumption)) | (with_reducible refine Fr.trans0 ?_ (Fr.of0 (by assumption)))))
  obtain ⟨a0, a1, a2, a3, a4, a5, a6, a7⟩ := hb1.c8
  have hl1 := hb1.lt
  clear HZ
  by_cases hneg : n < 0
  · go_wp2
    go_ret
    exact .mk rfl (by (repeat (first | (with_reducible assumption) | (with_reducible exact Fr.refl _ _) | (with_reducible refine Fr.alloc ?_ _) | (with_reducible refine Fr.drew ?_) | (with_reducible refine Fr.drewN ?_ _) | (with_reducible refine Fr.setCellO ?_ ?_ _; (focus (first | (dsimp only; omega) | (simp; done) | (simp; omega)))) | (with_reducible refine Fr.trans0 ?_ (by assumption)) | (with_reducible refine Fr.trans0 ?_ (Fr.of0 (by assumption))))))
  · have hs : szChg c ≤ 1048576 := by have := hn.out; omega
    have HT := fun W hW => HT W hW hs
    clear hs hn hB
    go_wp2_with fail
    refine (HT _ ?_).mono ?_
    · (repeat (first | (with_reducible assumption) | (with_reducible exact Fr.refl _ _) | (with_reducible refine Fr.alloc ?_ _) | (with_reducible refine Fr.drew ?_) | (with_reducible refine Fr.drewN ?_ _) | (with_reducible refine Fr.setCellO ?_ ?_ _; (focus (first | (dsimp only; omega) | (simp; done) | (simp; omega)))) | (with_reducible refine Fr.trans0 ?_ (by assumption)) | (with_reducible refine Fr.trans0 ?_ (Fr.of0 (by assumption)))))
    rintro e w2 ⟨cs2, rfl, hR2, hf2⟩
    go_wp2_with fail
    refine (s_text _ c cs2 _ hR2).mono ?_
    rintro e w3 ⟨rfl, hf3⟩
    clear hR2
    have hb3 := (hb1.keep hf2).keep hf3
    clear a0 a1 a2 a3 a4 a5 a6 a7
    obtain ⟨b0, b1, b2, b3, b4, b5, b6, b7⟩ := hb3.c8
    have hl3 := hb3.lt
    have hw3 : Fr No w w3 := by (repeat (first | (with_reducible assumption) | (with_reducible exact Fr.refl _ _) | (with_reducible refine Fr.alloc ?_ _) | (with_reducible refine Fr.drew ?_) | (with_reducible refine Fr.drewN ?_ _) | (with_reducible refine Fr.setCellO ?_ ?_ _; (focus (first | (dsimp only; omega) | (simp; done) | (simp; omega)))) | (with_reducible refine Fr.trans0 ?_ (by assumption)) | (with_reducible refine Fr.trans0 ?_ (Fr.of0 (by assumption)))))
    go_wp2_with fail
    refine (HT _ ?_).mono ?_
    · (repeat (first | (with_reducible assumption) | (with_reducible exact Fr.refl _ _) | (with_reducible refine Fr.alloc ?_ _) | (with_reducible refine Fr.drew ?_) | (with_reducible refine Fr.drewN ?_ _) | (with_reducible refine Fr.setCellO ?_ ?_ _; (focus (first | (dsimp only; omega) | (simp; done) | (simp; omega)))) | (with_reducible refine Fr.trans0 ?_ (by assumption)) | (with_reducible refine Fr.trans0 ?_ (Fr.of0 (by assumption)))))
    rintro e w4 ⟨cs4, rfl, hR4, hf4⟩
    obtain ⟨uf, um, rfl, y0, y1, y2, gf, gm⟩ := hR4
    have hR4 : ChgC (fun b => b < w3.heap.size) w4 [.int .i64 c.kind, .int .i64 c.keeper, .string c.name, .int .i64 c.to, .string c.cls.name, .string c.cls.super, uf, um] c := ⟨_, _, rfl, y0, y1, y2, gf, gm⟩
    obtain ⟨Bf, df, rfl, _, _⟩ := gf.form
    obtain ⟨Bm, dm, rfl, _, _⟩ := gm.form
    clear gf gm y0 y1 y2
    have hb4 := hb3.keep hf4
    clear b0 b1 b2 b3 b4 b5 b6 b7
    obtain ⟨b0, b1, b2, b3, b4, b5, b6, b7⟩ := hb4.c8
    have hl4 := hb4.lt
    have hw4 : Fr No w w4 := by (repeat (first | (with_reducible assumption) | (with_reducible exact Fr.refl _ _) | (with_reducible refine Fr.alloc ?_ _) | (with_reducible refine Fr.drew ?_) | (with_reducible refine Fr.drewN ?_ _) | (with_reducible refine Fr.setCellO ?_ ?_ _; (focus (first | (dsimp only; omega) | (simp; done) | (simp; omega)))) | (with_reducible refine Fr.trans0 ?_ (by assumption)) | (with_reducible refine Fr.trans0 ?_ (Fr.of0 (by assumption)))))
    go_wp2_with fail
    refine (chg_text _ c _ _ (hR4.keep ((Fr.refl No w4).alloc _) (fun _ h => h.elim))).mono ?_
    rintro e w5 ⟨rfl, hf5⟩
    have hx5 := (Bx.new w4 35 #[.int .i64 c.kind, .int .i64 c.keeper, .string c.name, .int .i64 c.to, .string c.cls.name, .string c.cls.super, .slice Bf c.cls.fields.length df, .slice Bm c.cls.methods.length dm]).keep hf5
    have hb5 := (hb4.alloc _).keep hf5
    have hw5 : Fr No w w5 := by (repeat (first | (with_reducible assumption) | (with_reducible exact Fr.refl _ _) | (with_reducible refine Fr.alloc ?_ _) | (with_reducible refine Fr.drew ?_) | (with_reducible refine Fr.drewN ?_ _) | (with_reducible refine Fr.setCellO ?_ ?_ _; (focus (first | (dsimp only; omega) | (simp; done) | (simp; omega)))) | (with_reducible refine Fr.trans0 ?_ (by assumption)) | (with_reducible refine Fr.trans0 ?_ (Fr.of0 (by assumption)))))
    have hR5 := hR4.keep (((Fr.refl No w4).alloc _).trans0 hf5) (fun _ h => h.elim)
    clear b0 b1 b2 b3 b4 b5 b6 b7 hR4
    obtain ⟨b0, b1, b2, b3, b4, b5, b6, b7⟩ := hb5.c8
    obtain ⟨x0, x1, x2, x3, x4, x5, x6, x7⟩ := hx5.c8
    have hl5 := hb5.lt
    have hk5 := hx5.lt
    go_wp2_with fail
    go_region_with (first
      | (go_at_call 6; refine (HT _ ?_).mono ?_; (focus ((repeat (first | (with_reducible assumption) | (with_reducible exact Fr.refl _ _) | (with_reducible refine Fr.alloc ?_ _) | (with_reducible refine Fr.drew ?_) | (with_reducible refine Fr.drewN ?_ _) | (with_reducible refine Fr.setCellO ?_ ?_ _; (focus (first | (dsimp only; omega) | (simp; done) | (simp; omega)))) | (with_reducible refine Fr.trans0 ?_ (by assumption)) | (with_reducible refine Fr.trans0 ?_ (Fr.of0 (by assumption))))))); rintro e w6 ⟨cs6, rfl, hR6, hf6⟩; have hx6 := Bx.keepTo w6 hx5 (by (repeat (first | (with_reducible assumption) | (with_reducible exact Fr.refl _ _) | (with_reducible refine Fr.alloc ?_ _) | (with_reducible refine Fr.drew ?_) | (with_reducible refine Fr.drewN ?_ _) | (with_reducible refine Fr.setCellO ?_ ?_ _; (focus (first | (dsimp only; omega) | (simp; done) | (simp; omega)))) | (with_reducible refine Fr.trans0 ?_ (by assumption)) | (with_reducible refine Fr.trans0 ?_ (Fr.of0 (by assumption)))))); obtain ⟨z0, z1, z2, z3, z4, z5, z6, z7⟩ := hx6.c8; have hk6 := hx6.lt; have hw56 : Fr No w5 w6 := (by (repeat (first | (with_reducible assumption) | (with_reducible exact Fr.refl _ _) | (with_reducible refine Fr.alloc ?_ _) | (with_reducible refine Fr.drew ?_) | (with_reducible refine Fr.drewN ?_ _) | (with_reducible refine Fr.setCellO ?_ ?_ _; (focus (first | (dsimp only; omega) | (simp; done) | (simp; omega)))) | (with_reducible refine Fr.trans0 ?_ (by assumption)) | (with_reducible refine Fr.trans0 ?_ (Fr.of0 (by assumption)))))))
      | (go_at_call 8; refine (eqChg_go _ _ c _ _ _ (hR5.keep hw56 (fun _ h => h.elim)) hR6).mono ?_; rintro e w7 ⟨rfl, hf7⟩))
    all_goals go_wp2
    all_goals go_ret
    all_goals exact .mk rfl (by (repeat (first | (with_reducible assumption) | (with_reducible exact Fr.refl _ _) | (with_reducible refine Fr.alloc ?_ _) | (with_reducible refine Fr.drew ?_) | (with_reducible refine Fr.drewN ?_ _) | (with_reducible refine Fr.setCellO ?_ ?_ _; (focus (first | (dsimp only; omega) | (simp; done) | (simp; omega)))) | (with_reducible refine Fr.trans0 ?_ (by assumption)) | (with_reducible refine Fr.trans0 ?_ (Fr.of0 (by assumption))))))
end Go.Proofs.YtlcdppoelflamaaGreatDoor
