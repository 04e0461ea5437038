/- The law FnVmNil. -/
import Derived.Test.YtbalicnnlfennaaGreatCHPrk2
import Derived.Test.YtbalicnnlfennaaGreatCHPrk4
namespace Go.Proofs.YtbalicnnlfennaaGreat
open Go.RowKit

theorem loRef_ok (s : Str) (w : World) : Calls Tryz.prog 17 #[.string s] w (Gives (.agg #[.int .i64 2, .string s]) w) := by
 go_enter Tryz.func17, Tryz.ntmps17
 go_wp2
 refine bodyPost_ret (v := .agg #[.int .i64 2, .string s]) (by simp [results, Tryz.results17, go_sem]) rfl ?_
 exact ⟨rfl, frc⟩

set_option maxRecDepth 100000 in
set_option maxHeartbeats 4000000 in
theorem fnVmNil_ok (v : Value) (bs : List Int) (w : World) (h : Sl No w 1 ByC v bs) :
  Calls Tryz.prog 9 #[v] w (BoolFr true w) := by
 obtain ⟨A, c, rfl, _, hlen⟩ := h.form
 unfold maxLen at hlen
 by_cases hb : 1048576 < bs.length
 ·have hb' : (1048576 : Int) < (bs.length : Int) := by omega
  clear h
  go_enter Tryz.func9, Tryz.ntmps9
  go_wp2
  go_ret
  exact .mk rfl frc
 ·have hb' : ¬ (1048576 : Int) < (bs.length : Int) := by omega
  have HN1 := fun W (hW : Fr No w W) => loNum_ok (.slice A bs.length c) bs 1 W (h.keep hW (fun _ h => h) (fun _ _ _ h => h)) (.inl rfl)
  clear h
  go_enter Tryz.func9, Tryz.ntmps9
  go_wp2_with fail
  refine (HN1 _ frc).mono ?_
  rintro e w1 ⟨a, rfl, hf1, a1, a2⟩
  clear HN1
  have hna : numB a = true := by unfold numB; rw [decide_eq_true a1, decide_eq_true a2]; rfl
  have HD1 := n_do (n := a) (nilCode_lod get_at) field_right hna (okOps_of rfl)
  have HG1 := field_go hna
  have HR1 := field_run a
  have HD2 := n_do (n := a) (nilCode_lod castC_at) thing_right hna (okOps_of rfl)
  have HG2 := thing_go hna
  have HR2 := thing_run a
  clear a1 a2 hna
  go_wp2_with fail
  obtain ⟨w2, hw2⟩ : ∃ w2, w2 = ((w1.alloc (.cells (selfT.flatMap tagCells).toArray 24)).alloc (.cells #[.int .i64 5, .slice (some ⟨w1.heap.size, 0, none⟩) 3 3, .slice none 0 0] 34)) := ⟨_, rfl⟩
  have B1 : Bx w2 w1.heap.size 24 (selfT.flatMap tagCells).toArray := hw2 ▸ (Bx.new _ _ _).alloc _
  have B2 : Bx w2 (w1.heap.size + 1) 34 #[.int .i64 5, .slice (some ⟨w1.heap.size, 0, none⟩) 3 3, .slice none 0 0] := hw2 ▸ Bx.new_ (by simp)
  have hf2 : Fr No w1 w2 := hw2 ▸ frc
  have hsf : Sl No w2 2 TagC (.slice (some ⟨w1.heap.size, 0, none⟩) 3 3) selfT := Sl.tagBx B1 (by decide) (by decide)
  have hmp : Sl No w2 3 (MapC No w2) (.slice (some ⟨w1.heap.size + 1, 0, none⟩) 1 1) nilMaps := Sl.oneBx B2 rfl ⟨_, _, rfl, hsf, slNil⟩
  have hw2' : Fr No w w2 := hf1.trans0 hf2
  have HR := loRef_ok sCell w2
  rw [hw2] at HR
  refine HR.mono ?_
  rintro e w3 ⟨rfl, hf3⟩
  replace hf3 : Fr No w2 w3 := hw2 ▸ hf3
  have hw3 : Fr No w w3 := hw2'.trans0 hf3
  replace hmp := hmp.keep (R' := MapC No w3) hf3 (fun _ h => h) (fun _ _ _ h => h.keep hf3 (fun _ h => h))
  clear HR B1 B2 hsf hw2 hf2 hf3 hf1 hw2'
  go_wp2_with fail
  obtain ⟨w8, hw8⟩ : ∃ w8, w8 = (((((w3.alloc (.cells #[.string sNext, .int .i64 2, .string sCell] 58)).alloc (.cells #[.string sCell, .string ⟨#[]⟩, .slice (some ⟨w3.heap.size, 0, none⟩) 1 1, .slice none 0 0] 62)).alloc (.cells ((nilCode insG).flatMap insCells).toArray 27)).alloc (.cells ((nilCode (insC 15 sCell)).flatMap insCells).toArray 27)).alloc (.cells #[.string sCell, .string ⟨#[]⟩, .slice (some ⟨w3.heap.size, 0, none⟩) 1 1, .slice none 0 0] 62)) := ⟨_, rfl⟩
  have Bf : Bx w8 w3.heap.size 58 #[.string sNext, .int .i64 2, .string sCell] := hw8 ▸ ((((Bx.new _ _ _).alloc _).alloc _).alloc _).alloc _
  have Bc : Bx w8 (w3.heap.size + 1) 62 #[.string sCell, .string ⟨#[]⟩, .slice (some ⟨w3.heap.size, 0, none⟩) 1 1, .slice none 0 0] := hw8 ▸ (((Bx.new_ (by simp)).alloc _).alloc _).alloc _
  have B6 : Bx w8 (w3.heap.size + 1 + 1) 27 ((nilCode insG).flatMap insCells).toArray := hw8 ▸ ((Bx.new_ (by simp)).alloc _).alloc _
  have B7 : Bx w8 (w3.heap.size + 1 + 1 + 1) 27 ((nilCode (insC 15 sCell)).flatMap insCells).toArray := hw8 ▸ (Bx.new_ (by simp)).alloc _
  have B8 : Bx w8 (w3.heap.size + 1 + 1 + 1 + 1) 62 #[.string sCell, .string ⟨#[]⟩, .slice (some ⟨w3.heap.size, 0, none⟩) 1 1, .slice none 0 0] := hw8 ▸ Bx.new_ (by simp)
  have hf8 : Fr No w3 w8 := hw8 ▸ frc
  have hfl : Sl No w8 3 FldC (.slice (some ⟨w3.heap.size, 0, none⟩) 1 1) cellC.fields := Sl.oneBx Bf rfl ⟨rfl, by decide, by decide⟩
  have hmp8 := hmp.keep (R' := MapC No w8) hf8 (fun _ h => h) (fun _ _ _ h => h.keep hf8 (fun _ h => h))
  have hcg : ∀ x ∈ nilCode insG, x.name.size ≤ maxLen ∧ x.member.size ≤ maxLen := by decide
  have hct : ∀ x ∈ nilCode (insC 15 sCell), x.name.size ≤ maxLen ∧ x.member.size ≤ maxLen := by decide
  have hci : Sl No w8 4 InsC (.slice (some ⟨w3.heap.size + 1 + 1, 0, none⟩) 7 7) (nilCode insG) := Sl.insBx B6 hcg (by decide)
  have hti : Sl No w8 4 InsC (.slice (some ⟨w3.heap.size + 1 + 1 + 1, 0, none⟩) 7 7) (nilCode (insC 15 sCell)) := Sl.insBx B7 hct (by decide)
  have HM := loMain1_ok cellC (w3.heap.size + 1 + 1 + 1 + 1) (.slice (some ⟨w3.heap.size, 0, none⟩) 1 1) (.slice none 0 0) (nilCode insG) nilMaps (.slice (some ⟨w3.heap.size + 1 + 1, 0, none⟩) 7 7) (.slice (some ⟨w1.heap.size + 1, 0, none⟩) 1 1) w8 B8 (by decide) (by decide) hfl slNil hci hmp8
  have hw8' : Fr No w w8 := hw3.trans0 hf8
  rw [hw8] at HM
  refine HM.mono ?_
  clear HM
  rintro e w9 ⟨⟨pv, rfl, hpv⟩, hf9⟩
  replace hf9 : Fr No w8 w9 := hw8 ▸ hf9
  have hw9 : Fr No w w9 := hw8'.trans0 hf9
  delta fieldP at HG1 HR1
  delta thingP at HG2 HR2
  generalize mainP [cellC] (nilCode insG) nilMaps = P1 at *
  obtain ⟨Ap, cp, rfl, _, _⟩ := hpv.form
  clear hw8 hf8 hw3 hw8' B6 B7 B8 Bf hci hmp hcg hct
  go_wp2_with fail
  refine (loDo_ok HD1 HG1 _ _ (hpv.keep frc (fun _ h => h) (fun _ _ _ h => h.keep frc (fun _ h => h)))).mono ?_
  rintro e w10 ⟨⟨cs, rfl, hst⟩, hf10⟩
  rw [HR1] at hst
  clear HD1 HG1 HR1 hpv
  go_wp2_with fail
  refine (loGives_ok _ _ a cs w10 hst (gives_doneN a)).mono ?_
  rintro e w11 ⟨rfl, hf11⟩
  have hf811 : Fr No w8 w11 := (hf9.trans0 hf10).trans0 hf11
  have hw11 : Fr No w w11 := (hw9.trans0 hf10).trans0 hf11
  replace Bc := Bc.keep hf811
  obtain ⟨k0, k1, k2, k3⟩ := Bc.c4
  have kf := fun i => Bc.frozen i
  have kl := Bc.lt
  clear hst hf9 hf10 hf11 hw9
  go_wp2_with fail
  obtain ⟨w12, hw12⟩ : ∃ w12, w12 = (w11.alloc (.cells #[.string sCell, .string ⟨#[]⟩, .slice (some ⟨w3.heap.size, 0, none⟩) 1 1, .slice none 0 0] 62)) := ⟨_, rfl⟩
  have B12 : Bx w12 w11.heap.size 62 #[.string sCell, .string ⟨#[]⟩, .slice (some ⟨w3.heap.size, 0, none⟩) 1 1, .slice none 0 0] := hw12 ▸ bxc
  have hf12 : Fr No w11 w12 := hw12 ▸ frc
  have hfa := hf811.trans0 hf12
  have HM := loMain1_ok cellC w11.heap.size (.slice (some ⟨w3.heap.size, 0, none⟩) 1 1) (.slice none 0 0) (nilCode (insC 15 sCell)) nilMaps (.slice (some ⟨w3.heap.size + 1 + 1 + 1, 0, none⟩) 7 7) (.slice (some ⟨w1.heap.size + 1, 0, none⟩) 1 1) w12 B12 (by decide) (by decide) (hfl.keep hfa (fun _ h => h) (fun _ _ _ h => h)) slNil (hti.keep hfa (fun _ h => h) (fun _ _ _ h => h)) (hmp8.keep hfa (fun _ h => h) (fun _ _ _ h => h.keep hfa (fun _ h => h)))
  have hw12' : Fr No w w12 := hw11.trans0 hf12
  rw [hw12] at HM
  refine HM.mono ?_
  clear HM
  rintro e w13 ⟨⟨pv, rfl, hpv⟩, hf13⟩
  have hw13 : Fr No w w13 := hw12'.trans0 (hw12 ▸ hf13)
  generalize mainP [cellC] (nilCode (insC 15 sCell)) nilMaps = P2 at *
  obtain ⟨Aq, cq, rfl, _, _⟩ := hpv.form
  clear hw12 B12 hf12 hfa hf13 hfl hti hmp8 hw12' k0 k1 k2 k3 kf kl Bc hf811 hw11
  go_wp2_with fail
  refine (loDo_ok HD2 HG2 _ _ (hpv.keep frc (fun _ h => h) (fun _ _ _ h => h.keep frc (fun _ h => h)))).mono ?_
  rintro e w14 ⟨⟨cs2, rfl, hst⟩, hf14⟩
  rw [HR2] at hst
  clear HD2 HG2 HR2 hpv
  go_wp2_with fail
  refine (loGives_ok _ _ 1 cs2 w14 hst (gives_doneN 1)).mono ?_
  rintro e w15 ⟨rfl, hf15⟩
  go_wp2_with fail
  go_ret
  exact .mk rfl ((hw13.trans0 hf14).trans0 hf15)
end Go.Proofs.YtbalicnnlfennaaGreat
