/- The laws' own copies: new memory that reads as the same data. -/
import Derived.Test.YtghmnkafpnkojaaGreatDoorSzL
import Derived.Test.YtghmnkafpnkojaaGreatDoorTo
import Derived.Test.YtghmnkafpnkojaaGreatDoorEq
namespace Go.Proofs.YtghmnkafpnkojaaGreatDoor
open Go.RowKit

theorem info_Cls : (Tryz.prog.info? 114).map (fun i => (i.zero, i.size, i.bytes)) = some (some (.agg #[.string ⟨#[]⟩, .string ⟨#[]⟩, .slice none 0 0, .slice none 0 0]), 4, 80) := by kernel_rfl
set_option maxRecDepth 100000 in
set_option maxHeartbeats 2000000 in
theorem toClsS_go (X : Nat → Prop) (v : Value) (xs : List Cls) (w : World) (h : Sl X w 4 (ClsC X w) v xs) (hs : szL szCls xs ≤ 1048576) :
    Calls Tryz.prog 60 #[v] w (ToSPost 4 ClsC xs w) := by
  have hlen : xs.length ≤ 1048576 := by have := szL_len szCls xs; omega
  obtain ⟨A, cap, rfl, _, _⟩ := h.form
  have hmk := fun W => run_make_n 69 114 _ _ _ Tryz.underlying69 info_Cls xs.length (by omega) (by omega) W
  go_enter Tryz.func60, Tryz.ntmps60
  go_wp2
  have hF0 : Fill (w.alloc (.cells (madeCells #[.string ⟨#[]⟩, .string ⟨#[]⟩, .slice none 0 0, .slice none 0 0] (xs.length * 4)) 114)) w.heap.size 114 4 xs.length 0 (ClsC (fun b => b < w.heap.size + 1) (w.alloc (.cells (madeCells #[.string ⟨#[]⟩, .string ⟨#[]⟩, .slice none 0 0, .slice none 0 0] (xs.length * 4)) 114))) xs := Fill.start (Bx.new _ _ _) (size_madeCells _ _)
  clear hmk
  go_loopw [4] (fun i wr => ∃ k : Nat, k ≤ xs.length ∧ i = .int .i64 k ∧ Fill wr w.heap.size 114 4 xs.length k (ClsC (fun b => b < w.heap.size + 1) wr) xs ∧ Fr No w wr) (fun i _ => xs.length - (intOf i).toNat)
  case atStart => exact ⟨0, Nat.zero_le _, rfl, hF0, by exact frc⟩
  case round =>
    clear hF0
    obtain ⟨k, hk, rfl, hF, hf⟩ := hrel
    by_cases hlt : k < xs.length
    · obtain ⟨b, off, A_fields, c_fields, A_methods, c_methods, rfl, hX, c0, c1, c2, c3, z0, z1, h_fields, h_methods, _, _, _, _⟩ := (h.keep hf (fun _ h => h.elim) (fun _ _ _ h9 => h9.keep hf (fun _ h => h.elim))).cls hlt
      have H := toCls_go X xs[k] _ wr (show ClsC X wr [.string xs[k].name, .string xs[k].super, .slice A_fields xs[k].fields.length c_fields, .slice A_methods xs[k].methods.length c_methods] xs[k] from ⟨_, _, rfl, z0, z1, h_fields, h_methods⟩) (by have := szL_mem szCls xs k hlt; omega)
      clear h
      go_wp2_with fail
      refine H.mono ?_
      rintro e w1 ⟨cs1, rfl, ⟨u_fields, u_methods, rfl, y0, y1, g_fields, g_methods⟩, hf1⟩
      obtain ⟨B_fields, d_fields, rfl, _, _⟩ := g_fields.form
      obtain ⟨B_methods, d_methods, rfl, _, _⟩ := g_methods.form
      have hF1 := hF.keep hf1 (fun h => h) (fun _ _ _ h => h.keep hf1 (fun _ h => h.elim))
      have hgl : ∀ b, b < w.heap.size + 1 → b < wr.heap.size := fun b hb => by have := hF.lt; omega
      have hR1 : ClsC (fun b => b < w.heap.size + 1) w1 [.string xs[k].name, .string xs[k].super, .slice B_fields xs[k].fields.length d_fields, .slice B_methods xs[k].methods.length d_methods] xs[k] := (show ClsC (fun b => b < wr.heap.size) w1 [.string xs[k].name, .string xs[k].super, .slice B_fields xs[k].fields.length d_fields, .slice B_methods xs[k].methods.length d_methods] xs[k] from ⟨_, _, rfl, y0, y1, g_fields, g_methods⟩).weaken hgl
      obtain ⟨o0, ho0⟩ := hF1.cell? (o := k * 4) (by omega)
      obtain ⟨o1, ho1⟩ := hF1.cell? (o := k * 4 + 1) (by omega)
      obtain ⟨o2, ho2⟩ := hF1.cell? (o := k * 4 + 2) (by omega)
      obtain ⟨o3, ho3⟩ := hF1.cell? (o := k * 4 + 3) (by omega)
      have hfz := fun o => hF1.frozen o
      clear c0 c1 c2 c3 H hF
      have hF1 := Lib.hid hF1
      go_wp2
      go_roundw
      case rel => exact ⟨k + 1, by omega, by go_num, (hF1.out.step (cs := [.string xs[k].name, .string xs[k].super, .slice B_fields xs[k].fields.length d_fields, .slice B_methods xs[k].methods.length d_methods]) hlt hlt hR1 rfl).keep (Fr.refl No _) (fun h => h) (fun _ _ _ h => h.keep (Y := fun b => b < w.heap.size + 1) (by exact frx) (fun _ h => h)), by exact frc⟩
      case measure => simp [intOf]; omega
    · have he : k = xs.length := by omega
      subst he
      clear h
      have hF := Lib.hid hF
      go_wp2
      go_ret
      have hF := hF.out
      exact ⟨_, rfl, (hF.done (X := fun b => b < w.heap.size) (by omega) (by unfold maxLen; omega)).weaken (fun _ h => h) (fun _ _ _ h => h.weaken (fun b hb => Nat.lt_add_right 1 hb)), by exact frc⟩

set_option maxRecDepth 100000 in
set_option maxHeartbeats 2000000 in
theorem toAsk_go (x : Ask) (cs : List Value) (w : World) (h : AskC cs x) :
    Calls Tryz.prog 84 #[.agg cs.toArray] w (Gives (.agg cs.toArray) w) := by
  obtain ⟨rfl, z0⟩ := h
  go_enter Tryz.func84, Tryz.ntmps84
  go_wp2
  refine bodyPost_ret (v := .agg #[.string x.name, .int .i64 x.keeper]) (by simp [results, Tryz.results84, go_sem]) rfl ?_
  exact .mk rfl (by exact frc)

theorem info_Ask : (Tryz.prog.info? 122).map (fun i => (i.zero, i.size, i.bytes)) = some (some (.agg #[.string ⟨#[]⟩, .int .i64 0]), 2, 24) := by kernel_rfl
set_option maxRecDepth 100000 in
set_option maxHeartbeats 2000000 in
theorem toAskS_go (X : Nat → Prop) (v : Value) (xs : List Ask) (w : World) (h : Sl X w 2 AskC v xs) (hs : szL szAsk xs ≤ 1048576) :
    Calls Tryz.prog 61 #[v] w (ToSPost 2 (fun _ _ => AskC) xs w) := by
  have hlen : xs.length ≤ 1048576 := by have := szL_len szAsk xs; omega
  obtain ⟨A, cap, rfl, _, _⟩ := h.form
  have hmk := fun W => run_make_n 70 122 _ _ _ Tryz.underlying70 info_Ask xs.length (by omega) (by omega) W
  go_enter Tryz.func61, Tryz.ntmps61
  go_wp2
  have hF0 : Fill (w.alloc (.cells (madeCells #[.string ⟨#[]⟩, .int .i64 0] (xs.length * 2)) 122)) w.heap.size 122 2 xs.length 0 AskC xs := Fill.start (Bx.new _ _ _) (size_madeCells _ _)
  clear hmk
  go_loopw [4] (fun i wr => ∃ k : Nat, k ≤ xs.length ∧ i = .int .i64 k ∧ Fill wr w.heap.size 122 2 xs.length k AskC xs ∧ Fr No w wr) (fun i _ => xs.length - (intOf i).toNat)
  case atStart => exact ⟨0, Nat.zero_le _, rfl, hF0, by exact frc⟩
  case round =>
    clear hF0
    obtain ⟨k, hk, rfl, hF, hf⟩ := hrel
    by_cases hlt : k < xs.length
    · obtain ⟨b, off, rfl, hX, c0, c1, z0⟩ := (h.keep hf (fun _ h => h.elim) (fun _ _ _ h => h)).ask hlt
      have H := fun W => toAsk_go xs[k] _ W ⟨rfl, z0⟩
      clear h
      go_wp2_with fail
      refine (H _).mono ?_
      rintro e w1 ⟨rfl, hf1⟩
      have hF1 := hF.keep hf1 (fun h => h) (fun _ _ _ h => h)
      obtain ⟨o0, ho0⟩ := hF1.cell? (o := k * 2) (by omega)
      obtain ⟨o1, ho1⟩ := hF1.cell? (o := k * 2 + 1) (by omega)
      have hfz := fun o => hF1.frozen o
      clear c0 c1 H hF
      have hF1 := Lib.hid hF1
      go_wp2
      go_roundw
      case rel => exact ⟨k + 1, by omega, by go_num, hF1.out.step (cs := [.string xs[k].name, .int .i64 xs[k].keeper]) hlt hlt ⟨rfl, z0⟩ rfl, by exact frc⟩
      case measure => simp [intOf]; omega
    · have he : k = xs.length := by omega
      subst he
      clear h
      have hF := Lib.hid hF
      go_wp2
      go_ret
      have hF := hF.out
      exact ⟨_, rfl, hF.done (X := fun b => b < w.heap.size) (by omega) (by unfold maxLen; omega), by exact frc⟩

set_option maxRecDepth 100000 in
set_option maxHeartbeats 2000000 in
theorem toKpr_go (X : Nat → Prop) (x : Kpr) (cs : List Value) (w : World) (h : KprC X w cs x) (hs : szKpr x ≤ 1048576) :
    Calls Tryz.prog 35 #[.agg cs.toArray] w (ToPost KprC x w) := by
  obtain ⟨v_owns, v_asks, rfl, h_owns, h_asks⟩ := h
  unfold szKpr at hs
  have H_owns := fun W (h : Fr No w W) => toClsS_go X _ x.owns W (h_owns.keep h (fun _ h => h.elim) (fun _ _ _ h9 => h9.keep h (fun _ h => h.elim))) (by omega)
  have H_asks := fun W (h : Fr No w W) => toAskS_go X _ x.asks W (h_asks.keep h (fun _ h => h.elim) (fun _ _ _ h => h)) (by omega)
  obtain ⟨A_owns, c_owns, rfl, _, _⟩ := h_owns.form
  clear h_owns
  obtain ⟨A_asks, c_asks, rfl, _, _⟩ := h_asks.form
  clear h_asks
  clear hs
  go_enter Tryz.func35, Tryz.ntmps35
  go_wp2_with fail
  refine (H_owns _ ?_).mono ?_
  · exact frc
  rintro e w1 ⟨v1, rfl, s_owns, hf1⟩
  obtain ⟨B_owns, d_owns, rfl, _, _⟩ := s_owns.form
  have t_owns := s_owns.weaken (Y := fun b => b < w.heap.size + 3) (fun b (hb : b < w.heap.size + 3) => Nat.lt_of_lt_of_le hb (by first | (simp; done) | (simp; omega))) (fun _ _ _ h9 => h9.weaken (fun b (hb : b < w.heap.size + 3) => Nat.lt_of_lt_of_le hb (by first | (simp; done) | (simp; omega))))
  clear s_owns
  have hb1 : Bx w1 w.heap.size 67 #[.slice A_owns x.owns.length c_owns, .slice A_asks x.asks.length c_asks] := Bx.keepTo w1 (by exact bxc) hf1
  have hr1 : Bx w1 (w.heap.size + 1) 72 #[.slice none 0 0, .slice none 0 0] := Bx.keepTo w1 (by exact bxc) hf1
  have ho1 : Bx w1 (w.heap.size + 1 + 1) 72 #[.slice none 0 0, .slice none 0 0] := Bx.keepTo w1 (by exact bxc) hf1
  obtain ⟨a1_0, a1_1⟩ := hb1.c2
  obtain ⟨b1_0, b1_1⟩ := hr1.c2
  obtain ⟨c1_0, c1_1⟩ := ho1.c2
  have fr1 := fun j => hr1.frozen j
  have fo1 := fun j => ho1.frozen j
  go_wp2_with fail
  refine (H_asks _ ?_).mono ?_
  · exact frc
  rintro e w2 ⟨v2, rfl, s_asks, hf2⟩
  obtain ⟨B_asks, d_asks, rfl, _, _⟩ := s_asks.form
  have hlo := ho1.lt
  have t_asks := s_asks.weaken (Y := fun b => b < w.heap.size + 3) (fun b (hb : b < w.heap.size + 3) => Nat.lt_of_lt_of_le hb (by first | (simp; done) | (simp; omega))) (fun _ _ _ h => h)
  clear s_asks hlo
  have hb2 : Bx w2 w.heap.size 67 #[.slice A_owns x.owns.length c_owns, .slice A_asks x.asks.length c_asks] := Bx.keepTo w2 (by exact bxc) hf2
  have hr2 : Bx w2 (w.heap.size + 1) 72 #[.slice none 0 0, .slice none 0 0] := Bx.keepTo w2 (by exact bxc) hf2
  have ho2 : Bx w2 (w.heap.size + 1 + 1) 72 #[.slice B_owns x.owns.length d_owns, .slice none 0 0] := Bx.keepTo w2 (by exact bxc) hf2
  clear a1_0 a1_1 b1_0 b1_1 c1_0 c1_1 fr1 fo1 hb1 hr1 ho1
  obtain ⟨a2_0, a2_1⟩ := hb2.c2
  obtain ⟨b2_0, b2_1⟩ := hr2.c2
  obtain ⟨c2_0, c2_1⟩ := ho2.c2
  have fr2 := fun j => hr2.frozen j
  have fo2 := fun j => ho2.frozen j
  go_wp2
  refine bodyPost_ret (v := .agg #[.slice B_owns x.owns.length d_owns, .slice B_asks x.asks.length d_asks]) (by simp [results, Tryz.results35, go_sem, *]) rfl ?_
  refine ⟨_, rfl, ⟨_, _, rfl, ?_, ?_⟩, by exact frc⟩
  · exact (t_owns.keep (Y := fun b => b < w.heap.size + 3) (by exact frx) (fun _ h => h) (fun _ _ _ h9 => h9.keep (Y := fun b => b < w.heap.size + 3) (by exact frx) (fun _ h => h))).weaken (fun b hb => Nat.lt_add_right 3 hb) (fun _ _ _ h9 => h9.weaken (fun b hb => Nat.lt_add_right 3 hb))
  · exact (t_asks.keep (Y := fun b => b < w.heap.size + 3) (by exact frx) (fun _ h => h) (fun _ _ _ h => h)).weaken (fun b hb => Nat.lt_add_right 3 hb) (fun _ _ _ h => h)

theorem info_Kpr : (Tryz.prog.info? 72).map (fun i => (i.zero, i.size, i.bytes)) = some (some (.agg #[.slice none 0 0, .slice none 0 0]), 2, 48) := by kernel_rfl
set_option maxRecDepth 100000 in
set_option maxHeartbeats 2000000 in
theorem toKprS_go (X : Nat → Prop) (v : Value) (xs : List Kpr) (w : World) (h : Sl X w 2 (KprC X w) v xs) (hs : szL szKpr xs ≤ 1048576) :
    Calls Tryz.prog 19 #[v] w (ToSPost 2 KprC xs w) := by
  have hlen : xs.length ≤ 1048576 := by have := szL_len szKpr xs; omega
  obtain ⟨A, cap, rfl, _, _⟩ := h.form
  have hmk := fun W => run_make_n 32 72 _ _ _ Tryz.underlying32 info_Kpr xs.length (by omega) (by omega) W
  go_enter Tryz.func19, Tryz.ntmps19
  go_wp2
  have hF0 : Fill (w.alloc (.cells (madeCells #[.slice none 0 0, .slice none 0 0] (xs.length * 2)) 72)) w.heap.size 72 2 xs.length 0 (KprC (fun b => b < w.heap.size + 1) (w.alloc (.cells (madeCells #[.slice none 0 0, .slice none 0 0] (xs.length * 2)) 72))) xs := Fill.start (Bx.new _ _ _) (size_madeCells _ _)
  clear hmk
  go_loopw [4] (fun i wr => ∃ k : Nat, k ≤ xs.length ∧ i = .int .i64 k ∧ Fill wr w.heap.size 72 2 xs.length k (KprC (fun b => b < w.heap.size + 1) wr) xs ∧ Fr No w wr) (fun i _ => xs.length - (intOf i).toNat)
  case atStart => exact ⟨0, Nat.zero_le _, rfl, hF0, by exact frc⟩
  case round =>
    clear hF0
    obtain ⟨k, hk, rfl, hF, hf⟩ := hrel
    by_cases hlt : k < xs.length
    · obtain ⟨b, off, A_owns, c_owns, A_asks, c_asks, rfl, hX, c0, c1, h_owns, h_asks, _, _, _, _⟩ := (h.keep hf (fun _ h => h.elim) (fun _ _ _ h9 => h9.keep hf (fun _ h => h.elim))).kpr hlt
      have H := toKpr_go X xs[k] _ wr (show KprC X wr [.slice A_owns xs[k].owns.length c_owns, .slice A_asks xs[k].asks.length c_asks] xs[k] from ⟨_, _, rfl, h_owns, h_asks⟩) (by have := szL_mem szKpr xs k hlt; omega)
      clear h
      go_wp2_with fail
      refine H.mono ?_
      rintro e w1 ⟨cs1, rfl, ⟨u_owns, u_asks, rfl, g_owns, g_asks⟩, hf1⟩
      obtain ⟨B_owns, d_owns, rfl, _, _⟩ := g_owns.form
      obtain ⟨B_asks, d_asks, rfl, _, _⟩ := g_asks.form
      have hF1 := hF.keep hf1 (fun h => h) (fun _ _ _ h => h.keep hf1 (fun _ h => h.elim))
      have hgl : ∀ b, b < w.heap.size + 1 → b < wr.heap.size := fun b hb => by have := hF.lt; omega
      have hR1 : KprC (fun b => b < w.heap.size + 1) w1 [.slice B_owns xs[k].owns.length d_owns, .slice B_asks xs[k].asks.length d_asks] xs[k] := (show KprC (fun b => b < wr.heap.size) w1 [.slice B_owns xs[k].owns.length d_owns, .slice B_asks xs[k].asks.length d_asks] xs[k] from ⟨_, _, rfl, g_owns, g_asks⟩).weaken hgl
      obtain ⟨o0, ho0⟩ := hF1.cell? (o := k * 2) (by omega)
      obtain ⟨o1, ho1⟩ := hF1.cell? (o := k * 2 + 1) (by omega)
      have hfz := fun o => hF1.frozen o
      clear c0 c1 H hF
      have hF1 := Lib.hid hF1
      go_wp2
      go_roundw
      case rel => exact ⟨k + 1, by omega, by go_num, (hF1.out.step (cs := [.slice B_owns xs[k].owns.length d_owns, .slice B_asks xs[k].asks.length d_asks]) hlt hlt hR1 rfl).keep (Fr.refl No _) (fun h => h) (fun _ _ _ h => h.keep (Y := fun b => b < w.heap.size + 1) (by exact frx) (fun _ h => h)), by exact frc⟩
      case measure => simp [intOf]; omega
    · have he : k = xs.length := by omega
      subst he
      clear h
      have hF := Lib.hid hF
      go_wp2
      go_ret
      have hF := hF.out
      exact ⟨_, rfl, (hF.done (X := fun b => b < w.heap.size) (by omega) (by unfold maxLen; omega)).weaken (fun _ h => h) (fun _ _ _ h => h.weaken (fun b hb => Nat.lt_add_right 1 hb)), by exact frc⟩

set_option maxRecDepth 100000 in
set_option maxHeartbeats 2000000 in
theorem toPlan_go (X : Nat → Prop) (x : Plan) (cs : List Value) (w : World) (h : PlanC X w cs x) (hs : szPlan x ≤ 1048576) :
    Calls Tryz.prog 7 #[.agg cs.toArray] w (ToPost PlanC x w) := by
  obtain ⟨v_keepers, rfl, h_keepers⟩ := h
  unfold szPlan at hs
  have H_keepers := fun W (h : Fr No w W) => toKprS_go X _ x.keepers W (h_keepers.keep h (fun _ h => h.elim) (fun _ _ _ h9 => h9.keep h (fun _ h => h.elim))) (by omega)
  obtain ⟨A_keepers, c_keepers, rfl, _, _⟩ := h_keepers.form
  clear h_keepers
  clear hs
  go_enter Tryz.func7, Tryz.ntmps7
  go_wp2_with fail
  refine (H_keepers _ ?_).mono ?_
  · exact frc
  rintro e w1 ⟨v1, rfl, s_keepers, hf1⟩
  obtain ⟨B_keepers, d_keepers, rfl, _, _⟩ := s_keepers.form
  have t_keepers := s_keepers.weaken (Y := fun b => b < w.heap.size + 3) (fun b (hb : b < w.heap.size + 3) => Nat.lt_of_lt_of_le hb (by first | (simp; done) | (simp; omega))) (fun _ _ _ h9 => h9.weaken (fun b (hb : b < w.heap.size + 3) => Nat.lt_of_lt_of_le hb (by first | (simp; done) | (simp; omega))))
  clear s_keepers
  have hb1 : Bx w1 w.heap.size 24 #[.slice A_keepers x.keepers.length c_keepers] := Bx.keepTo w1 (by exact bxc) hf1
  have hr1 : Bx w1 (w.heap.size + 1) 34 #[.slice none 0 0] := Bx.keepTo w1 (by exact bxc) hf1
  have ho1 : Bx w1 (w.heap.size + 1 + 1) 34 #[.slice none 0 0] := Bx.keepTo w1 (by exact bxc) hf1
  have a1_0 := hb1.c1
  have b1_0 := hr1.c1
  have c1_0 := ho1.c1
  have fr1 := fun j => hr1.frozen j
  have fo1 := fun j => ho1.frozen j
  go_wp2
  refine bodyPost_ret (v := .agg #[.slice B_keepers x.keepers.length d_keepers]) (by simp [results, Tryz.results7, go_sem, *]) rfl ?_
  refine ⟨_, rfl, ⟨_, rfl, ?_⟩, by exact frc⟩
  · exact (t_keepers.keep (Y := fun b => b < w.heap.size + 3) (by exact frx) (fun _ h => h) (fun _ _ _ h9 => h9.keep (Y := fun b => b < w.heap.size + 3) (by exact frx) (fun _ h => h))).weaken (fun b hb => Nat.lt_add_right 3 hb) (fun _ _ _ h9 => h9.weaken (fun b hb => Nat.lt_add_right 3 hb))
end Go.Proofs.YtghmnkafpnkojaaGreatDoor

/- The laws' own comparisons: what reads as the same data is equal. -/
namespace Go.Proofs.YtghmnkafpnkojaaGreatDoor
open Go.RowKit

set_option maxRecDepth 100000 in
set_option maxHeartbeats 2000000 in
theorem eqClsS_go (X Y : Nat → Prop) (v v1 : Value) (xs : List Cls) (w : World) (h : Sl X w 4 (ClsC X w) v xs) (g : Sl Y w 4 (ClsC Y w) v1 xs) :
    Calls Tryz.prog 73 #[v, v1] w (BoolFr true w) := by
  obtain ⟨A, cap, rfl, _, hlen⟩ := h.form
  obtain ⟨B, cap1, rfl, _, _⟩ := g.form
  unfold maxLen at hlen
  go_enter Tryz.func73, Tryz.ntmps73
  go_wp2
  go_loopw [5, 4] (fun i r wr => ∃ k : Nat, k ≤ xs.length ∧ i = .int .i64 k ∧ r = .bool false ∧ Fr No w wr) (fun i _ _ => xs.length - (intOf i).toNat)
  case atStart => exact ⟨0, Nat.zero_le _, rfl, rfl, Fr.refl _ _⟩
  case round =>
    obtain ⟨k, hk, rfl, rfl, hf⟩ := hrel
    by_cases hlt : k < xs.length
    · obtain ⟨b, bf, A_fields, c_fields, A_methods, c_methods, rfl, _, c0, c1, c2, c3, z0, z1, hA_fields, hA_methods, _, _, _, _⟩ := (h.keep hf (fun _ h => h.elim) (fun _ _ _ h9 => h9.keep hf (fun _ h => h.elim))).cls hlt
      obtain ⟨a, af, B_fields, d_fields, B_methods, d_methods, rfl, _, f0, f1, f2, f3, y0, y1, hB_fields, hB_methods, _, _, _, _⟩ := (g.keep hf (fun _ h => h.elim) (fun _ _ _ h9 => h9.keep hf (fun _ h => h.elim))).cls hlt
      clear h g
      have H := fun W (h : Fr No wr W) => eqCls_go X Y xs[k] _ _ W ((show ClsC X wr [.string xs[k].name, .string xs[k].super, .slice A_fields xs[k].fields.length c_fields, .slice A_methods xs[k].methods.length c_methods] xs[k] from ⟨_, _, rfl, z0, z1, hA_fields, hA_methods⟩).keep h (fun _ h => h.elim)) ((show ClsC Y wr [.string xs[k].name, .string xs[k].super, .slice B_fields xs[k].fields.length d_fields, .slice B_methods xs[k].methods.length d_methods] xs[k] from ⟨_, _, rfl, y0, y1, hB_fields, hB_methods⟩).keep h (fun _ h => h.elim))
      generalize xs[k] = x at *
      have c0 := fun W (h : Fr No wr W) => h.keep0 c0
      have f0 := fun W (h : Fr No wr W) => h.keep0 f0
      have c1 := fun W (h : Fr No wr W) => h.keep0 c1
      have f1 := fun W (h : Fr No wr W) => h.keep0 f1
      have c2 := fun W (h : Fr No wr W) => h.keep0 c2
      have f2 := fun W (h : Fr No wr W) => h.keep0 f2
      have c3 := fun W (h : Fr No wr W) => h.keep0 c3
      have f3 := fun W (h : Fr No wr W) => h.keep0 f3
      go_wp2_with fail
      first
        | ((refine wp_region_fr (X := No) (by kernel_rfl) (by kernel_rfl) ?_); (repeat (first | (apply wq_pass; (focus (exact rfl)); simp only [Act.put, List.setIfInBounds_toArray, List.set_cons_zero, List.set_cons_succ]) | (apply wq_run; (focus (exact rfl)); (focus (intro W hW; go_simp; first | done | exact rfl | (go_at_call 96; exact (H W hW).mono (fun _ _ h => ⟨h.1, hW.trans0 h.2⟩)))); simp only [Act.put, List.setIfInBounds_toArray, List.set_cons_zero, List.set_cons_succ]))); refine wpQuiet_nil ?_)
        | ((refine wp_region_frn (X := No) ?_); (repeat (first | (apply wq_pass; (focus (exact rfl)); simp only [Act.put, List.setIfInBounds_toArray, List.set_cons_zero, List.set_cons_succ]) | (apply wq_run; (focus (exact rfl)); (focus (intro W hW; go_simp; first | done | exact rfl | (go_at_call 96; exact (H W hW).mono (fun _ _ h => ⟨h.1, hW.trans0 h.2⟩)))); simp only [Act.put, List.setIfInBounds_toArray, List.set_cons_zero, List.set_cons_succ]))); refine wpQuiet_nil ?_)
      intro w1 hf1
      clear c0 c1 c2 c3 f0 f1 f2 f3 H
      go_wp2
      go_roundw
      case rel => exact ⟨k + 1, by omega, by go_num, rfl, by exact frc⟩
      case measure => simp [intOf]; omega
    · clear h g
      go_wp2
      go_ret
      exact .mk rfl (by exact frc)

set_option maxRecDepth 100000 in
set_option maxHeartbeats 2000000 in
theorem eqAsk_go (x : Ask) (cs cs1 : List Value) (w : World) (h : AskC cs x) (h1 : AskC cs1 x) :
    Calls Tryz.prog 97 #[.agg cs.toArray, .agg cs1.toArray] w (BoolFr true w) := by
  obtain ⟨rfl, _⟩ := h
  obtain ⟨rfl, _⟩ := h1
  go_enter Tryz.func97, Tryz.ntmps97
  go_wp2
  go_ret
  exact .mk rfl (by exact frc)

set_option maxRecDepth 100000 in
set_option maxHeartbeats 2000000 in
theorem eqAskS_go (X Y : Nat → Prop) (v v1 : Value) (xs : List Ask) (w : World) (h : Sl X w 2 AskC v xs) (g : Sl Y w 2 AskC v1 xs) :
    Calls Tryz.prog 74 #[v, v1] w (BoolFr true w) := by
  obtain ⟨A, cap, rfl, _, hlen⟩ := h.form
  obtain ⟨B, cap1, rfl, _, _⟩ := g.form
  unfold maxLen at hlen
  go_enter Tryz.func74, Tryz.ntmps74
  go_wp2
  go_loopw [5, 4] (fun i r wr => ∃ k : Nat, k ≤ xs.length ∧ i = .int .i64 k ∧ r = .bool false ∧ Fr No w wr) (fun i _ _ => xs.length - (intOf i).toNat)
  case atStart => exact ⟨0, Nat.zero_le _, rfl, rfl, Fr.refl _ _⟩
  case round =>
    obtain ⟨k, hk, rfl, rfl, hf⟩ := hrel
    by_cases hlt : k < xs.length
    · obtain ⟨b, bf, rfl, _, c0, c1, z0⟩ := (h.keep hf (fun _ h => h.elim) (fun _ _ _ h => h)).ask hlt
      obtain ⟨a, af, rfl, _, f0, f1, y0⟩ := (g.keep hf (fun _ h => h.elim) (fun _ _ _ h => h)).ask hlt
      clear h g
      have H := fun W (_ : Fr No wr W) => eqAsk_go xs[k] _ _ W ⟨rfl, z0⟩ ⟨rfl, z0⟩
      generalize xs[k] = x at *
      have c0 := fun W (h : Fr No wr W) => h.keep0 c0
      have f0 := fun W (h : Fr No wr W) => h.keep0 f0
      have c1 := fun W (h : Fr No wr W) => h.keep0 c1
      have f1 := fun W (h : Fr No wr W) => h.keep0 f1
      go_wp2_with fail
      first
        | ((refine wp_region_fr (X := No) (by kernel_rfl) (by kernel_rfl) ?_); (repeat (first | (apply wq_pass; (focus (exact rfl)); simp only [Act.put, List.setIfInBounds_toArray, List.set_cons_zero, List.set_cons_succ]) | (apply wq_run; (focus (exact rfl)); (focus (intro W hW; go_simp; first | done | exact rfl | (go_at_call 97; exact (H W hW).mono (fun _ _ h => ⟨h.1, hW.trans0 h.2⟩)))); simp only [Act.put, List.setIfInBounds_toArray, List.set_cons_zero, List.set_cons_succ]))); refine wpQuiet_nil ?_)
        | ((refine wp_region_frn (X := No) ?_); (repeat (first | (apply wq_pass; (focus (exact rfl)); simp only [Act.put, List.setIfInBounds_toArray, List.set_cons_zero, List.set_cons_succ]) | (apply wq_run; (focus (exact rfl)); (focus (intro W hW; go_simp; first | done | exact rfl | (go_at_call 97; exact (H W hW).mono (fun _ _ h => ⟨h.1, hW.trans0 h.2⟩)))); simp only [Act.put, List.setIfInBounds_toArray, List.set_cons_zero, List.set_cons_succ]))); refine wpQuiet_nil ?_)
      intro w1 hf1
      clear c0 c1 f0 f1 H
      go_wp2
      go_roundw
      case rel => exact ⟨k + 1, by omega, by go_num, rfl, by exact frc⟩
      case measure => simp [intOf]; omega
    · clear h g
      go_wp2
      go_ret
      exact .mk rfl (by exact frc)

set_option maxRecDepth 100000 in
set_option maxHeartbeats 2000000 in
theorem eqKpr_go (X Y : Nat → Prop) (x : Kpr) (cs cs1 : List Value) (w : World) (h : KprC X w cs x) (h1 : KprC Y w cs1 x) :
    Calls Tryz.prog 42 #[.agg cs.toArray, .agg cs1.toArray] w (BoolFr true w) := by
  obtain ⟨v_owns, v_asks, rfl, h_owns, h_asks⟩ := h
  obtain ⟨u_owns, u_asks, rfl, g_owns, g_asks⟩ := h1
  have H_owns := fun W (h : Fr No w W) => eqClsS_go X Y _ _ x.owns W (h_owns.keep h (fun _ h => h.elim) (fun _ _ _ h9 => h9.keep h (fun _ h => h.elim))) (g_owns.keep h (fun _ h => h.elim) (fun _ _ _ h9 => h9.keep h (fun _ h => h.elim)))
  have H_asks := fun W (h : Fr No w W) => eqAskS_go X Y _ _ x.asks W (h_asks.keep h (fun _ h => h.elim) (fun _ _ _ h => h)) (g_asks.keep h (fun _ h => h.elim) (fun _ _ _ h => h))
  obtain ⟨A_owns, c_owns, rfl, _, _⟩ := h_owns.form
  obtain ⟨B_owns, d_owns, rfl, _, _⟩ := g_owns.form
  clear h_owns g_owns
  obtain ⟨A_asks, c_asks, rfl, _, _⟩ := h_asks.form
  obtain ⟨B_asks, d_asks, rfl, _, _⟩ := g_asks.form
  clear h_asks g_asks
  go_enter Tryz.func42, Tryz.ntmps42
  have ha0 : Bx ((w.alloc (.cells #[.slice A_owns x.owns.length c_owns, .slice A_asks x.asks.length c_asks] 72)).alloc (.cells #[.slice B_owns x.owns.length d_owns, .slice B_asks x.asks.length d_asks] 72)) w.heap.size 72 #[.slice A_owns x.owns.length c_owns, .slice A_asks x.asks.length c_asks] := (Bx.new_ rfl).alloc _
  have hb0 : Bx ((w.alloc (.cells #[.slice A_owns x.owns.length c_owns, .slice A_asks x.asks.length c_asks] 72)).alloc (.cells #[.slice B_owns x.owns.length d_owns, .slice B_asks x.asks.length d_asks] 72)) (w.heap.size + 1) 72 #[.slice B_owns x.owns.length d_owns, .slice B_asks x.asks.length d_asks] := Bx.new_ (by simp)
  go_wp2_with (first
    | (go_at_call_of 73 (Value.slice A_owns x.owns.length c_owns); refine (H_owns _ ?_).mono ?_; (focus (exact frc)); rintro e w1 ⟨rfl, hf1⟩; have ha1 := Bx.keepTo w1 ha0 (by exact frc); have hb1 := Bx.keepTo w1 hb0 (by exact frc); obtain ⟨e1_0, e1_1⟩ := ha1.c2; obtain ⟨f1_0, f1_1⟩ := hb1.c2; have hw1 : Fr No w w1 := (by exact frc))
    | (go_at_call_of 74 (Value.slice A_asks x.asks.length c_asks); refine (H_asks _ ?_).mono ?_; (focus (exact frc)); rintro e w2 ⟨rfl, hf2⟩; have ha2 := Bx.keepTo w2 ha1 (by exact frc); have hb2 := Bx.keepTo w2 hb1 (by exact frc); obtain ⟨e2_0, e2_1⟩ := ha2.c2; obtain ⟨f2_0, f2_1⟩ := hb2.c2; have hw2 : Fr No w w2 := (by exact frc)))
  go_ret
  exact .mk rfl (by exact frc)

set_option maxRecDepth 100000 in
set_option maxHeartbeats 2000000 in
theorem eqKprS_go (X Y : Nat → Prop) (v v1 : Value) (xs : List Kpr) (w : World) (h : Sl X w 2 (KprC X w) v xs) (g : Sl Y w 2 (KprC Y w) v1 xs) :
    Calls Tryz.prog 24 #[v, v1] w (BoolFr true w) := by
  obtain ⟨A, cap, rfl, _, hlen⟩ := h.form
  obtain ⟨B, cap1, rfl, _, _⟩ := g.form
  unfold maxLen at hlen
  go_enter Tryz.func24, Tryz.ntmps24
  go_wp2
  go_loopw [5, 4] (fun i r wr => ∃ k : Nat, k ≤ xs.length ∧ i = .int .i64 k ∧ r = .bool false ∧ Fr No w wr) (fun i _ _ => xs.length - (intOf i).toNat)
  case atStart => exact ⟨0, Nat.zero_le _, rfl, rfl, Fr.refl _ _⟩
  case round =>
    obtain ⟨k, hk, rfl, rfl, hf⟩ := hrel
    by_cases hlt : k < xs.length
    · obtain ⟨b, bf, A_owns, c_owns, A_asks, c_asks, rfl, _, c0, c1, hA_owns, hA_asks, _, _, _, _⟩ := (h.keep hf (fun _ h => h.elim) (fun _ _ _ h9 => h9.keep hf (fun _ h => h.elim))).kpr hlt
      obtain ⟨a, af, B_owns, d_owns, B_asks, d_asks, rfl, _, f0, f1, hB_owns, hB_asks, _, _, _, _⟩ := (g.keep hf (fun _ h => h.elim) (fun _ _ _ h9 => h9.keep hf (fun _ h => h.elim))).kpr hlt
      clear h g
      have H := fun W (h : Fr No wr W) => eqKpr_go X Y xs[k] _ _ W ((show KprC X wr [.slice A_owns xs[k].owns.length c_owns, .slice A_asks xs[k].asks.length c_asks] xs[k] from ⟨_, _, rfl, hA_owns, hA_asks⟩).keep h (fun _ h => h.elim)) ((show KprC Y wr [.slice B_owns xs[k].owns.length d_owns, .slice B_asks xs[k].asks.length d_asks] xs[k] from ⟨_, _, rfl, hB_owns, hB_asks⟩).keep h (fun _ h => h.elim))
      generalize xs[k] = x at *
      have c0 := fun W (h : Fr No wr W) => h.keep0 c0
      have f0 := fun W (h : Fr No wr W) => h.keep0 f0
      have c1 := fun W (h : Fr No wr W) => h.keep0 c1
      have f1 := fun W (h : Fr No wr W) => h.keep0 f1
      go_wp2_with fail
      first
        | ((refine wp_region_fr (X := No) (by kernel_rfl) (by kernel_rfl) ?_); (repeat (first | (apply wq_pass; (focus (exact rfl)); simp only [Act.put, List.setIfInBounds_toArray, List.set_cons_zero, List.set_cons_succ]) | (apply wq_run; (focus (exact rfl)); (focus (intro W hW; go_simp; first | done | exact rfl | (go_at_call 42; exact (H W hW).mono (fun _ _ h => ⟨h.1, hW.trans0 h.2⟩)))); simp only [Act.put, List.setIfInBounds_toArray, List.set_cons_zero, List.set_cons_succ]))); refine wpQuiet_nil ?_)
        | ((refine wp_region_frn (X := No) ?_); (repeat (first | (apply wq_pass; (focus (exact rfl)); simp only [Act.put, List.setIfInBounds_toArray, List.set_cons_zero, List.set_cons_succ]) | (apply wq_run; (focus (exact rfl)); (focus (intro W hW; go_simp; first | done | exact rfl | (go_at_call 42; exact (H W hW).mono (fun _ _ h => ⟨h.1, hW.trans0 h.2⟩)))); simp only [Act.put, List.setIfInBounds_toArray, List.set_cons_zero, List.set_cons_succ]))); refine wpQuiet_nil ?_)
      intro w1 hf1
      clear c0 c1 f0 f1 H
      go_wp2
      go_roundw
      case rel => exact ⟨k + 1, by omega, by go_num, rfl, by exact frc⟩
      case measure => simp [intOf]; omega
    · clear h g
      go_wp2
      go_ret
      exact .mk rfl (by exact frc)

set_option maxRecDepth 100000 in
set_option maxHeartbeats 2000000 in
theorem eqPlan_go (X Y : Nat → Prop) (x : Plan) (cs cs1 : List Value) (w : World) (h : PlanC X w cs x) (h1 : PlanC Y w cs1 x) :
    Calls Tryz.prog 10 #[.agg cs.toArray, .agg cs1.toArray] w (BoolFr true w) := by
  obtain ⟨v_keepers, rfl, h_keepers⟩ := h
  obtain ⟨u_keepers, rfl, g_keepers⟩ := h1
  have H_keepers := fun W (h : Fr No w W) => eqKprS_go X Y _ _ x.keepers W (h_keepers.keep h (fun _ h => h.elim) (fun _ _ _ h9 => h9.keep h (fun _ h => h.elim))) (g_keepers.keep h (fun _ h => h.elim) (fun _ _ _ h9 => h9.keep h (fun _ h => h.elim)))
  obtain ⟨A_keepers, c_keepers, rfl, _, _⟩ := h_keepers.form
  obtain ⟨B_keepers, d_keepers, rfl, _, _⟩ := g_keepers.form
  clear h_keepers g_keepers
  go_enter Tryz.func10, Tryz.ntmps10
  have ha0 : Bx ((w.alloc (.cells #[.slice A_keepers x.keepers.length c_keepers] 34)).alloc (.cells #[.slice B_keepers x.keepers.length d_keepers] 34)) w.heap.size 34 #[.slice A_keepers x.keepers.length c_keepers] := (Bx.new_ rfl).alloc _
  have hb0 : Bx ((w.alloc (.cells #[.slice A_keepers x.keepers.length c_keepers] 34)).alloc (.cells #[.slice B_keepers x.keepers.length d_keepers] 34)) (w.heap.size + 1) 34 #[.slice B_keepers x.keepers.length d_keepers] := Bx.new_ (by simp)
  go_wp2_with (first
    | (go_at_call_of 24 (Value.slice A_keepers x.keepers.length c_keepers); refine (H_keepers _ ?_).mono ?_; (focus (exact frc)); rintro e w1 ⟨rfl, hf1⟩; have ha1 := Bx.keepTo w1 ha0 (by exact frc); have hb1 := Bx.keepTo w1 hb0 (by exact frc); have e1_0 := ha1.c1; have f1_0 := hb1.c1; have hw1 : Fr No w w1 := (by exact frc)))
  go_ret
  exact .mk rfl (by exact frc)

set_option maxRecDepth 100000 in
set_option maxHeartbeats 2000000 in
theorem eqRef_go (x : Ref) (cs cs1 : List Value) (w : World) (h : RefC cs x) (h1 : RefC cs1 x) :
    Calls Tryz.prog 23 #[.agg cs.toArray, .agg cs1.toArray] w (BoolFr true w) := by
  obtain ⟨rfl, _⟩ := h
  obtain ⟨rfl, _⟩ := h1
  go_enter Tryz.func23, Tryz.ntmps23
  go_wp2
  go_ret
  exact .mk rfl (by exact frc)

end Go.Proofs.YtghmnkafpnkojaaGreatDoor
