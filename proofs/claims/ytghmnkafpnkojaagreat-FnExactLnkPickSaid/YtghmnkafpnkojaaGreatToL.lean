/- The laws' own copies: new memory that reads as the same data. -/
import Derived.Test.YtghmnkafpnkojaaGreatSzL
import Derived.Test.YtghmnkafpnkojaaGreatTo2
namespace Go.Proofs.YtghmnkafpnkojaaGreat
open Go.RowKit

theorem info_Cls : (Tryz.prog.info? 78).map (fun i => (i.zero, i.size, i.bytes)) = some (some (.agg #[.string ⟨#[]⟩, .string ⟨#[]⟩, .slice none 0 0, .slice none 0 0]), 4, 80) := by kernel_rfl
set_option maxRecDepth 100000 in
set_option maxHeartbeats 2000000 in
theorem toClsS_go (X : Nat → Prop) (v : Value) (xs : List Cls) (w : World) (h : Sl X w 4 (ClsC X w) v xs) (hs : szL szCls xs ≤ 1048576) :
    Calls Tryz.prog 58 #[v] w (ToSPost 4 ClsC xs w) := by
  have hlen : xs.length ≤ 1048576 := by have := szL_len szCls xs; omega
  obtain ⟨A, cap, rfl, _, _⟩ := h.form
  have hmk := fun W => run_make_n 83 78 _ _ _ Tryz.underlying83 info_Cls xs.length (by omega) (by omega) W
  go_enter Tryz.func58, Tryz.ntmps58
  go_wp2
  have hF0 : Fill (w.alloc (.cells (madeCells #[.string ⟨#[]⟩, .string ⟨#[]⟩, .slice none 0 0, .slice none 0 0] (xs.length * 4)) 78)) w.heap.size 78 4 xs.length 0 (ClsC (fun b => b < w.heap.size + 1) (w.alloc (.cells (madeCells #[.string ⟨#[]⟩, .string ⟨#[]⟩, .slice none 0 0, .slice none 0 0] (xs.length * 4)) 78))) xs := Fill.start (Bx.new _ _ _) (size_madeCells _ _)
  clear hmk
  go_loopw [4] (fun i wr => ∃ k : Nat, k ≤ xs.length ∧ i = .int .i64 k ∧ Fill wr w.heap.size 78 4 xs.length k (ClsC (fun b => b < w.heap.size + 1) wr) xs ∧ Fr No w wr) (fun i _ => xs.length - (intOf i).toNat)
  case atStart => exact ⟨0, Nat.zero_le _, rfl, hF0, by exact frc⟩
  case round =>
    clear hF0
    obtain ⟨k, hk, rfl, hF, hf⟩ := hrel
    by_cases hlt : k < xs.length
    · obtain ⟨b, off, A_fields, c_fields, A_methods, c_methods, rfl, hX, c0, c1, c2, c3, z0, z1, h_fields, h_methods, _, _, _, _⟩ := (h.keep hf (fun _ h => h.elim) (fun _ _ _ h9 => h9.keep hf (fun _ h => h.elim))).cls hlt
      have H := toCls_go X xs[k] _ wr (show ClsC X wr [.string xs[k].name, .string xs[k].super, .slice A_fields xs[k].fields.length c_fields, .slice A_methods xs[k].methods.length c_methods] xs[k] from ⟨_, _, rfl, z0, z1, h_fields, h_methods⟩) (by have := szL_mem szCls xs k hlt; omega)
      clear h
      go_wp2_with fail
      refine H.mono ?_
      rintro e w1 ⟨cs1, rfl, ⟨u_fields, u_methods, rfl, y0, y1, g_fields, g_methods⟩, hf1⟩
      obtain ⟨B_fields, d_fields, rfl, _, _⟩ := g_fields.form
      obtain ⟨B_methods, d_methods, rfl, _, _⟩ := g_methods.form
      have hF1 := hF.keep hf1 (fun h => h) (fun _ _ _ h => h.keep hf1 (fun _ h => h.elim))
      have hgl : ∀ b, b < w.heap.size + 1 → b < wr.heap.size := fun b hb => by have := hF.lt; omega
      have hR1 : ClsC (fun b => b < w.heap.size + 1) w1 [.string xs[k].name, .string xs[k].super, .slice B_fields xs[k].fields.length d_fields, .slice B_methods xs[k].methods.length d_methods] xs[k] := (show ClsC (fun b => b < wr.heap.size) w1 [.string xs[k].name, .string xs[k].super, .slice B_fields xs[k].fields.length d_fields, .slice B_methods xs[k].methods.length d_methods] xs[k] from ⟨_, _, rfl, y0, y1, g_fields, g_methods⟩).weaken hgl
      obtain ⟨o0, ho0⟩ := hF1.cell? (o := k * 4) (by omega)
      obtain ⟨o1, ho1⟩ := hF1.cell? (o := k * 4 + 1) (by omega)
      obtain ⟨o2, ho2⟩ := hF1.cell? (o := k * 4 + 2) (by omega)
      obtain ⟨o3, ho3⟩ := hF1.cell? (o := k * 4 + 3) (by omega)
      have hfz := fun o => hF1.frozen o
      clear c0 c1 c2 c3 H hF
      have hF1 := Lib.hid hF1
      go_wp2
      go_roundw
      case rel => exact ⟨k + 1, by omega, by go_num, (hF1.out.step (cs := [.string xs[k].name, .string xs[k].super, .slice B_fields xs[k].fields.length d_fields, .slice B_methods xs[k].methods.length d_methods]) hlt hlt hR1 rfl).keep (Fr.refl No _) (fun h => h) (fun _ _ _ h => h.keep (Y := fun b => b < w.heap.size + 1) (by exact frx) (fun _ h => h)), by exact frc⟩
      case measure => simp [intOf]; omega
    · have he : k = xs.length := by omega
      subst he
      clear h
      have hF := Lib.hid hF
      go_wp2
      go_ret
      have hF := hF.out
      exact ⟨_, rfl, (hF.done (X := fun b => b < w.heap.size) (by omega) (by unfold maxLen; omega)).weaken (fun _ h => h) (fun _ _ _ h => h.weaken (fun b hb => Nat.lt_add_right 1 hb)), by exact frc⟩

set_option maxRecDepth 100000 in
set_option maxHeartbeats 2000000 in
theorem toAsk_go (x : Ask) (cs : List Value) (w : World) (h : AskC cs x) :
    Calls Tryz.prog 82 #[.agg cs.toArray] w (Gives (.agg cs.toArray) w) := by
  obtain ⟨rfl, z0⟩ := h
  go_enter Tryz.func82, Tryz.ntmps82
  go_wp2
  refine bodyPost_ret (v := .agg #[.string x.name, .int .i64 x.keeper]) (by simp [results, Tryz.results82, go_sem]) rfl ?_
  exact .mk rfl (by exact frc)

theorem info_Ask : (Tryz.prog.info? 123).map (fun i => (i.zero, i.size, i.bytes)) = some (some (.agg #[.string ⟨#[]⟩, .int .i64 0]), 2, 24) := by kernel_rfl
set_option maxRecDepth 100000 in
set_option maxHeartbeats 2000000 in
theorem toAskS_go (X : Nat → Prop) (v : Value) (xs : List Ask) (w : World) (h : Sl X w 2 AskC v xs) (hs : szL szAsk xs ≤ 1048576) :
    Calls Tryz.prog 59 #[v] w (ToSPost 2 (fun _ _ => AskC) xs w) := by
  have hlen : xs.length ≤ 1048576 := by have := szL_len szAsk xs; omega
  obtain ⟨A, cap, rfl, _, _⟩ := h.form
  have hmk := fun W => run_make_n 84 123 _ _ _ Tryz.underlying84 info_Ask xs.length (by omega) (by omega) W
  go_enter Tryz.func59, Tryz.ntmps59
  go_wp2
  have hF0 : Fill (w.alloc (.cells (madeCells #[.string ⟨#[]⟩, .int .i64 0] (xs.length * 2)) 123)) w.heap.size 123 2 xs.length 0 AskC xs := Fill.start (Bx.new _ _ _) (size_madeCells _ _)
  clear hmk
  go_loopw [4] (fun i wr => ∃ k : Nat, k ≤ xs.length ∧ i = .int .i64 k ∧ Fill wr w.heap.size 123 2 xs.length k AskC xs ∧ Fr No w wr) (fun i _ => xs.length - (intOf i).toNat)
  case atStart => exact ⟨0, Nat.zero_le _, rfl, hF0, by exact frc⟩
  case round =>
    clear hF0
    obtain ⟨k, hk, rfl, hF, hf⟩ := hrel
    by_cases hlt : k < xs.length
    · obtain ⟨b, off, rfl, hX, c0, c1, z0⟩ := (h.keep hf (fun _ h => h.elim) (fun _ _ _ h => h)).ask hlt
      have H := fun W => toAsk_go xs[k] _ W ⟨rfl, z0⟩
      clear h
      go_wp2_with fail
      refine (H _).mono ?_
      rintro e w1 ⟨rfl, hf1⟩
      have hF1 := hF.keep hf1 (fun h => h) (fun _ _ _ h => h)
      obtain ⟨o0, ho0⟩ := hF1.cell? (o := k * 2) (by omega)
      obtain ⟨o1, ho1⟩ := hF1.cell? (o := k * 2 + 1) (by omega)
      have hfz := fun o => hF1.frozen o
      clear c0 c1 H hF
      have hF1 := Lib.hid hF1
      go_wp2
      go_roundw
      case rel => exact ⟨k + 1, by omega, by go_num, hF1.out.step (cs := [.string xs[k].name, .int .i64 xs[k].keeper]) hlt hlt ⟨rfl, z0⟩ rfl, by exact frc⟩
      case measure => simp [intOf]; omega
    · have he : k = xs.length := by omega
      subst he
      clear h
      have hF := Lib.hid hF
      go_wp2
      go_ret
      have hF := hF.out
      exact ⟨_, rfl, hF.done (X := fun b => b < w.heap.size) (by omega) (by unfold maxLen; omega), by exact frc⟩

set_option maxRecDepth 100000 in
set_option maxHeartbeats 2000000 in
theorem toKpr_go (X : Nat → Prop) (x : Kpr) (cs : List Value) (w : World) (h : KprC X w cs x) (hs : szKpr x ≤ 1048576) :
    Calls Tryz.prog 40 #[.agg cs.toArray] w (ToPost KprC x w) := by
  obtain ⟨v_owns, v_asks, rfl, h_owns, h_asks⟩ := h
  unfold szKpr at hs
  have H_owns := fun W (h : Fr No w W) => toClsS_go X _ x.owns W (h_owns.keep h (fun _ h => h.elim) (fun _ _ _ h9 => h9.keep h (fun _ h => h.elim))) (by omega)
  have H_asks := fun W (h : Fr No w W) => toAskS_go X _ x.asks W (h_asks.keep h (fun _ h => h.elim) (fun _ _ _ h => h)) (by omega)
  obtain ⟨A_owns, c_owns, rfl, _, _⟩ := h_owns.form
  clear h_owns
  obtain ⟨A_asks, c_asks, rfl, _, _⟩ := h_asks.form
  clear h_asks
  clear hs
  go_enter Tryz.func40, Tryz.ntmps40
  go_wp2_with fail
  refine (H_owns _ ?_).mono ?_
  · exact frc
  rintro e w1 ⟨v1, rfl, s_owns, hf1⟩
  obtain ⟨B_owns, d_owns, rfl, _, _⟩ := s_owns.form
  have t_owns := s_owns.weaken (Y := fun b => b < w.heap.size + 3) (fun b (hb : b < w.heap.size + 3) => Nat.lt_of_lt_of_le hb (by first | (simp; done) | (simp; omega))) (fun _ _ _ h9 => h9.weaken (fun b (hb : b < w.heap.size + 3) => Nat.lt_of_lt_of_le hb (by first | (simp; done) | (simp; omega))))
  clear s_owns
  have hb1 : Bx w1 w.heap.size 73 #[.slice A_owns x.owns.length c_owns, .slice A_asks x.asks.length c_asks] := Bx.keepTo w1 (by exact bxc) hf1
  have hr1 : Bx w1 (w.heap.size + 1) 86 #[.slice none 0 0, .slice none 0 0] := Bx.keepTo w1 (by exact bxc) hf1
  have ho1 : Bx w1 (w.heap.size + 1 + 1) 86 #[.slice none 0 0, .slice none 0 0] := Bx.keepTo w1 (by exact bxc) hf1
  obtain ⟨a1_0, a1_1⟩ := hb1.c2
  obtain ⟨b1_0, b1_1⟩ := hr1.c2
  obtain ⟨c1_0, c1_1⟩ := ho1.c2
  have fr1 := fun j => hr1.frozen j
  have fo1 := fun j => ho1.frozen j
  go_wp2_with fail
  refine (H_asks _ ?_).mono ?_
  · exact frc
  rintro e w2 ⟨v2, rfl, s_asks, hf2⟩
  obtain ⟨B_asks, d_asks, rfl, _, _⟩ := s_asks.form
  have hlo := ho1.lt
  have t_asks := s_asks.weaken (Y := fun b => b < w.heap.size + 3) (fun b (hb : b < w.heap.size + 3) => Nat.lt_of_lt_of_le hb (by first | (simp; done) | (simp; omega))) (fun _ _ _ h => h)
  clear s_asks hlo
  have hb2 : Bx w2 w.heap.size 73 #[.slice A_owns x.owns.length c_owns, .slice A_asks x.asks.length c_asks] := Bx.keepTo w2 (by exact bxc) hf2
  have hr2 : Bx w2 (w.heap.size + 1) 86 #[.slice none 0 0, .slice none 0 0] := Bx.keepTo w2 (by exact bxc) hf2
  have ho2 : Bx w2 (w.heap.size + 1 + 1) 86 #[.slice B_owns x.owns.length d_owns, .slice none 0 0] := Bx.keepTo w2 (by exact bxc) hf2
  clear a1_0 a1_1 b1_0 b1_1 c1_0 c1_1 fr1 fo1 hb1 hr1 ho1
  obtain ⟨a2_0, a2_1⟩ := hb2.c2
  obtain ⟨b2_0, b2_1⟩ := hr2.c2
  obtain ⟨c2_0, c2_1⟩ := ho2.c2
  have fr2 := fun j => hr2.frozen j
  have fo2 := fun j => ho2.frozen j
  go_wp2
  refine bodyPost_ret (v := .agg #[.slice B_owns x.owns.length d_owns, .slice B_asks x.asks.length d_asks]) (by simp [results, Tryz.results40, go_sem, *]) rfl ?_
  refine ⟨_, rfl, ⟨_, _, rfl, ?_, ?_⟩, by exact frc⟩
  · exact (t_owns.keep (Y := fun b => b < w.heap.size + 3) (by exact frx) (fun _ h => h) (fun _ _ _ h9 => h9.keep (Y := fun b => b < w.heap.size + 3) (by exact frx) (fun _ h => h))).weaken (fun b hb => Nat.lt_add_right 3 hb) (fun _ _ _ h9 => h9.weaken (fun b hb => Nat.lt_add_right 3 hb))
  · exact (t_asks.keep (Y := fun b => b < w.heap.size + 3) (by exact frx) (fun _ h => h) (fun _ _ _ h => h)).weaken (fun b hb => Nat.lt_add_right 3 hb) (fun _ _ _ h => h)

theorem info_Kpr : (Tryz.prog.info? 86).map (fun i => (i.zero, i.size, i.bytes)) = some (some (.agg #[.slice none 0 0, .slice none 0 0]), 2, 48) := by kernel_rfl
set_option maxRecDepth 100000 in
set_option maxHeartbeats 2000000 in
theorem toKprS_go (X : Nat → Prop) (v : Value) (xs : List Kpr) (w : World) (h : Sl X w 2 (KprC X w) v xs) (hs : szL szKpr xs ≤ 1048576) :
    Calls Tryz.prog 24 #[v] w (ToSPost 2 KprC xs w) := by
  have hlen : xs.length ≤ 1048576 := by have := szL_len szKpr xs; omega
  obtain ⟨A, cap, rfl, _, _⟩ := h.form
  have hmk := fun W => run_make_n 34 86 _ _ _ Tryz.underlying34 info_Kpr xs.length (by omega) (by omega) W
  go_enter Tryz.func24, Tryz.ntmps24
  go_wp2
  have hF0 : Fill (w.alloc (.cells (madeCells #[.slice none 0 0, .slice none 0 0] (xs.length * 2)) 86)) w.heap.size 86 2 xs.length 0 (KprC (fun b => b < w.heap.size + 1) (w.alloc (.cells (madeCells #[.slice none 0 0, .slice none 0 0] (xs.length * 2)) 86))) xs := Fill.start (Bx.new _ _ _) (size_madeCells _ _)
  clear hmk
  go_loopw [4] (fun i wr => ∃ k : Nat, k ≤ xs.length ∧ i = .int .i64 k ∧ Fill wr w.heap.size 86 2 xs.length k (KprC (fun b => b < w.heap.size + 1) wr) xs ∧ Fr No w wr) (fun i _ => xs.length - (intOf i).toNat)
  case atStart => exact ⟨0, Nat.zero_le _, rfl, hF0, by exact frc⟩
  case round =>
    clear hF0
    obtain ⟨k, hk, rfl, hF, hf⟩ := hrel
    by_cases hlt : k < xs.length
    · obtain ⟨b, off, A_owns, c_owns, A_asks, c_asks, rfl, hX, c0, c1, h_owns, h_asks, _, _, _, _⟩ := (h.keep hf (fun _ h => h.elim) (fun _ _ _ h9 => h9.keep hf (fun _ h => h.elim))).kpr hlt
      have H := toKpr_go X xs[k] _ wr (show KprC X wr [.slice A_owns xs[k].owns.length c_owns, .slice A_asks xs[k].asks.length c_asks] xs[k] from ⟨_, _, rfl, h_owns, h_asks⟩) (by have := szL_mem szKpr xs k hlt; omega)
      clear h
      go_wp2_with fail
      refine H.mono ?_
      rintro e w1 ⟨cs1, rfl, ⟨u_owns, u_asks, rfl, g_owns, g_asks⟩, hf1⟩
      obtain ⟨B_owns, d_owns, rfl, _, _⟩ := g_owns.form
      obtain ⟨B_asks, d_asks, rfl, _, _⟩ := g_asks.form
      have hF1 := hF.keep hf1 (fun h => h) (fun _ _ _ h => h.keep hf1 (fun _ h => h.elim))
      have hgl : ∀ b, b < w.heap.size + 1 → b < wr.heap.size := fun b hb => by have := hF.lt; omega
      have hR1 : KprC (fun b => b < w.heap.size + 1) w1 [.slice B_owns xs[k].owns.length d_owns, .slice B_asks xs[k].asks.length d_asks] xs[k] := (show KprC (fun b => b < wr.heap.size) w1 [.slice B_owns xs[k].owns.length d_owns, .slice B_asks xs[k].asks.length d_asks] xs[k] from ⟨_, _, rfl, g_owns, g_asks⟩).weaken hgl
      obtain ⟨o0, ho0⟩ := hF1.cell? (o := k * 2) (by omega)
      obtain ⟨o1, ho1⟩ := hF1.cell? (o := k * 2 + 1) (by omega)
      have hfz := fun o => hF1.frozen o
      clear c0 c1 H hF
      have hF1 := Lib.hid hF1
      go_wp2
      go_roundw
      case rel => exact ⟨k + 1, by omega, by go_num, (hF1.out.step (cs := [.slice B_owns xs[k].owns.length d_owns, .slice B_asks xs[k].asks.length d_asks]) hlt hlt hR1 rfl).keep (Fr.refl No _) (fun h => h) (fun _ _ _ h => h.keep (Y := fun b => b < w.heap.size + 1) (by exact frx) (fun _ h => h)), by exact frc⟩
      case measure => simp [intOf]; omega
    · have he : k = xs.length := by omega
      subst he
      clear h
      have hF := Lib.hid hF
      go_wp2
      go_ret
      have hF := hF.out
      exact ⟨_, rfl, (hF.done (X := fun b => b < w.heap.size) (by omega) (by unfold maxLen; omega)).weaken (fun _ h => h) (fun _ _ _ h => h.weaken (fun b hb => Nat.lt_add_right 1 hb)), by exact frc⟩

set_option maxRecDepth 100000 in
set_option maxHeartbeats 2000000 in
theorem toPlan_go (X : Nat → Prop) (x : Plan) (cs : List Value) (w : World) (h : PlanC X w cs x) (hs : szPlan x ≤ 1048576) :
    Calls Tryz.prog 8 #[.agg cs.toArray] w (ToPost PlanC x w) := by
  obtain ⟨v_keepers, rfl, h_keepers⟩ := h
  unfold szPlan at hs
  have H_keepers := fun W (h : Fr No w W) => toKprS_go X _ x.keepers W (h_keepers.keep h (fun _ h => h.elim) (fun _ _ _ h9 => h9.keep h (fun _ h => h.elim))) (by omega)
  obtain ⟨A_keepers, c_keepers, rfl, _, _⟩ := h_keepers.form
  clear h_keepers
  clear hs
  go_enter Tryz.func8, Tryz.ntmps8
  go_wp2_with fail
  refine (H_keepers _ ?_).mono ?_
  · exact frc
  rintro e w1 ⟨v1, rfl, s_keepers, hf1⟩
  obtain ⟨B_keepers, d_keepers, rfl, _, _⟩ := s_keepers.form
  have t_keepers := s_keepers.weaken (Y := fun b => b < w.heap.size + 3) (fun b (hb : b < w.heap.size + 3) => Nat.lt_of_lt_of_le hb (by first | (simp; done) | (simp; omega))) (fun _ _ _ h9 => h9.weaken (fun b (hb : b < w.heap.size + 3) => Nat.lt_of_lt_of_le hb (by first | (simp; done) | (simp; omega))))
  clear s_keepers
  have hb1 : Bx w1 w.heap.size 24 #[.slice A_keepers x.keepers.length c_keepers] := Bx.keepTo w1 (by exact bxc) hf1
  have hr1 : Bx w1 (w.heap.size + 1) 36 #[.slice none 0 0] := Bx.keepTo w1 (by exact bxc) hf1
  have ho1 : Bx w1 (w.heap.size + 1 + 1) 36 #[.slice none 0 0] := Bx.keepTo w1 (by exact bxc) hf1
  have a1_0 := hb1.c1
  have b1_0 := hr1.c1
  have c1_0 := ho1.c1
  have fr1 := fun j => hr1.frozen j
  have fo1 := fun j => ho1.frozen j
  go_wp2
  refine bodyPost_ret (v := .agg #[.slice B_keepers x.keepers.length d_keepers]) (by simp [results, Tryz.results8, go_sem, *]) rfl ?_
  refine ⟨_, rfl, ⟨_, rfl, ?_⟩, by exact frc⟩
  · exact (t_keepers.keep (Y := fun b => b < w.heap.size + 3) (by exact frx) (fun _ h => h) (fun _ _ _ h9 => h9.keep (Y := fun b => b < w.heap.size + 3) (by exact frx) (fun _ h => h))).weaken (fun b hb => Nat.lt_add_right 3 hb) (fun _ _ _ h9 => h9.weaken (fun b hb => Nat.lt_add_right 3 hb))

set_option maxRecDepth 100000 in
set_option maxHeartbeats 2000000 in
theorem toRef_go (x : Ref) (cs : List Value) (w : World) (h : RefC cs x) :
    Calls Tryz.prog 9 #[.agg cs.toArray] w (Gives (.agg cs.toArray) w) := by
  obtain ⟨rfl, z0⟩ := h
  go_enter Tryz.func9, Tryz.ntmps9
  go_wp2
  refine bodyPost_ret (v := .agg #[.int .i64 x.keeper, .string x.name]) (by simp [results, Tryz.results9, go_sem]) rfl ?_
  exact .mk rfl (by exact frc)

end Go.Proofs.YtghmnkafpnkojaaGreat

