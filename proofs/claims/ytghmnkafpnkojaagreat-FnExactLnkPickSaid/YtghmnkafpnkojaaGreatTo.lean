/- The laws' own copies: new memory that reads as the same data. -/
import Derived.Test.YtghmnkafpnkojaaGreatSz
namespace Go.Proofs.YtghmnkafpnkojaaGreat
open Go.RowKit

set_option maxRecDepth 100000 in
set_option maxHeartbeats 2000000 in
theorem toKnd_go (x : Knd) (cs : List Value) (w : World) (h : KndC cs x) :
    Calls Tryz.prog 129 #[.agg cs.toArray] w (Gives (.agg cs.toArray) w) := by
  obtain ⟨rfl, z0⟩ := h
  go_enter Tryz.func129, Tryz.ntmps129
  go_wp2
  refine bodyPost_ret (v := .agg #[.int .i64 x.kind, .string x.name]) (by simp [results, Tryz.results129, go_sem]) rfl ?_
  exact .mk rfl (by exact frc)

theorem info_Knd : (Tryz.prog.info? 64).map (fun i => (i.zero, i.size, i.bytes)) = some (some (.agg #[.int .i64 0, .string ⟨#[]⟩]), 2, 24) := by kernel_rfl
set_option maxRecDepth 100000 in
set_option maxHeartbeats 2000000 in
theorem toKndS_go (X : Nat → Prop) (v : Value) (xs : List Knd) (w : World) (h : Sl X w 2 KndC v xs) (hs : szL szKnd xs ≤ 1048576) :
    Calls Tryz.prog 130 #[v] w (ToSPost 2 (fun _ _ => KndC) xs w) := by
  have hlen : xs.length ≤ 1048576 := by have := szL_len szKnd xs; omega
  obtain ⟨A, cap, rfl, _, _⟩ := h.form
  have hmk := fun W => run_make_n 113 64 _ _ _ Tryz.underlying113 info_Knd xs.length (by omega) (by omega) W
  go_enter Tryz.func130, Tryz.ntmps130
  go_wp2
  have hF0 : Fill (w.alloc (.cells (madeCells #[.int .i64 0, .string ⟨#[]⟩] (xs.length * 2)) 64)) w.heap.size 64 2 xs.length 0 KndC xs := Fill.start (Bx.new _ _ _) (size_madeCells _ _)
  clear hmk
  go_loopw [4] (fun i wr => ∃ k : Nat, k ≤ xs.length ∧ i = .int .i64 k ∧ Fill wr w.heap.size 64 2 xs.length k KndC xs ∧ Fr No w wr) (fun i _ => xs.length - (intOf i).toNat)
  case atStart => exact ⟨0, Nat.zero_le _, rfl, hF0, by exact frc⟩
  case round =>
    clear hF0
    obtain ⟨k, hk, rfl, hF, hf⟩ := hrel
    by_cases hlt : k < xs.length
    · obtain ⟨b, off, rfl, hX, c0, c1, z0⟩ := (h.keep hf (fun _ h => h.elim) (fun _ _ _ h => h)).knd hlt
      have H := fun W => toKnd_go xs[k] _ W ⟨rfl, z0⟩
      clear h
      go_wp2_with fail
      refine (H _).mono ?_
      rintro e w1 ⟨rfl, hf1⟩
      have hF1 := hF.keep hf1 (fun h => h) (fun _ _ _ h => h)
      obtain ⟨o0, ho0⟩ := hF1.cell? (o := k * 2) (by omega)
      obtain ⟨o1, ho1⟩ := hF1.cell? (o := k * 2 + 1) (by omega)
      have hfz := fun o => hF1.frozen o
      clear c0 c1 H hF
      have hF1 := Lib.hid hF1
      go_wp2
      go_roundw
      case rel => exact ⟨k + 1, by omega, by go_num, hF1.out.step (cs := [.int .i64 xs[k].kind, .string xs[k].name]) hlt hlt ⟨rfl, z0⟩ rfl, by exact frc⟩
      case measure => simp [intOf]; omega
    · have he : k = xs.length := by omega
      subst he
      clear h
      have hF := Lib.hid hF
      go_wp2
      go_ret
      have hF := hF.out
      exact ⟨_, rfl, hF.done (X := fun b => b < w.heap.size) (by omega) (by unfold maxLen; omega), by exact frc⟩

set_option maxRecDepth 100000 in
set_option maxHeartbeats 2000000 in
theorem toTag_go (x : Tag) (cs : List Value) (w : World) (h : TagC cs x) :
    Calls Tryz.prog 156 #[.agg cs.toArray] w (Gives (.agg cs.toArray) w) := by
  obtain ⟨rfl, z0⟩ := h
  go_enter Tryz.func156, Tryz.ntmps156
  go_wp2
  refine bodyPost_ret (v := .agg #[.int .i64 x.kind, .string x.name]) (by simp [results, Tryz.results156, go_sem]) rfl ?_
  exact .mk rfl (by exact frc)

theorem info_Tag : (Tryz.prog.info? 205).map (fun i => (i.zero, i.size, i.bytes)) = some (some (.agg #[.int .i64 0, .string ⟨#[]⟩]), 2, 24) := by kernel_rfl
set_option maxRecDepth 100000 in
set_option maxHeartbeats 2000000 in
theorem toTagS_go (X : Nat → Prop) (v : Value) (xs : List Tag) (w : World) (h : Sl X w 2 TagC v xs) (hs : szL szTag xs ≤ 1048576) :
    Calls Tryz.prog 152 #[v] w (ToSPost 2 (fun _ _ => TagC) xs w) := by
  have hlen : xs.length ≤ 1048576 := by have := szL_len szTag xs; omega
  obtain ⟨A, cap, rfl, _, _⟩ := h.form
  have hmk := fun W => run_make_n 179 205 _ _ _ Tryz.underlying179 info_Tag xs.length (by omega) (by omega) W
  go_enter Tryz.func152, Tryz.ntmps152
  go_wp2
  have hF0 : Fill (w.alloc (.cells (madeCells #[.int .i64 0, .string ⟨#[]⟩] (xs.length * 2)) 205)) w.heap.size 205 2 xs.length 0 TagC xs := Fill.start (Bx.new _ _ _) (size_madeCells _ _)
  clear hmk
  go_loopw [4] (fun i wr => ∃ k : Nat, k ≤ xs.length ∧ i = .int .i64 k ∧ Fill wr w.heap.size 205 2 xs.length k TagC xs ∧ Fr No w wr) (fun i _ => xs.length - (intOf i).toNat)
  case atStart => exact ⟨0, Nat.zero_le _, rfl, hF0, by exact frc⟩
  case round =>
    clear hF0
    obtain ⟨k, hk, rfl, hF, hf⟩ := hrel
    by_cases hlt : k < xs.length
    · obtain ⟨b, off, rfl, hX, c0, c1, z0⟩ := (h.keep hf (fun _ h => h.elim) (fun _ _ _ h => h)).tag hlt
      have H := fun W => toTag_go xs[k] _ W ⟨rfl, z0⟩
      clear h
      go_wp2_with fail
      refine (H _).mono ?_
      rintro e w1 ⟨rfl, hf1⟩
      have hF1 := hF.keep hf1 (fun h => h) (fun _ _ _ h => h)
      obtain ⟨o0, ho0⟩ := hF1.cell? (o := k * 2) (by omega)
      obtain ⟨o1, ho1⟩ := hF1.cell? (o := k * 2 + 1) (by omega)
      have hfz := fun o => hF1.frozen o
      clear c0 c1 H hF
      have hF1 := Lib.hid hF1
      go_wp2
      go_roundw
      case rel => exact ⟨k + 1, by omega, by go_num, hF1.out.step (cs := [.int .i64 xs[k].kind, .string xs[k].name]) hlt hlt ⟨rfl, z0⟩ rfl, by exact frc⟩
      case measure => simp [intOf]; omega
    · have he : k = xs.length := by omega
      subst he
      clear h
      have hF := Lib.hid hF
      go_wp2
      go_ret
      have hF := hF.out
      exact ⟨_, rfl, hF.done (X := fun b => b < w.heap.size) (by omega) (by unfold maxLen; omega), by exact frc⟩

set_option maxRecDepth 100000 in
set_option maxHeartbeats 2000000 in
theorem toIns_go (x : Ins) (cs : List Value) (w : World) (h : InsC cs x) :
    Calls Tryz.prog 144 #[.agg cs.toArray] w (Gives (.agg cs.toArray) w) := by
  obtain ⟨rfl, z0, z1⟩ := h
  go_enter Tryz.func144, Tryz.ntmps144
  go_wp2
  refine bodyPost_ret (v := .agg #[.int .i64 x.op, .int .i64 x.a, .string x.name, .string x.member]) (by simp [results, Tryz.results144, go_sem]) rfl ?_
  exact .mk rfl (by exact frc)

theorem info_Ins : (Tryz.prog.info? 178).map (fun i => (i.zero, i.size, i.bytes)) = some (some (.agg #[.int .i64 0, .int .i64 0, .string ⟨#[]⟩, .string ⟨#[]⟩]), 4, 48) := by kernel_rfl
set_option maxRecDepth 100000 in
set_option maxHeartbeats 2000000 in
theorem toInsS_go (X : Nat → Prop) (v : Value) (xs : List Ins) (w : World) (h : Sl X w 4 InsC v xs) (hs : szL szIns xs ≤ 1048576) :
    Calls Tryz.prog 131 #[v] w (ToSPost 4 (fun _ _ => InsC) xs w) := by
  have hlen : xs.length ≤ 1048576 := by have := szL_len szIns xs; omega
  obtain ⟨A, cap, rfl, _, _⟩ := h.form
  have hmk := fun W => run_make_n 114 178 _ _ _ Tryz.underlying114 info_Ins xs.length (by omega) (by omega) W
  go_enter Tryz.func131, Tryz.ntmps131
  go_wp2
  have hF0 : Fill (w.alloc (.cells (madeCells #[.int .i64 0, .int .i64 0, .string ⟨#[]⟩, .string ⟨#[]⟩] (xs.length * 4)) 178)) w.heap.size 178 4 xs.length 0 InsC xs := Fill.start (Bx.new _ _ _) (size_madeCells _ _)
  clear hmk
  go_loopw [4] (fun i wr => ∃ k : Nat, k ≤ xs.length ∧ i = .int .i64 k ∧ Fill wr w.heap.size 178 4 xs.length k InsC xs ∧ Fr No w wr) (fun i _ => xs.length - (intOf i).toNat)
  case atStart => exact ⟨0, Nat.zero_le _, rfl, hF0, by exact frc⟩
  case round =>
    clear hF0
    obtain ⟨k, hk, rfl, hF, hf⟩ := hrel
    by_cases hlt : k < xs.length
    · obtain ⟨b, off, rfl, hX, c0, c1, c2, c3, z0, z1⟩ := (h.keep hf (fun _ h => h.elim) (fun _ _ _ h => h)).ins hlt
      have H := fun W => toIns_go xs[k] _ W ⟨rfl, z0, z1⟩
      clear h
      go_wp2_with fail
      refine (H _).mono ?_
      rintro e w1 ⟨rfl, hf1⟩
      have hF1 := hF.keep hf1 (fun h => h) (fun _ _ _ h => h)
      obtain ⟨o0, ho0⟩ := hF1.cell? (o := k * 4) (by omega)
      obtain ⟨o1, ho1⟩ := hF1.cell? (o := k * 4 + 1) (by omega)
      obtain ⟨o2, ho2⟩ := hF1.cell? (o := k * 4 + 2) (by omega)
      obtain ⟨o3, ho3⟩ := hF1.cell? (o := k * 4 + 3) (by omega)
      have hfz := fun o => hF1.frozen o
      clear c0 c1 c2 c3 H hF
      have hF1 := Lib.hid hF1
      go_wp2
      go_roundw
      case rel => exact ⟨k + 1, by omega, by go_num, hF1.out.step (cs := [.int .i64 xs[k].op, .int .i64 xs[k].a, .string xs[k].name, .string xs[k].member]) hlt hlt ⟨rfl, z0, z1⟩ rfl, by exact frc⟩
      case measure => simp [intOf]; omega
    · have he : k = xs.length := by omega
      subst he
      clear h
      have hF := Lib.hid hF
      go_wp2
      go_ret
      have hF := hF.out
      exact ⟨_, rfl, hF.done (X := fun b => b < w.heap.size) (by omega) (by unfold maxLen; omega), by exact frc⟩

set_option maxRecDepth 100000 in
set_option maxHeartbeats 2000000 in
theorem toFld_go (x : Fld) (cs : List Value) (w : World) (h : FldC cs x) :
    Calls Tryz.prog 114 #[.agg cs.toArray] w (Gives (.agg cs.toArray) w) := by
  obtain ⟨rfl, z0, z1⟩ := h
  have H_kind := fun W (_ : Fr No w W) => toKnd_go x.kind _ W ⟨rfl, (by assumption)⟩
  go_enter Tryz.func114, Tryz.ntmps114
  go_wp2_with fail
  refine (H_kind _ ?_).mono ?_
  · exact frc
  rintro e w1 ⟨rfl, hf1⟩
  have hb1 : Bx w1 w.heap.size 186 #[.string x.name, .int .i64 x.kind.kind, .string x.kind.name] := Bx.keepTo w1 (by exact bxc) hf1
  have hr1 : Bx w1 (w.heap.size + 1) 98 #[.string ⟨#[]⟩, .int .i64 0, .string ⟨#[]⟩] := Bx.keepTo w1 (by exact bxc) hf1
  have ho1 : Bx w1 (w.heap.size + 1 + 1) 98 #[.string x.name, .int .i64 0, .string ⟨#[]⟩] := Bx.keepTo w1 (by exact bxc) hf1
  obtain ⟨a1_0, a1_1, a1_2⟩ := hb1.c3
  obtain ⟨b1_0, b1_1, b1_2⟩ := hr1.c3
  obtain ⟨c1_0, c1_1, c1_2⟩ := ho1.c3
  have fr1 := fun j => hr1.frozen j
  have fo1 := fun j => ho1.frozen j
  go_wp2
  refine bodyPost_ret (v := .agg #[.string x.name, .int .i64 x.kind.kind, .string x.kind.name]) (by simp [results, Tryz.results114, go_sem, *]) rfl ?_
  exact .mk rfl (by exact frc)

theorem info_Fld : (Tryz.prog.info? 98).map (fun i => (i.zero, i.size, i.bytes)) = some (some (.agg #[.string ⟨#[]⟩, .int .i64 0, .string ⟨#[]⟩]), 3, 40) := by kernel_rfl
set_option maxRecDepth 100000 in
set_option maxHeartbeats 2000000 in
theorem toFldS_go (X : Nat → Prop) (v : Value) (xs : List Fld) (w : World) (h : Sl X w 3 FldC v xs) (hs : szL szFld xs ≤ 1048576) :
    Calls Tryz.prog 98 #[v] w (ToSPost 3 (fun _ _ => FldC) xs w) := by
  have hlen : xs.length ≤ 1048576 := by have := szL_len szFld xs; omega
  obtain ⟨A, cap, rfl, _, _⟩ := h.form
  have hmk := fun W => run_make_n 75 98 _ _ _ Tryz.underlying75 info_Fld xs.length (by omega) (by omega) W
  go_enter Tryz.func98, Tryz.ntmps98
  go_wp2
  have hF0 : Fill (w.alloc (.cells (madeCells #[.string ⟨#[]⟩, .int .i64 0, .string ⟨#[]⟩] (xs.length * 3)) 98)) w.heap.size 98 3 xs.length 0 FldC xs := Fill.start (Bx.new _ _ _) (size_madeCells _ _)
  clear hmk
  go_loopw [4] (fun i wr => ∃ k : Nat, k ≤ xs.length ∧ i = .int .i64 k ∧ Fill wr w.heap.size 98 3 xs.length k FldC xs ∧ Fr No w wr) (fun i _ => xs.length - (intOf i).toNat)
  case atStart => exact ⟨0, Nat.zero_le _, rfl, hF0, by exact frc⟩
  case round =>
    clear hF0
    obtain ⟨k, hk, rfl, hF, hf⟩ := hrel
    by_cases hlt : k < xs.length
    · obtain ⟨b, off, rfl, hX, c0, c1, c2, z0, z1⟩ := (h.keep hf (fun _ h => h.elim) (fun _ _ _ h => h)).fld hlt
      have H := fun W => toFld_go xs[k] _ W ⟨rfl, z0, z1⟩
      clear h
      go_wp2_with fail
      refine (H _).mono ?_
      rintro e w1 ⟨rfl, hf1⟩
      have hF1 := hF.keep hf1 (fun h => h) (fun _ _ _ h => h)
      obtain ⟨o0, ho0⟩ := hF1.cell? (o := k * 3) (by omega)
      obtain ⟨o1, ho1⟩ := hF1.cell? (o := k * 3 + 1) (by omega)
      obtain ⟨o2, ho2⟩ := hF1.cell? (o := k * 3 + 2) (by omega)
      have hfz := fun o => hF1.frozen o
      clear c0 c1 c2 H hF
      have hF1 := Lib.hid hF1
      go_wp2
      go_roundw
      case rel => exact ⟨k + 1, by omega, by go_num, hF1.out.step (cs := [.string xs[k].name, .int .i64 xs[k].kind.kind, .string xs[k].kind.name]) hlt hlt ⟨rfl, z0, z1⟩ rfl, by exact frc⟩
      case measure => simp [intOf]; omega
    · have he : k = xs.length := by omega
      subst he
      clear h
      have hF := Lib.hid hF
      go_wp2
      go_ret
      have hF := hF.out
      exact ⟨_, rfl, hF.done (X := fun b => b < w.heap.size) (by omega) (by unfold maxLen; omega), by exact frc⟩

end Go.Proofs.YtghmnkafpnkojaaGreat

