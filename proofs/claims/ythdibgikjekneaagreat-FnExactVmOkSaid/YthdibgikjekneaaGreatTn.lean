/- The laws' own copies: new memory that reads as the same data, none of it frozen. -/
import Derived.Test.YthdibgikjekneaaGreatSz
import Derived.Test.YthdibgikjekneaaGreatNf
import Derived.Test.YthdibgikjekneaaGreatSzL
namespace Go.Proofs.YthdibgikjekneaaGreat
open Go.RowKit

set_option maxRecDepth 100000 in
set_option maxHeartbeats 2000000 in
theorem toNKnd_go (x : Knd) (cs : List Value) (w : World) (h : KndC cs x) :
    Calls Tryz.prog 257 #[.agg cs.toArray] w (GivesN (.agg cs.toArray) w) := by
  obtain ⟨rfl, z0⟩ := h
  go_enter Tryz.func257, Tryz.ntmps257
  go_wp2
  refine bodyPost_ret (v := .agg #[.int .i64 x.kind, .string x.name]) (by simp [results, Tryz.results257, go_sem]) rfl ?_
  exact .mk rfl (by exact frc) (by exact nfc)
theorem toKnd_go (x : Knd) (cs : List Value) (w : World) (h : KndC cs x) :
    Calls Tryz.prog 257 #[.agg cs.toArray] w (Gives (.agg cs.toArray) w) :=
  (toNKnd_go x cs w h).mono fun _ _ h => ⟨h.1, h.2.1⟩

theorem info_Knd : (Tryz.prog.info? 83).map (fun i => (i.zero, i.size, i.bytes)) = some (some (.agg #[.int .i64 0, .string ⟨#[]⟩]), 2, 24) := by kernel_rfl
set_option maxRecDepth 100000 in
set_option maxHeartbeats 2000000 in
theorem toNKndS_go (X : Nat → Prop) (v : Value) (xs : List Knd) (w : World) (h : Sl X w 2 KndC v xs) (hs : szL szKnd xs ≤ 1048576) :
    Calls Tryz.prog 258 #[v] w (ToSPostN 2 (fun _ _ => KndC) xs w) := by
  have hlen : xs.length ≤ 1048576 := by have := szL_len szKnd xs; omega
  obtain ⟨A, cap, rfl, _, _⟩ := h.form
  have hmk := fun W => run_make_n 82 83 _ _ _ Tryz.underlying82 info_Knd xs.length (by omega) (by omega) W
  go_enter Tryz.func258, Tryz.ntmps258
  go_wp2
  have hF0 : Fill (w.alloc (.cells (madeCells #[.int .i64 0, .string ⟨#[]⟩] (xs.length * 2)) 83)) w.heap.size 83 2 xs.length 0 KndC xs := Fill.start (Bx.new _ _ _) (size_madeCells _ _)
  clear hmk
  go_loopw [4] (fun i wr => ∃ k : Nat, k ≤ xs.length ∧ i = .int .i64 k ∧ Fill wr w.heap.size 83 2 xs.length k KndC xs ∧ Fr No w wr ∧ NF w wr) (fun i _ => xs.length - (intOf i).toNat)
  case atStart => exact ⟨0, Nat.zero_le _, rfl, hF0, by exact frc, by exact nfc⟩
  case round =>
    clear hF0
    obtain ⟨k, hk, rfl, hF, hf, nf0⟩ := hrel
    by_cases hlt : k < xs.length
    · obtain ⟨b, off, rfl, hX, c0, c1, z0⟩ := (h.keep hf (fun _ h => h.elim) (fun _ _ _ h => h)).knd hlt
      have H := fun W => toNKnd_go xs[k] _ W ⟨rfl, z0⟩
      clear h
      go_wp2_with fail
      refine (H _).mono ?_
      rintro e w1 ⟨rfl, hf1, nf1⟩
      have hF1 := hF.keep hf1 (fun h => h) (fun _ _ _ h => h)
      obtain ⟨o0, ho0⟩ := hF1.cell? (o := k * 2) (by omega)
      obtain ⟨o1, ho1⟩ := hF1.cell? (o := k * 2 + 1) (by omega)
      have hfz := fun o => hF1.frozen o
      clear c0 c1 H hF
      have hF1 := Lib.hid hF1
      go_wp2
      go_roundw
      case rel => exact ⟨k + 1, by omega, by go_num, hF1.out.step (cs := [.int .i64 xs[k].kind, .string xs[k].name]) hlt hlt ⟨rfl, z0⟩ rfl, by exact frc, by exact nfc⟩
      case measure => simp [intOf]; omega
    · have he : k = xs.length := by omega
      subst he
      clear h
      have hF := Lib.hid hF
      go_wp2
      go_ret
      have hF := hF.out
      exact ⟨_, rfl, hF.done (X := fun b => b < w.heap.size) (by omega) (by unfold maxLen; omega), by exact frc, by exact nfc⟩
theorem toKndS_go (X : Nat → Prop) (v : Value) (xs : List Knd) (w : World) (h : Sl X w 2 KndC v xs) (hs : szL szKnd xs ≤ 1048576) :
    Calls Tryz.prog 258 #[v] w (ToSPost 2 (fun _ _ => KndC) xs w) :=
  (toNKndS_go X v xs w h hs).mono fun _ _ ⟨x, h1, h2, h3, _⟩ => ⟨x, h1, h2, h3⟩

set_option maxRecDepth 100000 in
set_option maxHeartbeats 2000000 in
theorem toNTag_go (x : Tag) (cs : List Value) (w : World) (h : TagC cs x) :
    Calls Tryz.prog 28 #[.agg cs.toArray] w (GivesN (.agg cs.toArray) w) := by
  obtain ⟨rfl, z0⟩ := h
  go_enter Tryz.func28, Tryz.ntmps28
  go_wp2
  refine bodyPost_ret (v := .agg #[.int .i64 x.kind, .string x.name]) (by simp [results, Tryz.results28, go_sem]) rfl ?_
  exact .mk rfl (by exact frc) (by exact nfc)
theorem toTag_go (x : Tag) (cs : List Value) (w : World) (h : TagC cs x) :
    Calls Tryz.prog 28 #[.agg cs.toArray] w (Gives (.agg cs.toArray) w) :=
  (toNTag_go x cs w h).mono fun _ _ h => ⟨h.1, h.2.1⟩

theorem info_Tag : (Tryz.prog.info? 59).map (fun i => (i.zero, i.size, i.bytes)) = some (some (.agg #[.int .i64 0, .string ⟨#[]⟩]), 2, 24) := by kernel_rfl
set_option maxRecDepth 100000 in
set_option maxHeartbeats 2000000 in
theorem toNTagS_go (X : Nat → Prop) (v : Value) (xs : List Tag) (w : World) (h : Sl X w 2 TagC v xs) (hs : szL szTag xs ≤ 1048576) :
    Calls Tryz.prog 276 #[v] w (ToSPostN 2 (fun _ _ => TagC) xs w) := by
  have hlen : xs.length ≤ 1048576 := by have := szL_len szTag xs; omega
  obtain ⟨A, cap, rfl, _, _⟩ := h.form
  have hmk := fun W => run_make_n 102 59 _ _ _ Tryz.underlying102 info_Tag xs.length (by omega) (by omega) W
  go_enter Tryz.func276, Tryz.ntmps276
  go_wp2
  have hF0 : Fill (w.alloc (.cells (madeCells #[.int .i64 0, .string ⟨#[]⟩] (xs.length * 2)) 59)) w.heap.size 59 2 xs.length 0 TagC xs := Fill.start (Bx.new _ _ _) (size_madeCells _ _)
  clear hmk
  go_loopw [4] (fun i wr => ∃ k : Nat, k ≤ xs.length ∧ i = .int .i64 k ∧ Fill wr w.heap.size 59 2 xs.length k TagC xs ∧ Fr No w wr ∧ NF w wr) (fun i _ => xs.length - (intOf i).toNat)
  case atStart => exact ⟨0, Nat.zero_le _, rfl, hF0, by exact frc, by exact nfc⟩
  case round =>
    clear hF0
    obtain ⟨k, hk, rfl, hF, hf, nf0⟩ := hrel
    by_cases hlt : k < xs.length
    · obtain ⟨b, off, rfl, hX, c0, c1, z0⟩ := (h.keep hf (fun _ h => h.elim) (fun _ _ _ h => h)).tag hlt
      have H := fun W => toNTag_go xs[k] _ W ⟨rfl, z0⟩
      clear h
      go_wp2_with fail
      refine (H _).mono ?_
      rintro e w1 ⟨rfl, hf1, nf1⟩
      have hF1 := hF.keep hf1 (fun h => h) (fun _ _ _ h => h)
      obtain ⟨o0, ho0⟩ := hF1.cell? (o := k * 2) (by omega)
      obtain ⟨o1, ho1⟩ := hF1.cell? (o := k * 2 + 1) (by omega)
      have hfz := fun o => hF1.frozen o
      clear c0 c1 H hF
      have hF1 := Lib.hid hF1
      go_wp2
      go_roundw
      case rel => exact ⟨k + 1, by omega, by go_num, hF1.out.step (cs := [.int .i64 xs[k].kind, .string xs[k].name]) hlt hlt ⟨rfl, z0⟩ rfl, by exact frc, by exact nfc⟩
      case measure => simp [intOf]; omega
    · have he : k = xs.length := by omega
      subst he
      clear h
      have hF := Lib.hid hF
      go_wp2
      go_ret
      have hF := hF.out
      exact ⟨_, rfl, hF.done (X := fun b => b < w.heap.size) (by omega) (by unfold maxLen; omega), by exact frc, by exact nfc⟩
theorem toTagS_go (X : Nat → Prop) (v : Value) (xs : List Tag) (w : World) (h : Sl X w 2 TagC v xs) (hs : szL szTag xs ≤ 1048576) :
    Calls Tryz.prog 276 #[v] w (ToSPost 2 (fun _ _ => TagC) xs w) :=
  (toNTagS_go X v xs w h hs).mono fun _ _ ⟨x, h1, h2, h3, _⟩ => ⟨x, h1, h2, h3⟩

set_option maxRecDepth 100000 in
set_option maxHeartbeats 2000000 in
theorem toNIns_go (x : Ins) (cs : List Value) (w : World) (h : InsC cs x) :
    Calls Tryz.prog 270 #[.agg cs.toArray] w (GivesN (.agg cs.toArray) w) := by
  obtain ⟨rfl, z0, z1⟩ := h
  go_enter Tryz.func270, Tryz.ntmps270
  go_wp2
  refine bodyPost_ret (v := .agg #[.int .i64 x.op, .int .i64 x.a, .string x.name, .string x.member]) (by simp [results, Tryz.results270, go_sem]) rfl ?_
  exact .mk rfl (by exact frc) (by exact nfc)
theorem toIns_go (x : Ins) (cs : List Value) (w : World) (h : InsC cs x) :
    Calls Tryz.prog 270 #[.agg cs.toArray] w (Gives (.agg cs.toArray) w) :=
  (toNIns_go x cs w h).mono fun _ _ h => ⟨h.1, h.2.1⟩

theorem info_Ins : (Tryz.prog.info? 155).map (fun i => (i.zero, i.size, i.bytes)) = some (some (.agg #[.int .i64 0, .int .i64 0, .string ⟨#[]⟩, .string ⟨#[]⟩]), 4, 48) := by kernel_rfl
set_option maxRecDepth 100000 in
set_option maxHeartbeats 2000000 in
theorem toNInsS_go (X : Nat → Prop) (v : Value) (xs : List Ins) (w : World) (h : Sl X w 4 InsC v xs) (hs : szL szIns xs ≤ 1048576) :
    Calls Tryz.prog 259 #[v] w (ToSPostN 4 (fun _ _ => InsC) xs w) := by
  have hlen : xs.length ≤ 1048576 := by have := szL_len szIns xs; omega
  obtain ⟨A, cap, rfl, _, _⟩ := h.form
  have hmk := fun W => run_make_n 84 155 _ _ _ Tryz.underlying84 info_Ins xs.length (by omega) (by omega) W
  go_enter Tryz.func259, Tryz.ntmps259
  go_wp2
  have hF0 : Fill (w.alloc (.cells (madeCells #[.int .i64 0, .int .i64 0, .string ⟨#[]⟩, .string ⟨#[]⟩] (xs.length * 4)) 155)) w.heap.size 155 4 xs.length 0 InsC xs := Fill.start (Bx.new _ _ _) (size_madeCells _ _)
  clear hmk
  go_loopw [4] (fun i wr => ∃ k : Nat, k ≤ xs.length ∧ i = .int .i64 k ∧ Fill wr w.heap.size 155 4 xs.length k InsC xs ∧ Fr No w wr ∧ NF w wr) (fun i _ => xs.length - (intOf i).toNat)
  case atStart => exact ⟨0, Nat.zero_le _, rfl, hF0, by exact frc, by exact nfc⟩
  case round =>
    clear hF0
    obtain ⟨k, hk, rfl, hF, hf, nf0⟩ := hrel
    by_cases hlt : k < xs.length
    · obtain ⟨b, off, rfl, hX, c0, c1, c2, c3, z0, z1⟩ := (h.keep hf (fun _ h => h.elim) (fun _ _ _ h => h)).ins hlt
      have H := fun W => toNIns_go xs[k] _ W ⟨rfl, z0, z1⟩
      clear h
      go_wp2_with fail
      refine (H _).mono ?_
      rintro e w1 ⟨rfl, hf1, nf1⟩
      have hF1 := hF.keep hf1 (fun h => h) (fun _ _ _ h => h)
      obtain ⟨o0, ho0⟩ := hF1.cell? (o := k * 4) (by omega)
      obtain ⟨o1, ho1⟩ := hF1.cell? (o := k * 4 + 1) (by omega)
      obtain ⟨o2, ho2⟩ := hF1.cell? (o := k * 4 + 2) (by omega)
      obtain ⟨o3, ho3⟩ := hF1.cell? (o := k * 4 + 3) (by omega)
      have hfz := fun o => hF1.frozen o
      clear c0 c1 c2 c3 H hF
      have hF1 := Lib.hid hF1
      go_wp2
      go_roundw
      case rel => exact ⟨k + 1, by omega, by go_num, hF1.out.step (cs := [.int .i64 xs[k].op, .int .i64 xs[k].a, .string xs[k].name, .string xs[k].member]) hlt hlt ⟨rfl, z0, z1⟩ rfl, by exact frc, by exact nfc⟩
      case measure => simp [intOf]; omega
    · have he : k = xs.length := by omega
      subst he
      clear h
      have hF := Lib.hid hF
      go_wp2
      go_ret
      have hF := hF.out
      exact ⟨_, rfl, hF.done (X := fun b => b < w.heap.size) (by omega) (by unfold maxLen; omega), by exact frc, by exact nfc⟩
theorem toInsS_go (X : Nat → Prop) (v : Value) (xs : List Ins) (w : World) (h : Sl X w 4 InsC v xs) (hs : szL szIns xs ≤ 1048576) :
    Calls Tryz.prog 259 #[v] w (ToSPost 4 (fun _ _ => InsC) xs w) :=
  (toNInsS_go X v xs w h hs).mono fun _ _ ⟨x, h1, h2, h3, _⟩ => ⟨x, h1, h2, h3⟩

set_option maxRecDepth 100000 in
set_option maxHeartbeats 2000000 in
theorem toNFld_go (x : Fld) (cs : List Value) (w : World) (h : FldC cs x) :
    Calls Tryz.prog 239 #[.agg cs.toArray] w (GivesN (.agg cs.toArray) w) := by
  obtain ⟨rfl, z0, z1⟩ := h
  have H_kind := fun W (_ : Fr No w W) => toNKnd_go x.kind _ W ⟨rfl, (by assumption)⟩
  go_enter Tryz.func239, Tryz.ntmps239
  go_wp2_with fail
  refine (H_kind _ ?_).mono ?_
  · exact frc
  rintro e w1 ⟨rfl, hf1, nf1⟩
  have hb1 : Bx w1 w.heap.size 327 #[.string x.name, .int .i64 x.kind.kind, .string x.kind.name] := Bx.keepTo w1 (by exact bxc) hf1
  have hr1 : Bx w1 (w.heap.size + 1) 230 #[.string ⟨#[]⟩, .int .i64 0, .string ⟨#[]⟩] := Bx.keepTo w1 (by exact bxc) hf1
  have ho1 : Bx w1 (w.heap.size + 1 + 1) 230 #[.string x.name, .int .i64 0, .string ⟨#[]⟩] := Bx.keepTo w1 (by exact bxc) hf1
  obtain ⟨a1_0, a1_1, a1_2⟩ := hb1.c3
  obtain ⟨b1_0, b1_1, b1_2⟩ := hr1.c3
  obtain ⟨c1_0, c1_1, c1_2⟩ := ho1.c3
  have fr1 := fun j => hr1.frozen j
  have fo1 := fun j => ho1.frozen j
  go_wp2
  refine bodyPost_ret (v := .agg #[.string x.name, .int .i64 x.kind.kind, .string x.kind.name]) (by simp [results, Tryz.results239, go_sem, *]) rfl ?_
  exact .mk rfl (by exact frc) (by exact nfc)
theorem toFld_go (x : Fld) (cs : List Value) (w : World) (h : FldC cs x) :
    Calls Tryz.prog 239 #[.agg cs.toArray] w (Gives (.agg cs.toArray) w) :=
  (toNFld_go x cs w h).mono fun _ _ h => ⟨h.1, h.2.1⟩

theorem info_Fld : (Tryz.prog.info? 230).map (fun i => (i.zero, i.size, i.bytes)) = some (some (.agg #[.string ⟨#[]⟩, .int .i64 0, .string ⟨#[]⟩]), 3, 40) := by kernel_rfl
set_option maxRecDepth 100000 in
set_option maxHeartbeats 2000000 in
theorem toNFldS_go (X : Nat → Prop) (v : Value) (xs : List Fld) (w : World) (h : Sl X w 3 FldC v xs) (hs : szL szFld xs ≤ 1048576) :
    Calls Tryz.prog 218 #[v] w (ToSPostN 3 (fun _ _ => FldC) xs w) := by
  have hlen : xs.length ≤ 1048576 := by have := szL_len szFld xs; omega
  obtain ⟨A, cap, rfl, _, _⟩ := h.form
  have hmk := fun W => run_make_n 76 230 _ _ _ Tryz.underlying76 info_Fld xs.length (by omega) (by omega) W
  go_enter Tryz.func218, Tryz.ntmps218
  go_wp2
  have hF0 : Fill (w.alloc (.cells (madeCells #[.string ⟨#[]⟩, .int .i64 0, .string ⟨#[]⟩] (xs.length * 3)) 230)) w.heap.size 230 3 xs.length 0 FldC xs := Fill.start (Bx.new _ _ _) (size_madeCells _ _)
  clear hmk
  go_loopw [4] (fun i wr => ∃ k : Nat, k ≤ xs.length ∧ i = .int .i64 k ∧ Fill wr w.heap.size 230 3 xs.length k FldC xs ∧ Fr No w wr ∧ NF w wr) (fun i _ => xs.length - (intOf i).toNat)
  case atStart => exact ⟨0, Nat.zero_le _, rfl, hF0, by exact frc, by exact nfc⟩
  case round =>
    clear hF0
    obtain ⟨k, hk, rfl, hF, hf, nf0⟩ := hrel
    by_cases hlt : k < xs.length
    · obtain ⟨b, off, rfl, hX, c0, c1, c2, z0, z1⟩ := (h.keep hf (fun _ h => h.elim) (fun _ _ _ h => h)).fld hlt
      have H := fun W => toNFld_go xs[k] _ W ⟨rfl, z0, z1⟩
      clear h
      go_wp2_with fail
      refine (H _).mono ?_
      rintro e w1 ⟨rfl, hf1, nf1⟩
      have hF1 := hF.keep hf1 (fun h => h) (fun _ _ _ h => h)
      obtain ⟨o0, ho0⟩ := hF1.cell? (o := k * 3) (by omega)
      obtain ⟨o1, ho1⟩ := hF1.cell? (o := k * 3 + 1) (by omega)
      obtain ⟨o2, ho2⟩ := hF1.cell? (o := k * 3 + 2) (by omega)
      have hfz := fun o => hF1.frozen o
      clear c0 c1 c2 H hF
      have hF1 := Lib.hid hF1
      go_wp2
      go_roundw
      case rel => exact ⟨k + 1, by omega, by go_num, hF1.out.step (cs := [.string xs[k].name, .int .i64 xs[k].kind.kind, .string xs[k].kind.name]) hlt hlt ⟨rfl, z0, z1⟩ rfl, by exact frc, by exact nfc⟩
      case measure => simp [intOf]; omega
    · have he : k = xs.length := by omega
      subst he
      clear h
      have hF := Lib.hid hF
      go_wp2
      go_ret
      have hF := hF.out
      exact ⟨_, rfl, hF.done (X := fun b => b < w.heap.size) (by omega) (by unfold maxLen; omega), by exact frc, by exact nfc⟩
theorem toFldS_go (X : Nat → Prop) (v : Value) (xs : List Fld) (w : World) (h : Sl X w 3 FldC v xs) (hs : szL szFld xs ≤ 1048576) :
    Calls Tryz.prog 218 #[v] w (ToSPost 3 (fun _ _ => FldC) xs w) :=
  (toNFldS_go X v xs w h hs).mono fun _ _ ⟨x, h1, h2, h3, _⟩ => ⟨x, h1, h2, h3⟩

set_option maxRecDepth 100000 in
set_option maxHeartbeats 2000000 in
theorem toNMp_go (X : Nat → Prop) (x : Mp) (cs : List Value) (w : World) (h : MapC X w cs x) (hs : szMp x ≤ 1048576) :
    Calls Tryz.prog 271 #[.agg cs.toArray] w (ToPostN MapC x w) := by
  obtain ⟨v_locals, v_stack, rfl, h_locals, h_stack⟩ := h
  unfold szMp at hs
  have H_locals := fun W (h : Fr No w W) => toNTagS_go X _ x.locals W (h_locals.keep h (fun _ h => h.elim) (fun _ _ _ h => h)) (by omega)
  have H_stack := fun W (h : Fr No w W) => toNTagS_go X _ x.stack W (h_stack.keep h (fun _ h => h.elim) (fun _ _ _ h => h)) (by omega)
  obtain ⟨A_locals, c_locals, rfl, _, _⟩ := h_locals.form
  clear h_locals
  obtain ⟨A_stack, c_stack, rfl, _, _⟩ := h_stack.form
  clear h_stack
  clear hs
  go_enter Tryz.func271, Tryz.ntmps271
  go_wp2_with fail
  refine (H_locals _ ?_).mono ?_
  · exact frc
  rintro e w1 ⟨v1, rfl, s_locals, hf1, nf1⟩
  obtain ⟨B_locals, d_locals, rfl, _, _⟩ := s_locals.form
  have t_locals := s_locals.weaken (Y := fun b => b < w.heap.size + 3) (fun b (hb : b < w.heap.size + 3) => Nat.lt_of_lt_of_le hb (by first | (simp; done) | (simp; omega))) (fun _ _ _ h => h)
  clear s_locals
  have hb1 : Bx w1 w.heap.size 363 #[.int .i64 x.at_, .slice A_locals x.locals.length c_locals, .slice A_stack x.stack.length c_stack] := Bx.keepTo w1 (by exact bxc) hf1
  have hr1 : Bx w1 (w.heap.size + 1) 147 #[.int .i64 0, .slice none 0 0, .slice none 0 0] := Bx.keepTo w1 (by exact bxc) hf1
  have ho1 : Bx w1 (w.heap.size + 1 + 1) 147 #[.int .i64 x.at_, .slice none 0 0, .slice none 0 0] := Bx.keepTo w1 (by exact bxc) hf1
  obtain ⟨a1_0, a1_1, a1_2⟩ := hb1.c3
  obtain ⟨b1_0, b1_1, b1_2⟩ := hr1.c3
  obtain ⟨c1_0, c1_1, c1_2⟩ := ho1.c3
  have fr1 := fun j => hr1.frozen j
  have fo1 := fun j => ho1.frozen j
  go_wp2_with fail
  refine (H_stack _ ?_).mono ?_
  · exact frc
  rintro e w2 ⟨v2, rfl, s_stack, hf2, nf2⟩
  obtain ⟨B_stack, d_stack, rfl, _, _⟩ := s_stack.form
  have hlo := ho1.lt
  have t_stack := s_stack.weaken (Y := fun b => b < w.heap.size + 3) (fun b (hb : b < w.heap.size + 3) => Nat.lt_of_lt_of_le hb (by first | (simp; done) | (simp; omega))) (fun _ _ _ h => h)
  clear s_stack hlo
  have hb2 : Bx w2 w.heap.size 363 #[.int .i64 x.at_, .slice A_locals x.locals.length c_locals, .slice A_stack x.stack.length c_stack] := Bx.keepTo w2 (by exact bxc) hf2
  have hr2 : Bx w2 (w.heap.size + 1) 147 #[.int .i64 0, .slice none 0 0, .slice none 0 0] := Bx.keepTo w2 (by exact bxc) hf2
  have ho2 : Bx w2 (w.heap.size + 1 + 1) 147 #[.int .i64 x.at_, .slice B_locals x.locals.length d_locals, .slice none 0 0] := Bx.keepTo w2 (by exact bxc) hf2
  clear a1_0 a1_1 a1_2 b1_0 b1_1 b1_2 c1_0 c1_1 c1_2 fr1 fo1 hb1 hr1 ho1
  obtain ⟨a2_0, a2_1, a2_2⟩ := hb2.c3
  obtain ⟨b2_0, b2_1, b2_2⟩ := hr2.c3
  obtain ⟨c2_0, c2_1, c2_2⟩ := ho2.c3
  have fr2 := fun j => hr2.frozen j
  have fo2 := fun j => ho2.frozen j
  go_wp2
  refine bodyPost_ret (v := .agg #[.int .i64 x.at_, .slice B_locals x.locals.length d_locals, .slice B_stack x.stack.length d_stack]) (by simp [results, Tryz.results271, go_sem, *]) rfl ?_
  refine ⟨_, rfl, ⟨_, _, rfl, ?_, ?_⟩, by exact frc, by exact nfc⟩
  · exact (t_locals.keep (Y := fun b => b < w.heap.size + 3) (by exact frx) (fun _ h => h) (fun _ _ _ h => h)).weaken (fun b hb => Nat.lt_add_right 3 hb) (fun _ _ _ h => h)
  · exact (t_stack.keep (Y := fun b => b < w.heap.size + 3) (by exact frx) (fun _ h => h) (fun _ _ _ h => h)).weaken (fun b hb => Nat.lt_add_right 3 hb) (fun _ _ _ h => h)
theorem toMp_go (X : Nat → Prop) (x : Mp) (cs : List Value) (w : World) (h : MapC X w cs x) (hs : szMp x ≤ 1048576) :
    Calls Tryz.prog 271 #[.agg cs.toArray] w (ToPost MapC x w) :=
  (toNMp_go X x cs w h hs).mono fun _ _ ⟨x, h1, h2, h3, _⟩ => ⟨x, h1, h2, h3⟩

theorem info_Mp : (Tryz.prog.info? 147).map (fun i => (i.zero, i.size, i.bytes)) = some (some (.agg #[.int .i64 0, .slice none 0 0, .slice none 0 0]), 3, 56) := by kernel_rfl
set_option maxRecDepth 100000 in
set_option maxHeartbeats 2000000 in
theorem toNMpS_go (X : Nat → Prop) (v : Value) (xs : List Mp) (w : World) (h : Sl X w 3 (MapC X w) v xs) (hs : szL szMp xs ≤ 1048576) :
    Calls Tryz.prog 260 #[v] w (ToSPostN 3 MapC xs w) := by
  have hlen : xs.length ≤ 1048576 := by have := szL_len szMp xs; omega
  obtain ⟨A, cap, rfl, _, _⟩ := h.form
  have hmk := fun W => run_make_n 85 147 _ _ _ Tryz.underlying85 info_Mp xs.length (by omega) (by omega) W
  go_enter Tryz.func260, Tryz.ntmps260
  go_wp2
  have hF0 : Fill (w.alloc (.cells (madeCells #[.int .i64 0, .slice none 0 0, .slice none 0 0] (xs.length * 3)) 147)) w.heap.size 147 3 xs.length 0 (MapC (fun b => b < w.heap.size + 1) (w.alloc (.cells (madeCells #[.int .i64 0, .slice none 0 0, .slice none 0 0] (xs.length * 3)) 147))) xs := Fill.start (Bx.new _ _ _) (size_madeCells _ _)
  clear hmk
  go_loopw [4] (fun i wr => ∃ k : Nat, k ≤ xs.length ∧ i = .int .i64 k ∧ Fill wr w.heap.size 147 3 xs.length k (MapC (fun b => b < w.heap.size + 1) wr) xs ∧ Fr No w wr ∧ NF w wr) (fun i _ => xs.length - (intOf i).toNat)
  case atStart => exact ⟨0, Nat.zero_le _, rfl, hF0, by exact frc, by exact nfc⟩
  case round =>
    clear hF0
    obtain ⟨k, hk, rfl, hF, hf, nf0⟩ := hrel
    by_cases hlt : k < xs.length
    · obtain ⟨b, off, A_locals, c_locals, A_stack, c_stack, rfl, hX, c0, c1, c2, h_locals, h_stack, _, _, _, _⟩ := (h.keep hf (fun _ h => h.elim) (fun _ _ _ h9 => h9.keep hf (fun _ h => h.elim))).map hlt
      have H := toNMp_go X xs[k] _ wr (show MapC X wr [.int .i64 xs[k].at_, .slice A_locals xs[k].locals.length c_locals, .slice A_stack xs[k].stack.length c_stack] xs[k] from ⟨_, _, rfl, h_locals, h_stack⟩) (by have := szL_mem szMp xs k hlt; omega)
      clear h
      go_wp2_with fail
      refine H.mono ?_
      rintro e w1 ⟨cs1, rfl, ⟨u_locals, u_stack, rfl, g_locals, g_stack⟩, hf1, nf1⟩
      obtain ⟨B_locals, d_locals, rfl, _, _⟩ := g_locals.form
      obtain ⟨B_stack, d_stack, rfl, _, _⟩ := g_stack.form
      have hF1 := hF.keep hf1 (fun h => h) (fun _ _ _ h => h.keep hf1 (fun _ h => h.elim))
      have hgl : ∀ b, b < w.heap.size + 1 → b < wr.heap.size := fun b hb => by have := hF.lt; omega
      have hR1 : MapC (fun b => b < w.heap.size + 1) w1 [.int .i64 xs[k].at_, .slice B_locals xs[k].locals.length d_locals, .slice B_stack xs[k].stack.length d_stack] xs[k] := (show MapC (fun b => b < wr.heap.size) w1 [.int .i64 xs[k].at_, .slice B_locals xs[k].locals.length d_locals, .slice B_stack xs[k].stack.length d_stack] xs[k] from ⟨_, _, rfl, g_locals, g_stack⟩).weaken hgl
      obtain ⟨o0, ho0⟩ := hF1.cell? (o := k * 3) (by omega)
      obtain ⟨o1, ho1⟩ := hF1.cell? (o := k * 3 + 1) (by omega)
      obtain ⟨o2, ho2⟩ := hF1.cell? (o := k * 3 + 2) (by omega)
      have hfz := fun o => hF1.frozen o
      clear c0 c1 c2 H hF
      have hF1 := Lib.hid hF1
      go_wp2
      go_roundw
      case rel => exact ⟨k + 1, by omega, by go_num, (hF1.out.step (cs := [.int .i64 xs[k].at_, .slice B_locals xs[k].locals.length d_locals, .slice B_stack xs[k].stack.length d_stack]) hlt hlt hR1 rfl).keep (Fr.refl No _) (fun h => h) (fun _ _ _ h => h.keep (Y := fun b => b < w.heap.size + 1) (by exact frx) (fun _ h => h)), by exact frc, by exact nfc⟩
      case measure => simp [intOf]; omega
    · have he : k = xs.length := by omega
      subst he
      clear h
      have hF := Lib.hid hF
      go_wp2
      go_ret
      have hF := hF.out
      exact ⟨_, rfl, (hF.done (X := fun b => b < w.heap.size) (by omega) (by unfold maxLen; omega)).weaken (fun _ h => h) (fun _ _ _ h => h.weaken (fun b hb => Nat.lt_add_right 1 hb)), by exact frc, by exact nfc⟩
theorem toMpS_go (X : Nat → Prop) (v : Value) (xs : List Mp) (w : World) (h : Sl X w 3 (MapC X w) v xs) (hs : szL szMp xs ≤ 1048576) :
    Calls Tryz.prog 260 #[v] w (ToSPost 3 MapC xs w) :=
  (toNMpS_go X v xs w h hs).mono fun _ _ ⟨x, h1, h2, h3, _⟩ => ⟨x, h1, h2, h3⟩

set_option maxRecDepth 100000 in
set_option maxHeartbeats 2000000 in
theorem toNMth_go (X : Nat → Prop) (x : Mth) (cs : List Value) (w : World) (h : MthC X w cs x) (hs : szMth x ≤ 1048576) :
    Calls Tryz.prog 240 #[.agg cs.toArray] w (ToPostN MthC x w) := by
  obtain ⟨v_args, v_code, v_maps, rfl, z0, z1, h_args, h_code, h_maps⟩ := h
  unfold szMth at hs
  have H_args := fun W (h : Fr No w W) => toNKndS_go X _ x.args W (h_args.keep h (fun _ h => h.elim) (fun _ _ _ h => h)) (by omega)
  have H_ret := fun W (_ : Fr No w W) => toNKnd_go x.ret _ W ⟨rfl, (by assumption)⟩
  have H_code := fun W (h : Fr No w W) => toNInsS_go X _ x.code W (h_code.keep h (fun _ h => h.elim) (fun _ _ _ h => h)) (by omega)
  have H_maps := fun W (h : Fr No w W) => toNMpS_go X _ x.maps W (h_maps.keep h (fun _ h => h.elim) (fun _ _ _ h9 => h9.keep h (fun _ h => h.elim))) (by omega)
  obtain ⟨A_args, c_args, rfl, _, _⟩ := h_args.form
  clear h_args
  obtain ⟨A_code, c_code, rfl, _, _⟩ := h_code.form
  clear h_code
  obtain ⟨A_maps, c_maps, rfl, _, _⟩ := h_maps.form
  clear h_maps
  clear hs
  go_enter Tryz.func240, Tryz.ntmps240
  go_wp2_with fail
  refine (H_args _ ?_).mono ?_
  · exact frc
  rintro e w1 ⟨v1, rfl, s_args, hf1, nf1⟩
  obtain ⟨B_args, d_args, rfl, _, _⟩ := s_args.form
  have t_args := s_args.weaken (Y := fun b => b < w.heap.size + 3) (fun b (hb : b < w.heap.size + 3) => Nat.lt_of_lt_of_le hb (by first | (simp; done) | (simp; omega))) (fun _ _ _ h => h)
  clear s_args
  have hb1 : Bx w1 w.heap.size 333 #[.string x.name, .slice A_args x.args.length c_args, .int .i64 x.ret.kind, .string x.ret.name, .int .i64 x.locals, .int .i64 x.stack, .slice A_code x.code.length c_code, .slice A_maps x.maps.length c_maps] := Bx.keepTo w1 (by exact bxc) hf1
  have hr1 : Bx w1 (w.heap.size + 1) 87 #[.string ⟨#[]⟩, .slice none 0 0, .int .i64 0, .string ⟨#[]⟩, .int .i64 0, .int .i64 0, .slice none 0 0, .slice none 0 0] := Bx.keepTo w1 (by exact bxc) hf1
  have ho1 : Bx w1 (w.heap.size + 1 + 1) 87 #[.string x.name, .slice none 0 0, .int .i64 0, .string ⟨#[]⟩, .int .i64 0, .int .i64 0, .slice none 0 0, .slice none 0 0] := Bx.keepTo w1 (by exact bxc) hf1
  obtain ⟨a1_0, a1_1, a1_2, a1_3, a1_4, a1_5, a1_6, a1_7⟩ := hb1.c8
  obtain ⟨b1_0, b1_1, b1_2, b1_3, b1_4, b1_5, b1_6, b1_7⟩ := hr1.c8
  obtain ⟨c1_0, c1_1, c1_2, c1_3, c1_4, c1_5, c1_6, c1_7⟩ := ho1.c8
  have fr1 := fun j => hr1.frozen j
  have fo1 := fun j => ho1.frozen j
  go_wp2_with fail
  refine (H_ret _ ?_).mono ?_
  · exact frc
  rintro e w2 ⟨rfl, hf2, nf2⟩
  have hb2 : Bx w2 w.heap.size 333 #[.string x.name, .slice A_args x.args.length c_args, .int .i64 x.ret.kind, .string x.ret.name, .int .i64 x.locals, .int .i64 x.stack, .slice A_code x.code.length c_code, .slice A_maps x.maps.length c_maps] := Bx.keepTo w2 (by exact bxc) hf2
  have hr2 : Bx w2 (w.heap.size + 1) 87 #[.string ⟨#[]⟩, .slice none 0 0, .int .i64 0, .string ⟨#[]⟩, .int .i64 0, .int .i64 0, .slice none 0 0, .slice none 0 0] := Bx.keepTo w2 (by exact bxc) hf2
  have ho2 : Bx w2 (w.heap.size + 1 + 1) 87 #[.string x.name, .slice B_args x.args.length d_args, .int .i64 0, .string ⟨#[]⟩, .int .i64 0, .int .i64 0, .slice none 0 0, .slice none 0 0] := Bx.keepTo w2 (by exact bxc) hf2
  clear a1_0 a1_1 a1_2 a1_3 a1_4 a1_5 a1_6 a1_7 b1_0 b1_1 b1_2 b1_3 b1_4 b1_5 b1_6 b1_7 c1_0 c1_1 c1_2 c1_3 c1_4 c1_5 c1_6 c1_7 fr1 fo1 hb1 hr1 ho1
  obtain ⟨a2_0, a2_1, a2_2, a2_3, a2_4, a2_5, a2_6, a2_7⟩ := hb2.c8
  obtain ⟨b2_0, b2_1, b2_2, b2_3, b2_4, b2_5, b2_6, b2_7⟩ := hr2.c8
  obtain ⟨c2_0, c2_1, c2_2, c2_3, c2_4, c2_5, c2_6, c2_7⟩ := ho2.c8
  have fr2 := fun j => hr2.frozen j
  have fo2 := fun j => ho2.frozen j
  go_wp2_with fail
  refine (H_code _ ?_).mono ?_
  · exact frc
  rintro e w3 ⟨v3, rfl, s_code, hf3, nf3⟩
  obtain ⟨B_code, d_code, rfl, _, _⟩ := s_code.form
  have hlo := ho2.lt
  have t_code := s_code.weaken (Y := fun b => b < w.heap.size + 3) (fun b (hb : b < w.heap.size + 3) => Nat.lt_of_lt_of_le hb (by first | (simp; done) | (simp; omega))) (fun _ _ _ h => h)
  clear s_code hlo
  have hb3 : Bx w3 w.heap.size 333 #[.string x.name, .slice A_args x.args.length c_args, .int .i64 x.ret.kind, .string x.ret.name, .int .i64 x.locals, .int .i64 x.stack, .slice A_code x.code.length c_code, .slice A_maps x.maps.length c_maps] := Bx.keepTo w3 (by exact bxc) hf3
  have hr3 : Bx w3 (w.heap.size + 1) 87 #[.string ⟨#[]⟩, .slice none 0 0, .int .i64 0, .string ⟨#[]⟩, .int .i64 0, .int .i64 0, .slice none 0 0, .slice none 0 0] := Bx.keepTo w3 (by exact bxc) hf3
  have ho3 : Bx w3 (w.heap.size + 1 + 1) 87 #[.string x.name, .slice B_args x.args.length d_args, .int .i64 x.ret.kind, .string x.ret.name, .int .i64 x.locals, .int .i64 x.stack, .slice none 0 0, .slice none 0 0] := Bx.keepTo w3 (by exact bxc) hf3
  clear a2_0 a2_1 a2_2 a2_3 a2_4 a2_5 a2_6 a2_7 b2_0 b2_1 b2_2 b2_3 b2_4 b2_5 b2_6 b2_7 c2_0 c2_1 c2_2 c2_3 c2_4 c2_5 c2_6 c2_7 fr2 fo2 hb2 hr2 ho2
  obtain ⟨a3_0, a3_1, a3_2, a3_3, a3_4, a3_5, a3_6, a3_7⟩ := hb3.c8
  obtain ⟨b3_0, b3_1, b3_2, b3_3, b3_4, b3_5, b3_6, b3_7⟩ := hr3.c8
  obtain ⟨c3_0, c3_1, c3_2, c3_3, c3_4, c3_5, c3_6, c3_7⟩ := ho3.c8
  have fr3 := fun j => hr3.frozen j
  have fo3 := fun j => ho3.frozen j
  go_wp2_with fail
  refine (H_maps _ ?_).mono ?_
  · exact frc
  rintro e w4 ⟨v4, rfl, s_maps, hf4, nf4⟩
  obtain ⟨B_maps, d_maps, rfl, _, _⟩ := s_maps.form
  have hlo := ho3.lt
  have t_maps := s_maps.weaken (Y := fun b => b < w.heap.size + 3) (fun b (hb : b < w.heap.size + 3) => Nat.lt_of_lt_of_le hb (by first | (simp; done) | (simp; omega))) (fun _ _ _ h9 => h9.weaken (fun b (hb : b < w.heap.size + 3) => Nat.lt_of_lt_of_le hb (by first | (simp; done) | (simp; omega))))
  clear s_maps hlo
  have hb4 : Bx w4 w.heap.size 333 #[.string x.name, .slice A_args x.args.length c_args, .int .i64 x.ret.kind, .string x.ret.name, .int .i64 x.locals, .int .i64 x.stack, .slice A_code x.code.length c_code, .slice A_maps x.maps.length c_maps] := Bx.keepTo w4 (by exact bxc) hf4
  have hr4 : Bx w4 (w.heap.size + 1) 87 #[.string ⟨#[]⟩, .slice none 0 0, .int .i64 0, .string ⟨#[]⟩, .int .i64 0, .int .i64 0, .slice none 0 0, .slice none 0 0] := Bx.keepTo w4 (by exact bxc) hf4
  have ho4 : Bx w4 (w.heap.size + 1 + 1) 87 #[.string x.name, .slice B_args x.args.length d_args, .int .i64 x.ret.kind, .string x.ret.name, .int .i64 x.locals, .int .i64 x.stack, .slice B_code x.code.length d_code, .slice none 0 0] := Bx.keepTo w4 (by exact bxc) hf4
  clear a3_0 a3_1 a3_2 a3_3 a3_4 a3_5 a3_6 a3_7 b3_0 b3_1 b3_2 b3_3 b3_4 b3_5 b3_6 b3_7 c3_0 c3_1 c3_2 c3_3 c3_4 c3_5 c3_6 c3_7 fr3 fo3 hb3 hr3 ho3
  obtain ⟨a4_0, a4_1, a4_2, a4_3, a4_4, a4_5, a4_6, a4_7⟩ := hb4.c8
  obtain ⟨b4_0, b4_1, b4_2, b4_3, b4_4, b4_5, b4_6, b4_7⟩ := hr4.c8
  obtain ⟨c4_0, c4_1, c4_2, c4_3, c4_4, c4_5, c4_6, c4_7⟩ := ho4.c8
  have fr4 := fun j => hr4.frozen j
  have fo4 := fun j => ho4.frozen j
  go_wp2
  refine bodyPost_ret (v := .agg #[.string x.name, .slice B_args x.args.length d_args, .int .i64 x.ret.kind, .string x.ret.name, .int .i64 x.locals, .int .i64 x.stack, .slice B_code x.code.length d_code, .slice B_maps x.maps.length d_maps]) (by simp [results, Tryz.results240, go_sem, *]) rfl ?_
  refine ⟨_, rfl, ⟨_, _, _, rfl, z0, z1, ?_, ?_, ?_⟩, by exact frc, by exact nfc⟩
  · exact (t_args.keep (Y := fun b => b < w.heap.size + 3) (by exact frx) (fun _ h => h) (fun _ _ _ h => h)).weaken (fun b hb => Nat.lt_add_right 3 hb) (fun _ _ _ h => h)
  · exact (t_code.keep (Y := fun b => b < w.heap.size + 3) (by exact frx) (fun _ h => h) (fun _ _ _ h => h)).weaken (fun b hb => Nat.lt_add_right 3 hb) (fun _ _ _ h => h)
  · exact (t_maps.keep (Y := fun b => b < w.heap.size + 3) (by exact frx) (fun _ h => h) (fun _ _ _ h9 => h9.keep (Y := fun b => b < w.heap.size + 3) (by exact frx) (fun _ h => h))).weaken (fun b hb => Nat.lt_add_right 3 hb) (fun _ _ _ h9 => h9.weaken (fun b hb => Nat.lt_add_right 3 hb))
theorem toMth_go (X : Nat → Prop) (x : Mth) (cs : List Value) (w : World) (h : MthC X w cs x) (hs : szMth x ≤ 1048576) :
    Calls Tryz.prog 240 #[.agg cs.toArray] w (ToPost MthC x w) :=
  (toNMth_go X x cs w h hs).mono fun _ _ ⟨x, h1, h2, h3, _⟩ => ⟨x, h1, h2, h3⟩

theorem info_Mth : (Tryz.prog.info? 87).map (fun i => (i.zero, i.size, i.bytes)) = some (some (.agg #[.string ⟨#[]⟩, .slice none 0 0, .int .i64 0, .string ⟨#[]⟩, .int .i64 0, .int .i64 0, .slice none 0 0, .slice none 0 0]), 8, 128) := by kernel_rfl
set_option maxRecDepth 100000 in
set_option maxHeartbeats 2000000 in
theorem toNMthS_go (X : Nat → Prop) (v : Value) (xs : List Mth) (w : World) (h : Sl X w 8 (MthC X w) v xs) (hs : szL szMth xs ≤ 1048576) :
    Calls Tryz.prog 219 #[v] w (ToSPostN 8 MthC xs w) := by
  have hlen : xs.length ≤ 1048576 := by have := szL_len szMth xs; omega
  obtain ⟨A, cap, rfl, _, _⟩ := h.form
  have hmk := fun W => run_make_n 77 87 _ _ _ Tryz.underlying77 info_Mth xs.length (by omega) (by omega) W
  go_enter Tryz.func219, Tryz.ntmps219
  go_wp2
  have hF0 : Fill (w.alloc (.cells (madeCells #[.string ⟨#[]⟩, .slice none 0 0, .int .i64 0, .string ⟨#[]⟩, .int .i64 0, .int .i64 0, .slice none 0 0, .slice none 0 0] (xs.length * 8)) 87)) w.heap.size 87 8 xs.length 0 (MthC (fun b => b < w.heap.size + 1) (w.alloc (.cells (madeCells #[.string ⟨#[]⟩, .slice none 0 0, .int .i64 0, .string ⟨#[]⟩, .int .i64 0, .int .i64 0, .slice none 0 0, .slice none 0 0] (xs.length * 8)) 87))) xs := Fill.start (Bx.new _ _ _) (size_madeCells _ _)
  clear hmk
  go_loopw [4] (fun i wr => ∃ k : Nat, k ≤ xs.length ∧ i = .int .i64 k ∧ Fill wr w.heap.size 87 8 xs.length k (MthC (fun b => b < w.heap.size + 1) wr) xs ∧ Fr No w wr ∧ NF w wr) (fun i _ => xs.length - (intOf i).toNat)
  case atStart => exact ⟨0, Nat.zero_le _, rfl, hF0, by exact frc, by exact nfc⟩
  case round =>
    clear hF0
    obtain ⟨k, hk, rfl, hF, hf, nf0⟩ := hrel
    by_cases hlt : k < xs.length
    · obtain ⟨b, off, A_args, c_args, A_code, c_code, A_maps, c_maps, rfl, hX, c0, c1, c2, c3, c4, c5, c6, c7, z0, z1, h_args, h_code, h_maps, _, _, _, _, _, _⟩ := (h.keep hf (fun _ h => h.elim) (fun _ _ _ h9 => h9.keep hf (fun _ h => h.elim))).mth hlt
      have H := toNMth_go X xs[k] _ wr (show MthC X wr [.string xs[k].name, .slice A_args xs[k].args.length c_args, .int .i64 xs[k].ret.kind, .string xs[k].ret.name, .int .i64 xs[k].locals, .int .i64 xs[k].stack, .slice A_code xs[k].code.length c_code, .slice A_maps xs[k].maps.length c_maps] xs[k] from ⟨_, _, _, rfl, z0, z1, h_args, h_code, h_maps⟩) (by have := szL_mem szMth xs k hlt; omega)
      clear h
      go_wp2_with fail
      refine H.mono ?_
      rintro e w1 ⟨cs1, rfl, ⟨u_args, u_code, u_maps, rfl, y0, y1, g_args, g_code, g_maps⟩, hf1, nf1⟩
      obtain ⟨B_args, d_args, rfl, _, _⟩ := g_args.form
      obtain ⟨B_code, d_code, rfl, _, _⟩ := g_code.form
      obtain ⟨B_maps, d_maps, rfl, _, _⟩ := g_maps.form
      have hF1 := hF.keep hf1 (fun h => h) (fun _ _ _ h => h.keep hf1 (fun _ h => h.elim))
      have hgl : ∀ b, b < w.heap.size + 1 → b < wr.heap.size := fun b hb => by have := hF.lt; omega
      have hR1 : MthC (fun b => b < w.heap.size + 1) w1 [.string xs[k].name, .slice B_args xs[k].args.length d_args, .int .i64 xs[k].ret.kind, .string xs[k].ret.name, .int .i64 xs[k].locals, .int .i64 xs[k].stack, .slice B_code xs[k].code.length d_code, .slice B_maps xs[k].maps.length d_maps] xs[k] := (show MthC (fun b => b < wr.heap.size) w1 [.string xs[k].name, .slice B_args xs[k].args.length d_args, .int .i64 xs[k].ret.kind, .string xs[k].ret.name, .int .i64 xs[k].locals, .int .i64 xs[k].stack, .slice B_code xs[k].code.length d_code, .slice B_maps xs[k].maps.length d_maps] xs[k] from ⟨_, _, _, rfl, y0, y1, g_args, g_code, g_maps⟩).weaken hgl
      obtain ⟨o0, ho0⟩ := hF1.cell? (o := k * 8) (by omega)
      obtain ⟨o1, ho1⟩ := hF1.cell? (o := k * 8 + 1) (by omega)
      obtain ⟨o2, ho2⟩ := hF1.cell? (o := k * 8 + 2) (by omega)
      obtain ⟨o3, ho3⟩ := hF1.cell? (o := k * 8 + 3) (by omega)
      obtain ⟨o4, ho4⟩ := hF1.cell? (o := k * 8 + 4) (by omega)
      obtain ⟨o5, ho5⟩ := hF1.cell? (o := k * 8 + 5) (by omega)
      obtain ⟨o6, ho6⟩ := hF1.cell? (o := k * 8 + 6) (by omega)
      obtain ⟨o7, ho7⟩ := hF1.cell? (o := k * 8 + 7) (by omega)
      have hfz := fun o => hF1.frozen o
      clear c0 c1 c2 c3 c4 c5 c6 c7 H hF
      have hF1 := Lib.hid hF1
      go_wp2
      go_roundw
      case rel => exact ⟨k + 1, by omega, by go_num, (hF1.out.step (cs := [.string xs[k].name, .slice B_args xs[k].args.length d_args, .int .i64 xs[k].ret.kind, .string xs[k].ret.name, .int .i64 xs[k].locals, .int .i64 xs[k].stack, .slice B_code xs[k].code.length d_code, .slice B_maps xs[k].maps.length d_maps]) hlt hlt hR1 rfl).keep (Fr.refl No _) (fun h => h) (fun _ _ _ h => h.keep (Y := fun b => b < w.heap.size + 1) (by exact frx) (fun _ h => h)), by exact frc, by exact nfc⟩
      case measure => simp [intOf]; omega
    · have he : k = xs.length := by omega
      subst he
      clear h
      have hF := Lib.hid hF
      go_wp2
      go_ret
      have hF := hF.out
      exact ⟨_, rfl, (hF.done (X := fun b => b < w.heap.size) (by omega) (by unfold maxLen; omega)).weaken (fun _ h => h) (fun _ _ _ h => h.weaken (fun b hb => Nat.lt_add_right 1 hb)), by exact frc, by exact nfc⟩
theorem toMthS_go (X : Nat → Prop) (v : Value) (xs : List Mth) (w : World) (h : Sl X w 8 (MthC X w) v xs) (hs : szL szMth xs ≤ 1048576) :
    Calls Tryz.prog 219 #[v] w (ToSPost 8 MthC xs w) :=
  (toNMthS_go X v xs w h hs).mono fun _ _ ⟨x, h1, h2, h3, _⟩ => ⟨x, h1, h2, h3⟩

set_option maxRecDepth 100000 in
set_option maxHeartbeats 2000000 in
theorem toNCls_go (X : Nat → Prop) (x : Cls) (cs : List Value) (w : World) (h : ClsC X w cs x) (hs : szCls x ≤ 1048576) :
    Calls Tryz.prog 187 #[.agg cs.toArray] w (ToPostN ClsC x w) := by
  obtain ⟨v_fields, v_methods, rfl, z0, z1, h_fields, h_methods⟩ := h
  unfold szCls at hs
  have H_fields := fun W (h : Fr No w W) => toNFldS_go X _ x.fields W (h_fields.keep h (fun _ h => h.elim) (fun _ _ _ h => h)) (by omega)
  have H_methods := fun W (h : Fr No w W) => toNMthS_go X _ x.methods W (h_methods.keep h (fun _ h => h.elim) (fun _ _ _ h9 => h9.keep h (fun _ h => h.elim))) (by omega)
  obtain ⟨A_fields, c_fields, rfl, _, _⟩ := h_fields.form
  clear h_fields
  obtain ⟨A_methods, c_methods, rfl, _, _⟩ := h_methods.form
  clear h_methods
  clear hs
  go_enter Tryz.func187, Tryz.ntmps187
  go_wp2_with fail
  refine (H_fields _ ?_).mono ?_
  · exact frc
  rintro e w1 ⟨v1, rfl, s_fields, hf1, nf1⟩
  obtain ⟨B_fields, d_fields, rfl, _, _⟩ := s_fields.form
  have t_fields := s_fields.weaken (Y := fun b => b < w.heap.size + 3) (fun b (hb : b < w.heap.size + 3) => Nat.lt_of_lt_of_le hb (by first | (simp; done) | (simp; omega))) (fun _ _ _ h => h)
  clear s_fields
  have hb1 : Bx w1 w.heap.size 249 #[.string x.name, .string x.super, .slice A_fields x.fields.length c_fields, .slice A_methods x.methods.length c_methods] := Bx.keepTo w1 (by exact bxc) hf1
  have hr1 : Bx w1 (w.heap.size + 1) 79 #[.string ⟨#[]⟩, .string ⟨#[]⟩, .slice none 0 0, .slice none 0 0] := Bx.keepTo w1 (by exact bxc) hf1
  have ho1 : Bx w1 (w.heap.size + 1 + 1) 79 #[.string x.name, .string x.super, .slice none 0 0, .slice none 0 0] := Bx.keepTo w1 (by exact bxc) hf1
  obtain ⟨a1_0, a1_1, a1_2, a1_3⟩ := hb1.c4
  obtain ⟨b1_0, b1_1, b1_2, b1_3⟩ := hr1.c4
  obtain ⟨c1_0, c1_1, c1_2, c1_3⟩ := ho1.c4
  have fr1 := fun j => hr1.frozen j
  have fo1 := fun j => ho1.frozen j
  go_wp2_with fail
  refine (H_methods _ ?_).mono ?_
  · exact frc
  rintro e w2 ⟨v2, rfl, s_methods, hf2, nf2⟩
  obtain ⟨B_methods, d_methods, rfl, _, _⟩ := s_methods.form
  have hlo := ho1.lt
  have t_methods := s_methods.weaken (Y := fun b => b < w.heap.size + 3) (fun b (hb : b < w.heap.size + 3) => Nat.lt_of_lt_of_le hb (by first | (simp; done) | (simp; omega))) (fun _ _ _ h9 => h9.weaken (fun b (hb : b < w.heap.size + 3) => Nat.lt_of_lt_of_le hb (by first | (simp; done) | (simp; omega))))
  clear s_methods hlo
  have hb2 : Bx w2 w.heap.size 249 #[.string x.name, .string x.super, .slice A_fields x.fields.length c_fields, .slice A_methods x.methods.length c_methods] := Bx.keepTo w2 (by exact bxc) hf2
  have hr2 : Bx w2 (w.heap.size + 1) 79 #[.string ⟨#[]⟩, .string ⟨#[]⟩, .slice none 0 0, .slice none 0 0] := Bx.keepTo w2 (by exact bxc) hf2
  have ho2 : Bx w2 (w.heap.size + 1 + 1) 79 #[.string x.name, .string x.super, .slice B_fields x.fields.length d_fields, .slice none 0 0] := Bx.keepTo w2 (by exact bxc) hf2
  clear a1_0 a1_1 a1_2 a1_3 b1_0 b1_1 b1_2 b1_3 c1_0 c1_1 c1_2 c1_3 fr1 fo1 hb1 hr1 ho1
  obtain ⟨a2_0, a2_1, a2_2, a2_3⟩ := hb2.c4
  obtain ⟨b2_0, b2_1, b2_2, b2_3⟩ := hr2.c4
  obtain ⟨c2_0, c2_1, c2_2, c2_3⟩ := ho2.c4
  have fr2 := fun j => hr2.frozen j
  have fo2 := fun j => ho2.frozen j
  go_wp2
  refine bodyPost_ret (v := .agg #[.string x.name, .string x.super, .slice B_fields x.fields.length d_fields, .slice B_methods x.methods.length d_methods]) (by simp [results, Tryz.results187, go_sem, *]) rfl ?_
  refine ⟨_, rfl, ⟨_, _, rfl, z0, z1, ?_, ?_⟩, by exact frc, by exact nfc⟩
  · exact (t_fields.keep (Y := fun b => b < w.heap.size + 3) (by exact frx) (fun _ h => h) (fun _ _ _ h => h)).weaken (fun b hb => Nat.lt_add_right 3 hb) (fun _ _ _ h => h)
  · exact (t_methods.keep (Y := fun b => b < w.heap.size + 3) (by exact frx) (fun _ h => h) (fun _ _ _ h9 => h9.keep (Y := fun b => b < w.heap.size + 3) (by exact frx) (fun _ h => h))).weaken (fun b hb => Nat.lt_add_right 3 hb) (fun _ _ _ h9 => h9.weaken (fun b hb => Nat.lt_add_right 3 hb))
theorem toCls_go (X : Nat → Prop) (x : Cls) (cs : List Value) (w : World) (h : ClsC X w cs x) (hs : szCls x ≤ 1048576) :
    Calls Tryz.prog 187 #[.agg cs.toArray] w (ToPost ClsC x w) :=
  (toNCls_go X x cs w h hs).mono fun _ _ ⟨x, h1, h2, h3, _⟩ => ⟨x, h1, h2, h3⟩

theorem info_Cls : (Tryz.prog.info? 79).map (fun i => (i.zero, i.size, i.bytes)) = some (some (.agg #[.string ⟨#[]⟩, .string ⟨#[]⟩, .slice none 0 0, .slice none 0 0]), 4, 80) := by kernel_rfl
set_option maxRecDepth 100000 in
set_option maxHeartbeats 2000000 in
theorem toNClsS_go (X : Nat → Prop) (v : Value) (xs : List Cls) (w : World) (h : Sl X w 4 (ClsC X w) v xs) (hs : szL szCls xs ≤ 1048576) :
    Calls Tryz.prog 132 #[v] w (ToSPostN 4 ClsC xs w) := by
  have hlen : xs.length ≤ 1048576 := by have := szL_len szCls xs; omega
  obtain ⟨A, cap, rfl, _, _⟩ := h.form
  have hmk := fun W => run_make_n 140 79 _ _ _ Tryz.underlying140 info_Cls xs.length (by omega) (by omega) W
  go_enter Tryz.func132, Tryz.ntmps132
  go_wp2
  have hF0 : Fill (w.alloc (.cells (madeCells #[.string ⟨#[]⟩, .string ⟨#[]⟩, .slice none 0 0, .slice none 0 0] (xs.length * 4)) 79)) w.heap.size 79 4 xs.length 0 (ClsC (fun b => b < w.heap.size + 1) (w.alloc (.cells (madeCells #[.string ⟨#[]⟩, .string ⟨#[]⟩, .slice none 0 0, .slice none 0 0] (xs.length * 4)) 79))) xs := Fill.start (Bx.new _ _ _) (size_madeCells _ _)
  clear hmk
  go_loopw [4] (fun i wr => ∃ k : Nat, k ≤ xs.length ∧ i = .int .i64 k ∧ Fill wr w.heap.size 79 4 xs.length k (ClsC (fun b => b < w.heap.size + 1) wr) xs ∧ Fr No w wr ∧ NF w wr) (fun i _ => xs.length - (intOf i).toNat)
  case atStart => exact ⟨0, Nat.zero_le _, rfl, hF0, by exact frc, by exact nfc⟩
  case round =>
    clear hF0
    obtain ⟨k, hk, rfl, hF, hf, nf0⟩ := hrel
    by_cases hlt : k < xs.length
    · obtain ⟨b, off, A_fields, c_fields, A_methods, c_methods, rfl, hX, c0, c1, c2, c3, z0, z1, h_fields, h_methods, _, _, _, _⟩ := (h.keep hf (fun _ h => h.elim) (fun _ _ _ h9 => h9.keep hf (fun _ h => h.elim))).cls hlt
      have H := toNCls_go X xs[k] _ wr (show ClsC X wr [.string xs[k].name, .string xs[k].super, .slice A_fields xs[k].fields.length c_fields, .slice A_methods xs[k].methods.length c_methods] xs[k] from ⟨_, _, rfl, z0, z1, h_fields, h_methods⟩) (by have := szL_mem szCls xs k hlt; omega)
      clear h
      go_wp2_with fail
      refine H.mono ?_
      rintro e w1 ⟨cs1, rfl, ⟨u_fields, u_methods, rfl, y0, y1, g_fields, g_methods⟩, hf1, nf1⟩
      obtain ⟨B_fields, d_fields, rfl, _, _⟩ := g_fields.form
      obtain ⟨B_methods, d_methods, rfl, _, _⟩ := g_methods.form
      have hF1 := hF.keep hf1 (fun h => h) (fun _ _ _ h => h.keep hf1 (fun _ h => h.elim))
      have hgl : ∀ b, b < w.heap.size + 1 → b < wr.heap.size := fun b hb => by have := hF.lt; omega
      have hR1 : ClsC (fun b => b < w.heap.size + 1) w1 [.string xs[k].name, .string xs[k].super, .slice B_fields xs[k].fields.length d_fields, .slice B_methods xs[k].methods.length d_methods] xs[k] := (show ClsC (fun b => b < wr.heap.size) w1 [.string xs[k].name, .string xs[k].super, .slice B_fields xs[k].fields.length d_fields, .slice B_methods xs[k].methods.length d_methods] xs[k] from ⟨_, _, rfl, y0, y1, g_fields, g_methods⟩).weaken hgl
      obtain ⟨o0, ho0⟩ := hF1.cell? (o := k * 4) (by omega)
      obtain ⟨o1, ho1⟩ := hF1.cell? (o := k * 4 + 1) (by omega)
      obtain ⟨o2, ho2⟩ := hF1.cell? (o := k * 4 + 2) (by omega)
      obtain ⟨o3, ho3⟩ := hF1.cell? (o := k * 4 + 3) (by omega)
      have hfz := fun o => hF1.frozen o
      clear c0 c1 c2 c3 H hF
      have hF1 := Lib.hid hF1
      go_wp2
      go_roundw
      case rel => exact ⟨k + 1, by omega, by go_num, (hF1.out.step (cs := [.string xs[k].name, .string xs[k].super, .slice B_fields xs[k].fields.length d_fields, .slice B_methods xs[k].methods.length d_methods]) hlt hlt hR1 rfl).keep (Fr.refl No _) (fun h => h) (fun _ _ _ h => h.keep (Y := fun b => b < w.heap.size + 1) (by exact frx) (fun _ h => h)), by exact frc, by exact nfc⟩
      case measure => simp [intOf]; omega
    · have he : k = xs.length := by omega
      subst he
      clear h
      have hF := Lib.hid hF
      go_wp2
      go_ret
      have hF := hF.out
      exact ⟨_, rfl, (hF.done (X := fun b => b < w.heap.size) (by omega) (by unfold maxLen; omega)).weaken (fun _ h => h) (fun _ _ _ h => h.weaken (fun b hb => Nat.lt_add_right 1 hb)), by exact frc, by exact nfc⟩
theorem toClsS_go (X : Nat → Prop) (v : Value) (xs : List Cls) (w : World) (h : Sl X w 4 (ClsC X w) v xs) (hs : szL szCls xs ≤ 1048576) :
    Calls Tryz.prog 132 #[v] w (ToSPost 4 ClsC xs w) :=
  (toNClsS_go X v xs w h hs).mono fun _ _ ⟨x, h1, h2, h3, _⟩ => ⟨x, h1, h2, h3⟩

set_option maxRecDepth 100000 in
set_option maxHeartbeats 2000000 in
theorem toNAsk_go (x : Ask) (cs : List Value) (w : World) (h : AskC cs x) :
    Calls Tryz.prog 188 #[.agg cs.toArray] w (GivesN (.agg cs.toArray) w) := by
  obtain ⟨rfl, z0⟩ := h
  go_enter Tryz.func188, Tryz.ntmps188
  go_wp2
  refine bodyPost_ret (v := .agg #[.string x.name, .int .i64 x.keeper]) (by simp [results, Tryz.results188, go_sem]) rfl ?_
  exact .mk rfl (by exact frc) (by exact nfc)
theorem toAsk_go (x : Ask) (cs : List Value) (w : World) (h : AskC cs x) :
    Calls Tryz.prog 188 #[.agg cs.toArray] w (Gives (.agg cs.toArray) w) :=
  (toNAsk_go x cs w h).mono fun _ _ h => ⟨h.1, h.2.1⟩

theorem info_Ask : (Tryz.prog.info? 213).map (fun i => (i.zero, i.size, i.bytes)) = some (some (.agg #[.string ⟨#[]⟩, .int .i64 0]), 2, 24) := by kernel_rfl
set_option maxRecDepth 100000 in
set_option maxHeartbeats 2000000 in
theorem toNAskS_go (X : Nat → Prop) (v : Value) (xs : List Ask) (w : World) (h : Sl X w 2 AskC v xs) (hs : szL szAsk xs ≤ 1048576) :
    Calls Tryz.prog 133 #[v] w (ToSPostN 2 (fun _ _ => AskC) xs w) := by
  have hlen : xs.length ≤ 1048576 := by have := szL_len szAsk xs; omega
  obtain ⟨A, cap, rfl, _, _⟩ := h.form
  have hmk := fun W => run_make_n 141 213 _ _ _ Tryz.underlying141 info_Ask xs.length (by omega) (by omega) W
  go_enter Tryz.func133, Tryz.ntmps133
  go_wp2
  have hF0 : Fill (w.alloc (.cells (madeCells #[.string ⟨#[]⟩, .int .i64 0] (xs.length * 2)) 213)) w.heap.size 213 2 xs.length 0 AskC xs := Fill.start (Bx.new _ _ _) (size_madeCells _ _)
  clear hmk
  go_loopw [4] (fun i wr => ∃ k : Nat, k ≤ xs.length ∧ i = .int .i64 k ∧ Fill wr w.heap.size 213 2 xs.length k AskC xs ∧ Fr No w wr ∧ NF w wr) (fun i _ => xs.length - (intOf i).toNat)
  case atStart => exact ⟨0, Nat.zero_le _, rfl, hF0, by exact frc, by exact nfc⟩
  case round =>
    clear hF0
    obtain ⟨k, hk, rfl, hF, hf, nf0⟩ := hrel
    by_cases hlt : k < xs.length
    · obtain ⟨b, off, rfl, hX, c0, c1, z0⟩ := (h.keep hf (fun _ h => h.elim) (fun _ _ _ h => h)).ask hlt
      have H := fun W => toNAsk_go xs[k] _ W ⟨rfl, z0⟩
      clear h
      go_wp2_with fail
      refine (H _).mono ?_
      rintro e w1 ⟨rfl, hf1, nf1⟩
      have hF1 := hF.keep hf1 (fun h => h) (fun _ _ _ h => h)
      obtain ⟨o0, ho0⟩ := hF1.cell? (o := k * 2) (by omega)
      obtain ⟨o1, ho1⟩ := hF1.cell? (o := k * 2 + 1) (by omega)
      have hfz := fun o => hF1.frozen o
      clear c0 c1 H hF
      have hF1 := Lib.hid hF1
      go_wp2
      go_roundw
      case rel => exact ⟨k + 1, by omega, by go_num, hF1.out.step (cs := [.string xs[k].name, .int .i64 xs[k].keeper]) hlt hlt ⟨rfl, z0⟩ rfl, by exact frc, by exact nfc⟩
      case measure => simp [intOf]; omega
    · have he : k = xs.length := by omega
      subst he
      clear h
      have hF := Lib.hid hF
      go_wp2
      go_ret
      have hF := hF.out
      exact ⟨_, rfl, hF.done (X := fun b => b < w.heap.size) (by omega) (by unfold maxLen; omega), by exact frc, by exact nfc⟩
theorem toAskS_go (X : Nat → Prop) (v : Value) (xs : List Ask) (w : World) (h : Sl X w 2 AskC v xs) (hs : szL szAsk xs ≤ 1048576) :
    Calls Tryz.prog 133 #[v] w (ToSPost 2 (fun _ _ => AskC) xs w) :=
  (toNAskS_go X v xs w h hs).mono fun _ _ ⟨x, h1, h2, h3, _⟩ => ⟨x, h1, h2, h3⟩

set_option maxRecDepth 100000 in
set_option maxHeartbeats 2000000 in
theorem toNKpr_go (X : Nat → Prop) (x : Kpr) (cs : List Value) (w : World) (h : KprC X w cs x) (hs : szKpr x ≤ 1048576) :
    Calls Tryz.prog 85 #[.agg cs.toArray] w (ToPostN KprC x w) := by
  obtain ⟨v_owns, v_asks, rfl, h_owns, h_asks⟩ := h
  unfold szKpr at hs
  have H_owns := fun W (h : Fr No w W) => toNClsS_go X _ x.owns W (h_owns.keep h (fun _ h => h.elim) (fun _ _ _ h9 => h9.keep h (fun _ h => h.elim))) (by omega)
  have H_asks := fun W (h : Fr No w W) => toNAskS_go X _ x.asks W (h_asks.keep h (fun _ h => h.elim) (fun _ _ _ h => h)) (by omega)
  obtain ⟨A_owns, c_owns, rfl, _, _⟩ := h_owns.form
  clear h_owns
  obtain ⟨A_asks, c_asks, rfl, _, _⟩ := h_asks.form
  clear h_asks
  clear hs
  go_enter Tryz.func85, Tryz.ntmps85
  go_wp2_with fail
  refine (H_owns _ ?_).mono ?_
  · exact frc
  rintro e w1 ⟨v1, rfl, s_owns, hf1, nf1⟩
  obtain ⟨B_owns, d_owns, rfl, _, _⟩ := s_owns.form
  have t_owns := s_owns.weaken (Y := fun b => b < w.heap.size + 3) (fun b (hb : b < w.heap.size + 3) => Nat.lt_of_lt_of_le hb (by first | (simp; done) | (simp; omega))) (fun _ _ _ h9 => h9.weaken (fun b (hb : b < w.heap.size + 3) => Nat.lt_of_lt_of_le hb (by first | (simp; done) | (simp; omega))))
  clear s_owns
  have hb1 : Bx w1 w.heap.size 138 #[.slice A_owns x.owns.length c_owns, .slice A_asks x.asks.length c_asks] := Bx.keepTo w1 (by exact bxc) hf1
  have hr1 : Bx w1 (w.heap.size + 1) 143 #[.slice none 0 0, .slice none 0 0] := Bx.keepTo w1 (by exact bxc) hf1
  have ho1 : Bx w1 (w.heap.size + 1 + 1) 143 #[.slice none 0 0, .slice none 0 0] := Bx.keepTo w1 (by exact bxc) hf1
  obtain ⟨a1_0, a1_1⟩ := hb1.c2
  obtain ⟨b1_0, b1_1⟩ := hr1.c2
  obtain ⟨c1_0, c1_1⟩ := ho1.c2
  have fr1 := fun j => hr1.frozen j
  have fo1 := fun j => ho1.frozen j
  go_wp2_with fail
  refine (H_asks _ ?_).mono ?_
  · exact frc
  rintro e w2 ⟨v2, rfl, s_asks, hf2, nf2⟩
  obtain ⟨B_asks, d_asks, rfl, _, _⟩ := s_asks.form
  have hlo := ho1.lt
  have t_asks := s_asks.weaken (Y := fun b => b < w.heap.size + 3) (fun b (hb : b < w.heap.size + 3) => Nat.lt_of_lt_of_le hb (by first | (simp; done) | (simp; omega))) (fun _ _ _ h => h)
  clear s_asks hlo
  have hb2 : Bx w2 w.heap.size 138 #[.slice A_owns x.owns.length c_owns, .slice A_asks x.asks.length c_asks] := Bx.keepTo w2 (by exact bxc) hf2
  have hr2 : Bx w2 (w.heap.size + 1) 143 #[.slice none 0 0, .slice none 0 0] := Bx.keepTo w2 (by exact bxc) hf2
  have ho2 : Bx w2 (w.heap.size + 1 + 1) 143 #[.slice B_owns x.owns.length d_owns, .slice none 0 0] := Bx.keepTo w2 (by exact bxc) hf2
  clear a1_0 a1_1 b1_0 b1_1 c1_0 c1_1 fr1 fo1 hb1 hr1 ho1
  obtain ⟨a2_0, a2_1⟩ := hb2.c2
  obtain ⟨b2_0, b2_1⟩ := hr2.c2
  obtain ⟨c2_0, c2_1⟩ := ho2.c2
  have fr2 := fun j => hr2.frozen j
  have fo2 := fun j => ho2.frozen j
  go_wp2
  refine bodyPost_ret (v := .agg #[.slice B_owns x.owns.length d_owns, .slice B_asks x.asks.length d_asks]) (by simp [results, Tryz.results85, go_sem, *]) rfl ?_
  refine ⟨_, rfl, ⟨_, _, rfl, ?_, ?_⟩, by exact frc, by exact nfc⟩
  · exact (t_owns.keep (Y := fun b => b < w.heap.size + 3) (by exact frx) (fun _ h => h) (fun _ _ _ h9 => h9.keep (Y := fun b => b < w.heap.size + 3) (by exact frx) (fun _ h => h))).weaken (fun b hb => Nat.lt_add_right 3 hb) (fun _ _ _ h9 => h9.weaken (fun b hb => Nat.lt_add_right 3 hb))
  · exact (t_asks.keep (Y := fun b => b < w.heap.size + 3) (by exact frx) (fun _ h => h) (fun _ _ _ h => h)).weaken (fun b hb => Nat.lt_add_right 3 hb) (fun _ _ _ h => h)
theorem toKpr_go (X : Nat → Prop) (x : Kpr) (cs : List Value) (w : World) (h : KprC X w cs x) (hs : szKpr x ≤ 1048576) :
    Calls Tryz.prog 85 #[.agg cs.toArray] w (ToPost KprC x w) :=
  (toNKpr_go X x cs w h hs).mono fun _ _ ⟨x, h1, h2, h3, _⟩ => ⟨x, h1, h2, h3⟩

theorem info_Kpr : (Tryz.prog.info? 143).map (fun i => (i.zero, i.size, i.bytes)) = some (some (.agg #[.slice none 0 0, .slice none 0 0]), 2, 48) := by kernel_rfl
set_option maxRecDepth 100000 in
set_option maxHeartbeats 2000000 in
theorem toNKprS_go (X : Nat → Prop) (v : Value) (xs : List Kpr) (w : World) (h : Sl X w 2 (KprC X w) v xs) (hs : szL szKpr xs ≤ 1048576) :
    Calls Tryz.prog 40 #[v] w (ToSPostN 2 KprC xs w) := by
  have hlen : xs.length ≤ 1048576 := by have := szL_len szKpr xs; omega
  obtain ⟨A, cap, rfl, _, _⟩ := h.form
  have hmk := fun W => run_make_n 30 143 _ _ _ Tryz.underlying30 info_Kpr xs.length (by omega) (by omega) W
  go_enter Tryz.func40, Tryz.ntmps40
  go_wp2
  have hF0 : Fill (w.alloc (.cells (madeCells #[.slice none 0 0, .slice none 0 0] (xs.length * 2)) 143)) w.heap.size 143 2 xs.length 0 (KprC (fun b => b < w.heap.size + 1) (w.alloc (.cells (madeCells #[.slice none 0 0, .slice none 0 0] (xs.length * 2)) 143))) xs := Fill.start (Bx.new _ _ _) (size_madeCells _ _)
  clear hmk
  go_loopw [4] (fun i wr => ∃ k : Nat, k ≤ xs.length ∧ i = .int .i64 k ∧ Fill wr w.heap.size 143 2 xs.length k (KprC (fun b => b < w.heap.size + 1) wr) xs ∧ Fr No w wr ∧ NF w wr) (fun i _ => xs.length - (intOf i).toNat)
  case atStart => exact ⟨0, Nat.zero_le _, rfl, hF0, by exact frc, by exact nfc⟩
  case round =>
    clear hF0
    obtain ⟨k, hk, rfl, hF, hf, nf0⟩ := hrel
    by_cases hlt : k < xs.length
    · obtain ⟨b, off, A_owns, c_owns, A_asks, c_asks, rfl, hX, c0, c1, h_owns, h_asks, _, _, _, _⟩ := (h.keep hf (fun _ h => h.elim) (fun _ _ _ h9 => h9.keep hf (fun _ h => h.elim))).kpr hlt
      have H := toNKpr_go X xs[k] _ wr (show KprC X wr [.slice A_owns xs[k].owns.length c_owns, .slice A_asks xs[k].asks.length c_asks] xs[k] from ⟨_, _, rfl, h_owns, h_asks⟩) (by have := szL_mem szKpr xs k hlt; omega)
      clear h
      go_wp2_with fail
      refine H.mono ?_
      rintro e w1 ⟨cs1, rfl, ⟨u_owns, u_asks, rfl, g_owns, g_asks⟩, hf1, nf1⟩
      obtain ⟨B_owns, d_owns, rfl, _, _⟩ := g_owns.form
      obtain ⟨B_asks, d_asks, rfl, _, _⟩ := g_asks.form
      have hF1 := hF.keep hf1 (fun h => h) (fun _ _ _ h => h.keep hf1 (fun _ h => h.elim))
      have hgl : ∀ b, b < w.heap.size + 1 → b < wr.heap.size := fun b hb => by have := hF.lt; omega
      have hR1 : KprC (fun b => b < w.heap.size + 1) w1 [.slice B_owns xs[k].owns.length d_owns, .slice B_asks xs[k].asks.length d_asks] xs[k] := (show KprC (fun b => b < wr.heap.size) w1 [.slice B_owns xs[k].owns.length d_owns, .slice B_asks xs[k].asks.length d_asks] xs[k] from ⟨_, _, rfl, g_owns, g_asks⟩).weaken hgl
      obtain ⟨o0, ho0⟩ := hF1.cell? (o := k * 2) (by omega)
      obtain ⟨o1, ho1⟩ := hF1.cell? (o := k * 2 + 1) (by omega)
      have hfz := fun o => hF1.frozen o
      clear c0 c1 H hF
      have hF1 := Lib.hid hF1
      go_wp2
      go_roundw
      case rel => exact ⟨k + 1, by omega, by go_num, (hF1.out.step (cs := [.slice B_owns xs[k].owns.length d_owns, .slice B_asks xs[k].asks.length d_asks]) hlt hlt hR1 rfl).keep (Fr.refl No _) (fun h => h) (fun _ _ _ h => h.keep (Y := fun b => b < w.heap.size + 1) (by exact frx) (fun _ h => h)), by exact frc, by exact nfc⟩
      case measure => simp [intOf]; omega
    · have he : k = xs.length := by omega
      subst he
      clear h
      have hF := Lib.hid hF
      go_wp2
      go_ret
      have hF := hF.out
      exact ⟨_, rfl, (hF.done (X := fun b => b < w.heap.size) (by omega) (by unfold maxLen; omega)).weaken (fun _ h => h) (fun _ _ _ h => h.weaken (fun b hb => Nat.lt_add_right 1 hb)), by exact frc, by exact nfc⟩
theorem toKprS_go (X : Nat → Prop) (v : Value) (xs : List Kpr) (w : World) (h : Sl X w 2 (KprC X w) v xs) (hs : szL szKpr xs ≤ 1048576) :
    Calls Tryz.prog 40 #[v] w (ToSPost 2 KprC xs w) :=
  (toNKprS_go X v xs w h hs).mono fun _ _ ⟨x, h1, h2, h3, _⟩ => ⟨x, h1, h2, h3⟩

set_option maxRecDepth 100000 in
set_option maxHeartbeats 2000000 in
theorem toNPlan_go (X : Nat → Prop) (x : Plan) (cs : List Value) (w : World) (h : PlanC X w cs x) (hs : szPlan x ≤ 1048576) :
    Calls Tryz.prog 11 #[.agg cs.toArray] w (ToPostN PlanC x w) := by
  obtain ⟨v_keepers, rfl, h_keepers⟩ := h
  unfold szPlan at hs
  have H_keepers := fun W (h : Fr No w W) => toNKprS_go X _ x.keepers W (h_keepers.keep h (fun _ h => h.elim) (fun _ _ _ h9 => h9.keep h (fun _ h => h.elim))) (by omega)
  obtain ⟨A_keepers, c_keepers, rfl, _, _⟩ := h_keepers.form
  clear h_keepers
  clear hs
  go_enter Tryz.func11, Tryz.ntmps11
  go_wp2_with fail
  refine (H_keepers _ ?_).mono ?_
  · exact frc
  rintro e w1 ⟨v1, rfl, s_keepers, hf1, nf1⟩
  obtain ⟨B_keepers, d_keepers, rfl, _, _⟩ := s_keepers.form
  have t_keepers := s_keepers.weaken (Y := fun b => b < w.heap.size + 3) (fun b (hb : b < w.heap.size + 3) => Nat.lt_of_lt_of_le hb (by first | (simp; done) | (simp; omega))) (fun _ _ _ h9 => h9.weaken (fun b (hb : b < w.heap.size + 3) => Nat.lt_of_lt_of_le hb (by first | (simp; done) | (simp; omega))))
  clear s_keepers
  have hb1 : Bx w1 w.heap.size 24 #[.slice A_keepers x.keepers.length c_keepers] := Bx.keepTo w1 (by exact bxc) hf1
  have hr1 : Bx w1 (w.heap.size + 1) 32 #[.slice none 0 0] := Bx.keepTo w1 (by exact bxc) hf1
  have ho1 : Bx w1 (w.heap.size + 1 + 1) 32 #[.slice none 0 0] := Bx.keepTo w1 (by exact bxc) hf1
  have a1_0 := hb1.c1
  have b1_0 := hr1.c1
  have c1_0 := ho1.c1
  have fr1 := fun j => hr1.frozen j
  have fo1 := fun j => ho1.frozen j
  go_wp2
  refine bodyPost_ret (v := .agg #[.slice B_keepers x.keepers.length d_keepers]) (by simp [results, Tryz.results11, go_sem, *]) rfl ?_
  refine ⟨_, rfl, ⟨_, rfl, ?_⟩, by exact frc, by exact nfc⟩
  · exact (t_keepers.keep (Y := fun b => b < w.heap.size + 3) (by exact frx) (fun _ h => h) (fun _ _ _ h9 => h9.keep (Y := fun b => b < w.heap.size + 3) (by exact frx) (fun _ h => h))).weaken (fun b hb => Nat.lt_add_right 3 hb) (fun _ _ _ h9 => h9.weaken (fun b hb => Nat.lt_add_right 3 hb))
theorem toPlan_go (X : Nat → Prop) (x : Plan) (cs : List Value) (w : World) (h : PlanC X w cs x) (hs : szPlan x ≤ 1048576) :
    Calls Tryz.prog 11 #[.agg cs.toArray] w (ToPost PlanC x w) :=
  (toNPlan_go X x cs w h hs).mono fun _ _ ⟨x, h1, h2, h3, _⟩ => ⟨x, h1, h2, h3⟩

end Go.Proofs.YthdibgikjekneaaGreat

