/- Whether two keepers mean the same by a method; where a method, a field stands (the program's own search). -/
import Derived.Test.YtghmnkafpnkojaaGreatDoorFnd
namespace Go.Proofs.YtghmnkafpnkojaaGreatDoor
open Go.RowKit

def agreeM (p : Plan) (a b : Int) (m : Mth) : Bool := m.args.all (agreeK p a b) && agreeK p a b m.ret

set_option maxRecDepth 100000 in
set_option maxHeartbeats 4000000 in
theorem agreeMethod_ok (X : Nat → Prop) (l bl n : Nat) (p : Plan) (g : Int → Str → Option Int) (a b : Int) (m : Mth) (cs : List Value) (w : World) (h : Lodge w l bl n p g) (hm : MthC X w cs m) :
    Calls Tryz.prog 39 #[.pointer (some ⟨l, 0, none⟩), .int .i64 a, .int .i64 b, .agg cs.toArray] w (BoolFr (agreeM p a b m) w) := by
  obtain ⟨va, vc, vm, rfl, hn, hrn, ha, hvc, hvm⟩ := hm
  obtain ⟨A, cap, rfl, hcap, hlen⟩ := ha.form
  obtain ⟨Ac, cc, rfl, _, _⟩ := hvc.form
  obtain ⟨Am, cm, rfl, _, _⟩ := hvm.form
  clear hvc hvm
  unfold maxLen at hlen
  have HR := fun W (hW : Fr No w W) => agree_ok l bl n p g a b m.ret W (h.keep hW) hrn
  have hB := Bx.new w 85 #[.string m.name, .slice A m.args.length cap, .int .i64 m.ret.kind, .string m.ret.name, .int .i64 m.locals, .int .i64 m.stack, .slice Ac m.code.length cc, .slice Am m.maps.length cm]
  have hw0 : Fr No w (w.alloc (.cells #[.string m.name, .slice A m.args.length cap, .int .i64 m.ret.kind, .string m.ret.name, .int .i64 m.locals, .int .i64 m.stack, .slice Ac m.code.length cc, .slice Am m.maps.length cm] 85)) := (Fr.refl No w).alloc _
  go_enter Tryz.func39, Tryz.ntmps39
  go_wp2
  go_loopw [14, 8] (fun i r wr => ∃ k : Nat, k ≤ m.args.length ∧ i = .int .i64 k ∧ r = .bool false ∧ Hid (m.args.all (agreeK p a b) = (m.args.drop k).all (agreeK p a b)) ∧
    Bx wr w.heap.size 85 #[.string m.name, .slice A m.args.length cap, .int .i64 m.ret.kind, .string m.ret.name, .int .i64 m.locals, .int .i64 m.stack, .slice Ac m.code.length cc, .slice Am m.maps.length cm] ∧ Fr No w wr) (fun i _ _ => m.args.length - (intOf i).toNat)
  case atStart => exact ⟨0, Nat.zero_le _, rfl, rfl, rfl, hB, hw0⟩
  case round =>
    clear hB hw0
    obtain ⟨k, hk, rfl, rfl, hd, hB', hw⟩ := hrel
    obtain ⟨b0, b1, b2, b3, b4, b5, b6, b7⟩ := hB'.c8
    have hBl := hB'.lt
    by_cases hlt : k < m.args.length
    · obtain ⟨b9, off, rfl, hX, c0, c1, hs⟩ := (ha.keep hw (fun _ h => h.elim) (fun _ _ _ h => h)).knd hlt
      have hbl := lt_of_cell c0
      clear ha HR
      have H := fun W (hW : Fr No wr W) => agree_ok l bl n p g a b m.args[k] W ((h.keep hw).keep hW) hs
      rw [List.drop_eq_getElem_cons hlt, List.all_cons] at hd
      have hd := Lib.hid hd
      generalize m.args[k] = x at *
      clear h
      cases hx : agreeK p a b x
      all_goals
        rw [hx] at H
        have hx := Lib.hid hx
        go_wp2_with (go_at_call 49; refine (H _ (by exact frc)).mono ?_; rintro e w2 ⟨rfl, hf2⟩)
      · have HS : Hid (agreeM p a b m = false) := by show agreeM p a b m = false; unfold agreeM; rw [hd.out.out, hx.out]; rfl
        go_ret; exact .mk (by rw [HS.out]) (by exact frc)
      · go_roundw
        case rel => exact ⟨k + 1, by omega, by go_num, rfl, by have := hd.out.out; rwa [hx.out, Bool.true_and] at this, hB'.keep (((Fr.refl No wr).alloc _).trans0 hf2), by exact frc⟩
        case measure => simp [intOf]; omega
    · have HS : Hid (agreeM p a b m = agreeK p a b m.ret) := by
        show agreeM p a b m = _
        unfold agreeM
        rw [hd.out, List.drop_eq_nil_of_le (by omega)]; rfl
      clear ha hd h
      go_wp2_with (go_at_call 49; refine (HR _ (by exact frc)).mono ?_; rintro e w2 ⟨rfl, hf2⟩)
      go_ret
      exact .mk (by rw [HS.out]) (by exact frc)

set_option maxHeartbeats 400000 in
theorem mAt1_ok (m : Mth) (a c d : Value) (b : Nat) (s : Str) (X : Nat → Prop) (w : World) (hm : MthC X w [.string m.name, a, .int .i64 m.ret.kind, .string m.ret.name, .int .i64 m.locals, .int .i64 m.stack, c, d] m) (hb : Bx w b 9 #[.string s]) :
    Calls Tryz.prog 92 #[.agg #[.string m.name, a, .int .i64 m.ret.kind, .string m.ret.name, .int .i64 m.locals, .int .i64 m.stack, c, d], .pointer (some ⟨b, 0, none⟩)] w (BoolFr (mthIs s m) w) := by
  obtain ⟨va, vc, vm, he, _, _, h1, h2, h3⟩ := hm
  simp only [List.cons.injEq, true_and, and_true] at he
  obtain ⟨rfl, rfl, rfl⟩ := he
  obtain ⟨A, cap, rfl, _, _⟩ := h1.form
  obtain ⟨Ac, cc, rfl, _, _⟩ := h2.form
  obtain ⟨Am, cm, rfl, _, _⟩ := h3.form
  clear h1 h2 h3
  have e0 := hb.c1
  have hl := hb.lt
  unfold mthIs
  go_enter Tryz.func92, Tryz.ntmps92
  go_wp2
  go_ret
  exact .mk rfl (by exact frc)

set_option maxHeartbeats 800000 in
theorem mIndex_ok (X : Nat → Prop) (v : Value) (xs : List Mth) (b : Nat) (s : Str) (w : World) (h : Sl X w 8 (MthC X w) v xs) (hb : Bx w b 9 #[.string s]) :
    Calls Tryz.prog 91 #[v, .func (.func 92) #[] #[.pointer (some ⟨b, 0, none⟩)]] w (IntFr (ixOf (mthIs s) xs) w) := by
  obtain ⟨A, cap, rfl, hcap, hlen⟩ := h.form
  unfold maxLen at hlen
  go_enter Tryz.func91, Tryz.ntmps91
  go_wp2
  go_loopw [8, 4] (fun i r wr => ∃ k : Nat, k ≤ xs.length ∧ i = .int .i64 k ∧ r = .int .i64 0 ∧ Hid ((xs.take k).all (fun x => !mthIs s x) = true) ∧ Fr No w wr) (fun i _ _ => xs.length - (intOf i).toNat)
  case atStart => exact ⟨0, Nat.zero_le _, rfl, rfl, by simp [Hid], Fr.refl _ _⟩
  case round =>
    obtain ⟨k, hk, rfl, rfl, ha, hf⟩ := hrel
    by_cases hlt : k < xs.length
    · obtain ⟨b9, off, Aa, ca, Ac, cc, Ax, cx, rfl, hX, c0, c1, c2, c3, c4, c5, c6, c7, hr1, hr2, hr3, hr4, hr5, _, _, _, _, _, _⟩ := (h.keep hf (fun _ h => h.elim) (fun _ _ _ h => h.keep hf (fun _ h => h.elim))).mth hlt
      have hR : MthC X wr [.string xs[k].name, .slice Aa xs[k].args.length ca, .int .i64 xs[k].ret.kind, .string xs[k].ret.name, .int .i64 xs[k].locals, .int .i64 xs[k].stack, .slice Ac xs[k].code.length cc, .slice Ax xs[k].maps.length cx] xs[k] := ⟨_, _, _, rfl, hr1, hr2, hr3, hr4, hr5⟩
      clear h hr1 hr2 hr3 hr4 hr5
      have H := fun W (hW : Fr No wr W) => mAt1_ok xs[k] _ _ _ b s X W (hR.keep hW (fun _ h => h.elim)) ((hb.keep hf).keep hW)
      clear hR
      have HS : mthIs s xs[k] = false → Hid ((xs.take (k + 1)).all (fun x => !mthIs s x) = true) := fun h => by
        have := all_snoc (fun x => !mthIs s x) xs k hlt
        rw [ha.out, h] at this; exact this
      have HN : mthIs s xs[k] = true → Hid (ixOf (mthIs s) xs = (k : Nat)) := fun h => ixOf_at hlt ha.out h
      have HS := Lib.hid HS
      have HN := Lib.hid HN
      clear ha
      generalize xs[k] = f at *
      cases hq : mthIs s f
      all_goals rw [hq] at H
      · have HS := HS.out hq
        clear HN hq
        go_wp2_with (go_at_call 92; refine (H _ (Fr.refl _ _)).mono ?_; rintro e w2 ⟨rfl, hf2⟩)
        go_roundw
        case rel => exact ⟨k + 1, by omega, by go_num, rfl, HS, by exact frc⟩
        case measure => simp [intOf]; omega
      · have HN := HN.out hq
        clear HS hq
        go_wp2_with (go_at_call 92; refine (H _ (Fr.refl _ _)).mono ?_; rintro e w2 ⟨rfl, hf2⟩)
        go_ret
        exact .mk HN.out.symm (by exact frc)
    · have HS := Lib.hid (ixOf_no (all_yes _ xs k (by omega) ha.out))
      clear h ha
      go_wp2
      go_ret
      exact .mk HS.out.symm (by exact frc)

set_option maxHeartbeats 800000 in
theorem methodAt_ok (X : Nat → Prop) (c : Cls) (cs : List Value) (s : Str) (w : World) (h : ClsC X w cs c) :
    Calls Tryz.prog 68 #[.agg cs.toArray, .string s] w (IntFr (ixOf (mthIs s) c.methods) w) := by
  obtain ⟨vf, vm, rfl, hn, hsn, hf, hm⟩ := h
  obtain ⟨Af, cf, rfl, _, _⟩ := hf.form
  obtain ⟨Am, cm, hvm, _, _⟩ := hm.form
  have H := fun W b (hW : Fr No w W) (hb : Bx W b 9 #[.string s]) => mIndex_ok X vm c.methods b s W (hm.keep hW (fun _ h => h.elim) (fun _ _ _ h => h.keep hW (fun _ h => h.elim))) hb
  subst hvm
  clear hf hm
  go_enter Tryz.func68, Tryz.ntmps68
  go_wp2_with (go_at_call 91; refine (H _ _ (by exact frc) (Bx.new_ (by simp))).mono ?_; rintro e w2 ⟨rfl, hf2⟩)
  go_ret
  exact .mk rfl (by exact frc)
end Go.Proofs.YtghmnkafpnkojaaGreatDoor
