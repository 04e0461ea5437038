/- Whether two keepers mean the same by a method; where a method, a field stands (the program's own search). -/
import Derived.Test.YtbalicnnlfennaaGreatCG9
namespace Go.Proofs.YtbalicnnlfennaaGreat
open Go.RowKit

def agreeM (p : Plan) (a b : Int) (m : Mth) : Bool := m.args.all (agreeK p a b) && agreeK p a b m.ret

set_option maxRecDepth 100000 in
set_option maxHeartbeats 4000000 in
theorem agreeMethod_ok (X : Nat → Prop) (l bl n : Nat) (p : Plan) (g : Int → Str → Option Int) (a b : Int) (m : Mth) (cs : List Value) (w : World) (h : Lodge w l bl n p g) (hm : MthC X w cs m) :
  Calls Tryz.prog 75 #[.pointer (some ⟨l, 0, none⟩), .int .i64 a, .int .i64 b, .agg cs.toArray] w (BoolFr (agreeM p a b m) w) := by
 obtain ⟨va, vc, vm, rfl, hn, hrn, ha, hvc, hvm⟩ := hm
 obtain ⟨A, cap, rfl, hcap, hlen⟩ := ha.form
 obtain ⟨Ac, cc, rfl, _, _⟩ := hvc.form
 obtain ⟨Am, cm, rfl, _, _⟩ := hvm.form
 clear hvc hvm
 unfold maxLen at hlen
 have HR := fun W (hW : Fr No w W) => agree_ok l bl n p g a b m.ret W (h.keep hW) hrn
 have hB := Bx.new w 67 #[.string m.name, .slice A m.args.length cap, .int .i64 m.ret.kind, .string m.ret.name, .int .i64 m.locals, .int .i64 m.stack, .slice Ac m.code.length cc, .slice Am m.maps.length cm]
 have hw0 : Fr No w (w.alloc (.cells #[.string m.name, .slice A m.args.length cap, .int .i64 m.ret.kind, .string m.ret.name, .int .i64 m.locals, .int .i64 m.stack, .slice Ac m.code.length cc, .slice Am m.maps.length cm] 67)) := (Fr.refl No w).alloc _
 go_enter Tryz.func75, Tryz.ntmps75
 go_wp2
 go_loopw [14, 8] (fun i r wr => ∃ k : Nat, k ≤ m.args.length ∧ i = .int .i64 k ∧ r = .bool false ∧ Hid (m.args.all (agreeK p a b) = (m.args.drop k).all (agreeK p a b)) ∧
  Bx wr w.heap.size 67 #[.string m.name, .slice A m.args.length cap, .int .i64 m.ret.kind, .string m.ret.name, .int .i64 m.locals, .int .i64 m.stack, .slice Ac m.code.length cc, .slice Am m.maps.length cm] ∧ Fr No w wr) (fun i _ _ => m.args.length - (intOf i).toNat)
 case atStart => exact ⟨0, Nat.zero_le _, rfl, rfl, rfl, hB, hw0⟩
 case round =>
  clear hB hw0
  obtain ⟨k, hk, rfl, rfl, hd, hB', hw⟩ := hrel
  obtain ⟨b0, b1, b2, b3, b4, b5, b6, b7⟩ := hB'.c8
  have hBl := hB'.lt
  by_cases hlt : k < m.args.length
  ·obtain ⟨b9, off, rfl, hX, c0, c1, hs⟩ := (ha.keep hw (fun _ h => h.elim) (fun _ _ _ h => h)).knd hlt
   have hbl := lt_of_cell c0
   clear ha HR
   have H := fun W (hW : Fr No wr W) => agree_ok l bl n p g a b m.args[k] W ((h.keep hw).keep hW) hs
   rw [List.drop_eq_getElem_cons hlt, List.all_cons] at hd
   have hd := Lib.hid hd
   generalize m.args[k] = x at *
   clear h
   cases hx : agreeK p a b x
   all_goals
    rw [hx] at H
    have hx := Lib.hid hx
    go_wp2_with (go_at_call 116; refine (H _ (by exact frc)).mono ?_; rintro e w2 ⟨rfl, hf2⟩)
   ·have HS : Hid (agreeM p a b m = false) := by show agreeM p a b m = false; unfold agreeM; rw [hd.out.out, hx.out]; rfl
    go_ret; exact .mk (by rw [HS.out]) (by exact frc)
   ·go_roundw
    case rel => exact ⟨k + 1, by omega, by go_num, rfl, by have := hd.out.out; rwa [hx.out, Bool.true_and] at this, hB'.keep (((Fr.refl No wr).alloc _).trans0 hf2), by exact frc⟩
    case measure => simp [intOf]; omega
  ·have HS : Hid (agreeM p a b m = agreeK p a b m.ret) := by
    show agreeM p a b m = _
    unfold agreeM
    rw [hd.out, List.drop_eq_nil_of_le (by omega)]; rfl
   clear ha hd h
   go_wp2_with (go_at_call 116; refine (HR _ (by exact frc)).mono ?_; rintro e w2 ⟨rfl, hf2⟩)
   go_ret
   exact .mk (by rw [HS.out]) (by exact frc)

set_option maxHeartbeats 400000 in
theorem mAt1_ok (m : Mth) (a c d : Value) (b : Nat) (s : Str) (X : Nat → Prop) (w : World) (hm : MthC X w [.string m.name, a, .int .i64 m.ret.kind, .string m.ret.name, .int .i64 m.locals, .int .i64 m.stack, c, d] m) (hb : Bx w b 9 #[.string s]) :
  Calls Tryz.prog 138 #[.agg #[.string m.name, a, .int .i64 m.ret.kind, .string m.ret.name, .int .i64 m.locals, .int .i64 m.stack, c, d], .pointer (some ⟨b, 0, none⟩)] w (BoolFr (mthIs s m) w) := by
 obtain ⟨va, vc, vm, he, _, _, h1, h2, h3⟩ := hm
 simp only [List.cons.injEq, true_and, and_true] at he
 obtain ⟨rfl, rfl, rfl⟩ := he
 obtain ⟨A, cap, rfl, _, _⟩ := h1.form
 obtain ⟨Ac, cc, rfl, _, _⟩ := h2.form
 obtain ⟨Am, cm, rfl, _, _⟩ := h3.form
 clear h1 h2 h3
 have e0 := hb.c1
 have hl := hb.lt
 unfold mthIs
 go_enter Tryz.func138, Tryz.ntmps138
 go_wp2
 go_ret
 exact .mk rfl (by exact frc)

set_option maxHeartbeats 800000 in
theorem mIndex_ok (X : Nat → Prop) (v : Value) (xs : List Mth) (b : Nat) (s : Str) (w : World) (h : Sl X w 8 (MthC X w) v xs) (hb : Bx w b 9 #[.string s]) :
  Calls Tryz.prog 137 #[v, .func (.func 138) #[] #[.pointer (some ⟨b, 0, none⟩)]] w (IntFr (ixOf (mthIs s) xs) w) := by
 obtain ⟨A, cap, rfl, hcap, hlen⟩ := h.form
 unfold maxLen at hlen
 go_enter Tryz.func137, Tryz.ntmps137
 go_wp2
 go_loopw [8, 4] (fun i r wr => ∃ k : Nat, k ≤ xs.length ∧ i = .int .i64 k ∧ r = .int .i64 0 ∧ Hid ((xs.take k).all (fun x => !mthIs s x) = true) ∧ Fr No w wr) (fun i _ _ => xs.length - (intOf i).toNat)
 case atStart => exact ⟨0, Nat.zero_le _, rfl, rfl, by simp [Hid], Fr.refl _ _⟩
 case round =>
  obtain ⟨k, hk, rfl, rfl, ha, hf⟩ := hrel
  by_cases hlt : k < xs.length
  ·obtain ⟨b9, off, Aa, ca, Ac, cc, Ax, cx, rfl, hX, c0, c1, c2, c3, c4, c5, c6, c7, hr1, hr2, hr3, hr4, hr5, _, _, _, _, _, _⟩ := (h.keep hf (fun _ h => h.elim) (fun _ _ _ h => h.keep hf (fun _ h => h.elim))).mth hlt
   have hR : MthC X wr [.string xs[k].name, .slice Aa xs[k].args.length ca, .int .i64 xs[k].ret.kind, .string xs[k].ret.name, .int .i64 xs[k].locals, .int .i64 xs[k].stack, .slice Ac xs[k].code.length cc, .slice Ax xs[k].maps.length cx] xs[k] := ⟨_, _, _, rfl, hr1, hr2, hr3, hr4, hr5⟩
   clear h hr1 hr2 hr3 hr4 hr5
   have H := fun W (hW : Fr No wr W) => mAt1_ok xs[k] _ _ _ b s X W (hR.keep hW (fun _ h => h.elim)) ((hb.keep hf).keep hW)
   clear hR
   have HS : mthIs s xs[k] = false → Hid ((xs.take (k + 1)).all (fun x => !mthIs s x) = true) := fun h => by
    have := all_snoc (fun x => !mthIs s x) xs k hlt
    rw [ha.out, h] at this; exact this
   have HN : mthIs s xs[k] = true → Hid (ixOf (mthIs s) xs = (k : Nat)) := fun h => ixOf_at hlt ha.out h
   have HS := Lib.hid HS
   have HN := Lib.hid HN
   clear ha
   generalize xs[k] = f at *
   cases hq : mthIs s f
   all_goals rw [hq] at H
   ·have HS := HS.out hq
    clear HN hq
    go_wp2_with (go_at_call 138; refine (H _ (Fr.refl _ _)).mono ?_; rintro e w2 ⟨rfl, hf2⟩)
    go_roundw
    case rel => exact ⟨k + 1, by omega, by go_num, rfl, HS, by exact frc⟩
    case measure => simp [intOf]; omega
   ·have HN := HN.out hq
    clear HS hq
    go_wp2_with (go_at_call 138; refine (H _ (Fr.refl _ _)).mono ?_; rintro e w2 ⟨rfl, hf2⟩)
    go_ret
    exact .mk HN.out.symm (by exact frc)
  ·have HS := Lib.hid (ixOf_no (all_yes _ xs k (by omega) ha.out))
   clear h ha
   go_wp2
   go_ret
   exact .mk HS.out.symm (by exact frc)

set_option maxHeartbeats 800000 in
theorem methodAt_ok (X : Nat → Prop) (c : Cls) (cs : List Value) (s : Str) (w : World) (h : ClsC X w cs c) :
  Calls Tryz.prog 115 #[.agg cs.toArray, .string s] w (IntFr (ixOf (mthIs s) c.methods) w) := by
 obtain ⟨vf, vm, rfl, hn, hsn, hf, hm⟩ := h
 obtain ⟨Af, cf, rfl, _, _⟩ := hf.form
 obtain ⟨Am, cm, hvm, _, _⟩ := hm.form
 have H := fun W b (hW : Fr No w W) (hb : Bx W b 9 #[.string s]) => mIndex_ok X vm c.methods b s W (hm.keep hW (fun _ h => h.elim) (fun _ _ _ h => h.keep hW (fun _ h => h.elim))) hb
 subst hvm
 clear hf hm
 go_enter Tryz.func115, Tryz.ntmps115
 go_wp2_with (go_at_call 137; refine (H _ _ (by exact frc) (Bx.new_ (by simp))).mono ?_; rintro e w2 ⟨rfl, hf2⟩)
 go_ret
 exact .mk rfl (by exact frc)
end Go.Proofs.YtbalicnnlfennaaGreat

namespace Go.Proofs.YtbalicnnlfennaaGreat
open Go.RowKit

set_option maxHeartbeats 400000 in
theorem fAt1_ok (m : Fld) (b : Nat) (s : Str) (w : World) (hb : Bx w b 9 #[.string s]) :
  Calls Tryz.prog 145 #[.agg #[.string m.name, .int .i64 m.kind.kind, .string m.kind.name], .pointer (some ⟨b, 0, none⟩)] w (BoolFr (fldIs s m) w) := by
 have e0 := hb.c1
 have hl := hb.lt
 unfold fldIs
 go_enter Tryz.func145, Tryz.ntmps145
 go_wp2
 go_ret
 exact .mk rfl (by exact frc)

set_option maxHeartbeats 800000 in
theorem fIndex_ok (X : Nat → Prop) (v : Value) (xs : List Fld) (b : Nat) (s : Str) (w : World) (h : Sl X w 3 FldC v xs) (hb : Bx w b 9 #[.string s]) :
  Calls Tryz.prog 144 #[v, .func (.func 145) #[] #[.pointer (some ⟨b, 0, none⟩)]] w (IntFr (ixOf (fldIs s) xs) w) := by
 obtain ⟨A, cap, rfl, hcap, hlen⟩ := h.form
 unfold maxLen at hlen
 go_enter Tryz.func144, Tryz.ntmps144
 go_wp2
 go_loopw [8, 4] (fun i r wr => ∃ k : Nat, k ≤ xs.length ∧ i = .int .i64 k ∧ r = .int .i64 0 ∧ Hid ((xs.take k).all (fun x => !fldIs s x) = true) ∧ Fr No w wr) (fun i _ _ => xs.length - (intOf i).toNat)
 case atStart => exact ⟨0, Nat.zero_le _, rfl, rfl, by simp [Hid], Fr.refl _ _⟩
 case round =>
  obtain ⟨k, hk, rfl, rfl, ha, hf⟩ := hrel
  by_cases hlt : k < xs.length
  ·obtain ⟨b9, off, rfl, hX, c0, c1, c2, _, _⟩ := (h.keep hf (fun _ h => h.elim) (fun _ _ _ h => h)).fld hlt
   clear h
   have H := fun W (hW : Fr No wr W) => fAt1_ok xs[k] b s W ((hb.keep hf).keep hW)
   have HS : fldIs s xs[k] = false → Hid ((xs.take (k + 1)).all (fun x => !fldIs s x) = true) := fun h => by
    have := all_snoc (fun x => !fldIs s x) xs k hlt
    rw [ha.out, h] at this; exact this
   have HN : fldIs s xs[k] = true → Hid (ixOf (fldIs s) xs = (k : Nat)) := fun h => ixOf_at hlt ha.out h
   have HS := Lib.hid HS
   have HN := Lib.hid HN
   clear ha
   generalize xs[k] = f at *
   cases hq : fldIs s f
   all_goals rw [hq] at H
   ·have HS := HS.out hq
    clear HN hq
    go_wp2_with (go_at_call 145; refine (H _ (Fr.refl _ _)).mono ?_; rintro e w2 ⟨rfl, hf2⟩)
    go_roundw
    case rel => exact ⟨k + 1, by omega, by go_num, rfl, HS, by exact frc⟩
    case measure => simp [intOf]; omega
   ·have HN := HN.out hq
    clear HS hq
    go_wp2_with (go_at_call 145; refine (H _ (Fr.refl _ _)).mono ?_; rintro e w2 ⟨rfl, hf2⟩)
    go_ret
    exact .mk HN.out.symm (by exact frc)
  ·have HS := Lib.hid (ixOf_no (all_yes _ xs k (by omega) ha.out))
   clear h ha
   go_wp2
   go_ret
   exact .mk HS.out.symm (by exact frc)

set_option maxHeartbeats 800000 in
theorem fieldAt_ok (X : Nat → Prop) (c : Cls) (cs : List Value) (s : Str) (w : World) (h : ClsC X w cs c) :
  Calls Tryz.prog 135 #[.agg cs.toArray, .string s] w (IntFr (ixOf (fldIs s) c.fields) w) := by
 obtain ⟨vf, vm, rfl, hn, hsn, hf, hm⟩ := h
 obtain ⟨Am, cm, rfl, _, _⟩ := hm.form
 obtain ⟨Af, cf, hvm, _, _⟩ := hf.form
 have H := fun W b (hW : Fr No w W) (hb : Bx W b 9 #[.string s]) => fIndex_ok X vf c.fields b s W (hf.keep hW (fun _ h => h.elim) (fun _ _ _ h => h)) hb
 subst hvm
 clear hf hm
 go_enter Tryz.func135, Tryz.ntmps135
 go_wp2_with (go_at_call 144; refine (H _ _ (by exact frc) (Bx.new_ (by simp))).mono ?_; rintro e w2 ⟨rfl, hf2⟩)
 go_ret
 exact .mk rfl (by exact frc)

def kEq (a b : Knd) : Bool := (a.kind == b.kind) && (a.name.toList == b.name.toList)
def ksEq : List Knd → List Knd → Bool
 | [], [] => true
 | a :: as', b :: bs => kEq a b && ksEq as' bs
 | _, _ => false
theorem ksEq_len : ∀ {xs ys : List Knd}, xs.length ≠ ys.length → ksEq xs ys = false
 | [], [], h => absurd rfl h
 | [], _ :: _, _ => rfl
 | _ :: _, [], _ => rfl
 | a :: as', b :: bs, h => by rw [ksEq, ksEq_len (by simpa using h)]; simp
set_option maxRecDepth 100000 in
set_option maxHeartbeats 2000000 in
theorem kEqual_ok (X Y : Nat → Prop) (v u : Value) (xs ys : List Knd) (w : World) (h : Sl X w 2 KndC v xs) (g : Sl Y w 2 KndC u ys) :
  Calls Tryz.prog 136 #[v, u] w (BoolFr (ksEq xs ys) w) := by
 obtain ⟨A, cap, rfl, hcap, hlen⟩ := h.form
 obtain ⟨B, cap2, rfl, hcap2, hlen2⟩ := g.form
 unfold maxLen at hlen hlen2
 by_cases hll : xs.length = ys.length
 ·go_enter Tryz.func136, Tryz.ntmps136
  rw [← hll]
  replace hll := Lib.hid hll
  go_wp2
  go_loopw [13, 4] (fun i r wr => ∃ k : Nat, k ≤ xs.length ∧ i = .int .i64 k ∧ r = .bool false ∧ Hid (ksEq xs ys = ksEq (xs.drop k) (ys.drop k)) ∧ Fr No w wr) (fun i _ _ => xs.length - (intOf i).toNat)
  case atStart => exact ⟨0, Nat.zero_le _, rfl, rfl, rfl, Fr.refl _ _⟩
  case round =>
   obtain ⟨k, hk, rfl, rfl, hd, hf⟩ := hrel
   by_cases hlt : k < xs.length
   ·have hlt2 : k < ys.length := by have := hll.out; omega
    obtain ⟨b, off, rfl, hX, c0, c1, _⟩ := (h.keep hf (fun _ h => h.elim) (fun _ _ _ h => h)).knd hlt
    obtain ⟨b2, off2, rfl, hX2, d0, d1, _⟩ := (g.keep hf (fun _ h => h.elim) (fun _ _ _ h => h)).knd hlt2
    rw [List.drop_eq_getElem_cons hlt, List.drop_eq_getElem_cons hlt2, ksEq] at hd
    have hd := Lib.hid hd
    clear h g
    generalize xs[k] = x at *
    generalize ys[k] = y at *
    have q0 := fun W (h : Fr No wr W) => h.keep0 c0
    have q1 := fun W (h : Fr No wr W) => h.keep0 c1
    have p0 := fun W (h : Fr No wr W) => h.keep0 d0
    have p1 := fun W (h : Fr No wr W) => h.keep0 d1
    have hcase : ((x.kind == y.kind) = true ∧ (x.name.toList == y.name.toList) = true) ∨ ((x.kind == y.kind) = false) ∨ ((x.kind == y.kind) = true ∧ (x.name.toList == y.name.toList) = false) := by
     cases (x.kind == y.kind) <;> cases (x.name.toList == y.name.toList) <;> simp
    go_wp2_with fail
    (refine wp_region_fr (X := No) (by kernel_rfl) (by kernel_rfl) ?_)
    clear c0 c1 d0 d1
    rcases hcase with ⟨g1, g2⟩ | g1 | ⟨g1, g2⟩
    ·have HS : Hid (ksEq xs ys = ksEq (xs.drop (k + 1)) (ys.drop (k + 1))) := by
      have := hd.out.out; unfold kEq at this; rwa [g1, g2, Bool.true_and, Bool.true_and] at this
     have g3 : (x.kind != y.kind) = false := by rw [bne, g1]; rfl
     have g4 : (x.name.toList != y.name.toList) = false := by rw [bne, g2]; rfl
     (repeat (first | (go_big_quiet_skip; (try simp only [Act.put, List.setIfInBounds_toArray, List.set_cons_zero, List.set_cons_succ])) | (go_big_quiet_want; (apply Exists.intro; refine ⟨fun W hW => ?_, ?_⟩); (focus (go_simp; (try simp only [↓IntWalk.iteOmega]); (try simp only [reduceIte]); first | done | exact rfl | exact ⟨trivial, rfl⟩ | exact ⟨rfl, rfl⟩ | fail)); go_big_quiet_on; (try simp only [Act.put, List.setIfInBounds_toArray, List.set_cons_zero, List.set_cons_succ])))); refine wpQuiet_nil ?_
     intro w1 hf1
     clear q0 q1 p0 p1
     go_wp2
     go_roundw
     case rel => exact ⟨k + 1, by omega, by go_num, rfl, HS, by exact frc⟩
     case measure => simp [intOf]; omega
    all_goals
     have HS : Hid (ksEq xs ys = false) := by
      have := hd.out.out; unfold kEq at this
      first
       | (rw [g1, g2] at this; (show ksEq xs ys = false); simpa using this)
       | (rw [g1] at this; (show ksEq xs ys = false); simpa using this)
     (repeat (first | (go_big_quiet_skip; (try simp only [Act.put, List.setIfInBounds_toArray, List.set_cons_zero, List.set_cons_succ])) | (go_big_quiet_want; (apply Exists.intro; refine ⟨fun W hW => ?_, ?_⟩); (focus (go_simp; (try simp only [↓IntWalk.iteOmega]); (try simp only [reduceIte]); first | done | exact rfl | exact ⟨trivial, rfl⟩ | exact ⟨rfl, rfl⟩ | fail)); go_big_quiet_on; (try simp only [Act.put, List.setIfInBounds_toArray, List.set_cons_zero, List.set_cons_succ])))); refine wpQuiet_nil ?_
     intro w1 hf1
     clear q0 q1 p0 p1
     go_wp2
     go_ret
     exact .mk HS.out.symm (by exact frc)
   ·have HS : Hid (ksEq xs ys = true) := by
     have := hd.out
     rwa [List.drop_eq_nil_of_le (by omega), List.drop_eq_nil_of_le (by have := hll.out; omega)] at this
    clear h g hd
    go_wp2
    go_ret
    exact .mk HS.out.symm (by exact frc)
 ·have HS : Hid (ksEq xs ys = false) := ksEq_len hll
  have hne : ((xs.length : Int) != (ys.length : Int)) = true := by simp; omega
  clear h g
  replace hll := Lib.hid hll
  go_enter Tryz.func136, Tryz.ntmps136
  go_wp2
  go_ret
  exact .mk HS.out.symm (by exact frc)
end Go.Proofs.YtbalicnnlfennaaGreat

namespace Go.Proofs.YtbalicnnlfennaaGreat
open Go.RowKit

theorem ownsGo_mem : ∀ (seen fs : List Cls), ownsGo seen fs = true → ∀ c ∈ fs, clsB c = true
 | _, [], _, _, h => by cases h
 | seen, f :: fs, h, c, hc => by
  rw [ownsGo] at h
  simp only [Bool.and_eq_true] at h
  rcases List.mem_cons.1 hc with rfl | hc
  ·exact h.1.1
  ·exact ownsGo_mem _ fs h.2 c hc
theorem asksGo_name {many : Int} : ∀ (seen fs : List Ask), asksGo many seen fs = true → ∀ a ∈ fs, namB a.name = true
 | _, [], _, _, h => by cases h
 | seen, f :: fs, h, a, ha => by
  rw [asksGo] at h
  simp only [Bool.and_eq_true] at h
  rcases List.mem_cons.1 ha with rfl | ha
  ·exact h.1.1.1
  ·exact asksGo_name _ fs h.2 a ha
theorem clsB_name {c : Cls} (h : clsB c = true) : namB c.name = true := by
 unfold clsB at h
 simp only [Bool.and_eq_true] at h
 exact h.1.1.1.1.1
theorem mthsGo_mem : ∀ (seen fs : List Mth), mthsGo seen fs = true → ∀ c ∈ fs, mthB c = true
 | _, [], _, _, h => by cases h
 | seen, f :: fs, h, c, hc => by
  rw [mthsGo] at h
  simp only [Bool.and_eq_true] at h
  rcases List.mem_cons.1 hc with rfl | hc
  ·exact h.1.1
  ·exact mthsGo_mem _ fs h.2 c hc
theorem fldsGo_mem : ∀ (seen fs : List Fld), fldsGo seen fs = true → ∀ c ∈ fs, namB c.name = true ∧ kndB c.kind = true
 | _, [], _, _, h => by cases h
 | seen, f :: fs, h, c, hc => by
  rw [fldsGo] at h
  simp only [Bool.and_eq_true] at h
  rcases List.mem_cons.1 hc with rfl | hc
  ·exact h.1.1
  ·exact fldsGo_mem _ fs h.2 c hc
theorem clsB_mth {c : Cls} (h : clsB c = true) : ∀ m ∈ c.methods, mthB m = true := by
 unfold clsB at h
 simp only [Bool.and_eq_true] at h
 exact mthsGo_mem _ _ h.2
theorem clsB_fld {c : Cls} (h : clsB c = true) : ∀ f ∈ c.fields, namB f.name = true ∧ kndB f.kind = true := by
 unfold clsB at h
 simp only [Bool.and_eq_true] at h
 exact fldsGo_mem _ _ h.1.2
theorem kpr_cls {p : Plan} (hp : lodB p = true) {k : Nat} (hk : k < p.keepers.length) : ∀ c ∈ (kprAt p (k : Int)).owns, clsB c = true := by
 have h := lodB_kpr hp hk
 rw [kprAt_nat hk]
 unfold kprB at h
 simp only [Bool.and_eq_true] at h
 exact ownsGo_mem _ _ h.1.2
theorem kpr_ask {p : Plan} (hp : lodB p = true) {k : Nat} (hk : k < p.keepers.length) : ∀ a ∈ (kprAt p (k : Int)).asks, namB a.name = true := by
 have h := lodB_kpr hp hk
 rw [kprAt_nat hk]
 unfold kprB at h
 simp only [Bool.and_eq_true] at h
 exact asksGo_name _ _ h.2
theorem Here.clsB {p : Plan} (hp : lodB p = true) {r : Ref} {k i : Nat} (h : Here p r k i) : Go.Proofs.YtbalicnnlfennaaGreat.clsB (clsAt p r) = true := by
 rw [h.cls]
 exact kpr_cls hp h.2.1 _ (List.getElem_mem _)
theorem bad_own {p : Plan} (hp : lodB p = true) {k : Nat} (hk : k < p.keepers.length) {s : Str} (hs : namB s = false) : ownIx p (k : Int) s = -1 := by
 unfold ownIx
 refine ixOf_no (List.all_eq_true.2 fun c hc => ?_)
 have := clsB_name (kpr_cls hp hk c hc)
 cases hq : clsIs s c
 ·rfl
 ·rw [clsIs_iff.1 hq] at this; rw [this] at hs; cases hs
theorem bad_ask {p : Plan} (hp : lodB p = true) {k : Nat} (hk : k < p.keepers.length) {s : Str} (hs : namB s = false) : askTo p (k : Int) s = -1 := by
 refine askTo_none (askOpt_none.2 (List.all_eq_true.2 fun c hc => ?_))
 have := kpr_ask hp hk c hc
 cases hq : askIs s c
 ·rfl
 ·rw [askIs_iff.1 hq] at this; rw [this] at hs; cases hs
theorem bad_whose {p : Plan} (hp : lodB p = true) {k : Int} {s : Str} (hs : namB s = false) : whoseK p k s = (noRef, 2) := by
 unfold whoseK
 cases h : hasK p k
 ·rfl
 ·unfold hasK at h
  rw [Bool.and_eq_true, decide_eq_true_eq, decide_eq_true_eq] at h
  obtain ⟨n, rfl⟩ := Int.eq_ofNat_of_zero_le h.1
  have hn : n < p.keepers.length := by omega
  rw [if_pos rfl]
  unfold whose
  rw [whoseGo, bad_ask hp hn hs, bad_own hp hn hs]; rfl
theorem bad_find {p : Plan} (hp : lodB p = true) {k : Int} {s : Str} (hs : namB s = false) : findK p k s = (noRef, 2) := by
 unfold findK
 rw [bad_whose hp hs]; rfl
theorem no_find {p : Plan} {k : Int} {s : Str} (h : hasK p k = false) : findK p k s = (noRef, 2) := by
 unfold findK whoseK
 rw [h]; rfl
def AllHere (p : Plan) (rs : List Ref) : Prop := ∀ r ∈ rs, r.name.size ≤ maxLen ∧ ∃ k i : Nat, Here p r k i
theorem upGo_here {p : Plan} (hp : lodB p = true) : ∀ (n : Nat) (r : Ref) (k i : Nat), Here p r k i → ∀ rs, upGo p n r = some rs → ∀ x ∈ rs, ∃ k i : Nat, Here p x k i
 | 0, _, _, _, _, rs, h, _, _ => by cases h
 | n + 1, r, k, i, hh, rs, h, x, hx => by
  rw [upGo] at h
  cases he : (clsAt p r).super.toList.isEmpty
  ·rw [if_neg (by rw [he]; simp)] at h
   by_cases hw : (whose p r.keeper (clsAt p r).super).2 = 1
   ·rw [if_pos hw] at h
    have hk : (0 : Int) ≤ r.keeper ∧ r.keeper < p.keepers.length := by have := hh.1; have := hh.2.1; omega
    obtain ⟨kc, ic, hq, hh2⟩ := whose_here hp 4 r.keeper hk.1 hk.2 hw
    rw [Option.map_eq_some_iff] at h
    obtain ⟨rs', h1, rfl⟩ := h
    have h1' : upGo p n ⟨kc, (clsAt p r).super⟩ = some rs' := by rw [← hq]; exact h1
    rcases List.mem_cons.1 hx with rfl | hx
    ·exact ⟨k, i, hh⟩
    ·exact upGo_here hp n _ kc ic hh2 rs' h1' x hx
   ·rw [if_neg hw] at h; cases h
  ·rw [if_pos he] at h
   cases h
   obtain rfl : x = r := by simpa using hx
   exact ⟨k, i, hh⟩
theorem here_name {p : Plan} (hp : lodB p = true) {r : Ref} {k i : Nat} (h : Here p r k i) : namB r.name = true := by
 cases hs : namB r.name
 ·have h1 := bad_own hp h.2.1 hs
  obtain ⟨n, hn, _, h2⟩ := ixOpt_nat h.2.2.2
  unfold ownIx at h1
  rw [h1] at h2
  omega
 ·rfl
theorem name_small {s : Str} (h : namB s = true) : s.size ≤ maxLen := by
 unfold namB at h
 simp only [Bool.and_eq_true, Bool.not_eq_true', Bool.or_eq_false_iff, decide_eq_false_iff_not] at h
 unfold maxLen
 omega
theorem chain_here {p : Plan} (hp : lodB p = true) {r : Ref} {k i : Nat} (hh : Here p r k i) {rs : List Ref} (h : chainOf p r = some rs) : AllHere p rs := fun x hx => by
 obtain ⟨k, i, hx'⟩ := upGo_here hp 6 r k i hh rs h x hx
 exact ⟨name_small (here_name hp hx'), k, i, hx'⟩
theorem upGo_len {p : Plan} : ∀ (n : Nat) (r : Ref) (rs : List Ref), upGo p n r = some rs → rs.length ≤ n
 | 0, _, _, h => by cases h
 | n + 1, r, rs, h => by
  rw [upGo] at h
  cases he : (clsAt p r).super.toList.isEmpty
  ·rw [if_neg (by rw [he]; simp)] at h
   by_cases hw : (whose p r.keeper (clsAt p r).super).2 = 1
   ·rw [if_pos hw, Option.map_eq_some_iff] at h
    obtain ⟨rs', h1, rfl⟩ := h
    have := upGo_len n _ rs' h1
    simp; omega
   ·rw [if_neg hw] at h; cases h
  ·rw [if_pos he] at h
   cases h; simp
theorem chainOf_len {p : Plan} {r : Ref} {rs : List Ref} (h : chainOf p r = some rs) : rs.length ≤ 6 := upGo_len 6 r rs h
theorem chainK_cases {p : Plan} (hp : lodB p = true) (r : Ref) : chainK p r = [] ∨ ∃ k i : Nat, Here p r k i ∧ chainOf p r = some (chainK p r) := by
 obtain ⟨rk, rn⟩ := r
 unfold chainK
 dsimp only
 by_cases h : (findK p rk rn).2 = 1 ∧ (findK p rk rn).1.keeper = rk
 ·rw [if_pos h]
  obtain ⟨kc, i, pre, h1, h2, h3⟩ := findK_here hp h.1
  rw [h1] at h
  obtain ⟨_, rfl⟩ := h
  exact .inr ⟨kc, i, h2, by rw [h3]; rfl⟩
 ·rw [if_neg h]; exact .inl rfl
theorem chainK_here {p : Plan} (hp : lodB p = true) (r : Ref) : AllHere p (chainK p r) := by
 rcases chainK_cases hp r with h | ⟨k, i, h1, h2⟩
 ·rw [h]; intro x hx; cases hx
 ·exact chain_here hp h1 h2
theorem chainK_len {p : Plan} (hp : lodB p = true) (r : Ref) : (chainK p r).length ≤ 6 := by
 rcases chainK_cases hp r with h | ⟨k, i, h1, h2⟩
 ·rw [h]; simp
 ·exact chainOf_len h2

def overM (p : Plan) (a b : Int) (up : Cls) (m : Mth) : Bool :=
 if ixOf (mthIs m.name) up.methods < 0 then true else
  kEq m.ret (up.methods.getD (ixOf (mthIs m.name) up.methods).toNat ⟨⟨#[]⟩, [], ⟨0, ⟨#[]⟩⟩, 0, 0, [], []⟩).ret && ksEq m.args (up.methods.getD (ixOf (mthIs m.name) up.methods).toNat ⟨⟨#[]⟩, [], ⟨0, ⟨#[]⟩⟩, 0, 0, [], []⟩).args && agreeM p a b m
def pairB (p : Plan) (low high : Ref) : Bool :=
 (clsAt p low).fields.all (fun f => decide (ixOf (fldIs f.name) (clsAt p high).fields < 0)) && (clsAt p low).methods.all (overM p low.keeper high.keeper (clsAt p high))

def laidL (p : Plan) : List Ref → Bool
 | [] => true
 | r :: rs => rs.all (pairB p r) && laidL p rs
def canB (p : Plan) (r : Ref) : Bool := !(chainK p r).isEmpty && laidL p (chainK p r)
def pickGo (p : Plan) (s : Str) : List Ref → Option (Ref × Int)
 | [] => none
 | r :: rs => if ixOf (mthIs s) (clsAt p r).methods < 0 then pickGo p s rs else some (r, ixOf (mthIs s) (clsAt p r).methods)
def pickB (p : Plan) (r : Ref) (s : Str) : Option (Ref × Int) := if canB p r then pickGo p s (chainK p r) else none
end Go.Proofs.YtbalicnnlfennaaGreat

namespace Go.Proofs.YtbalicnnlfennaaGreat
open Go.RowKit

def refIs (q r : Ref) : Bool := decide (q.keeper = r.keeper) && (q.name.toList == r.name.toList)
theorem refIs_iff {q r : Ref} : refIs q r = true ↔ q = r := by
 obtain ⟨qk, qn⟩ := q
 obtain ⟨rk, rn⟩ := r
 unfold refIs
 simp only [Bool.and_eq_true, decide_eq_true_eq, beq_iff_eq, Ref.mk.injEq]
 exact ⟨fun h => ⟨h.1, str_eq h.2⟩, fun h => ⟨h.1, by rw [h.2]⟩⟩
theorem refIs_self (r : Ref) : refIs r r = true := refIs_iff.2 rfl
theorem refIs_no {q r : Ref} (h : q ≠ r) : refIs q r = false := by
 rw [← Bool.not_eq_true]; intro h'; exact h (refIs_iff.1 h')

theorem upGo_mono {p : Plan} : ∀ {n m : Nat} {r : Ref} {rs : List Ref}, upGo p n r = some rs → n ≤ m → upGo p m r = some rs
 | 0, _, _, _, h, _ => by cases h
 | n + 1, 0, _, _, _, hm => absurd hm (by omega)
 | n + 1, m + 1, r, rs, h, hm => by
  rw [upGo] at h ⊢
  by_cases h1 : (clsAt p r).super.toList.isEmpty = true
  ·rw [if_pos h1] at h ⊢; exact h
  ·rw [if_neg h1] at h ⊢
   by_cases h2 : (whose p r.keeper (clsAt p r).super).2 = 1
   ·rw [if_pos h2] at h ⊢
    rw [Option.map_eq_some_iff] at h ⊢
    obtain ⟨xs, hx, he⟩ := h
    exact ⟨xs, upGo_mono hx (by omega), he⟩
   ·rw [if_neg h2] at h; cases h
theorem upGo_tail {p : Plan} : ∀ {n : Nat} {r : Ref} {rs : List Ref}, upGo p n r = some rs → ∀ (k : Nat) (hk : k < rs.length), ∃ m, upGo p m rs[k] = some (rs.drop k)
 | 0, _, _, h, _, _ => by cases h
 | n + 1, r, rs, h, k, hk => by
  have h0 := h
  rw [upGo] at h
  by_cases h1 : (clsAt p r).super.toList.isEmpty = true
  ·rw [if_pos h1] at h
   cases h
   obtain rfl : k = 0 := by simpa using hk
   exact ⟨n + 1, h0⟩
  ·rw [if_neg h1] at h
   by_cases h2 : (whose p r.keeper (clsAt p r).super).2 = 1
   ·rw [if_pos h2] at h
    rw [Option.map_eq_some_iff] at h
    obtain ⟨xs, hx, rfl⟩ := h
    cases k with
    | zero => exact ⟨n + 1, h0⟩
    | succ k => exact upGo_tail hx k (by simpa using hk)
   ·rw [if_neg h2] at h; cases h
theorem upGo_nodup {p : Plan} : ∀ {n : Nat} {r : Ref} {rs : List Ref}, upGo p n r = some rs → rs.Nodup
 | 0, _, _, h => by cases h
 | n + 1, r, rs, h => by
  have h0 := h
  rw [upGo] at h
  by_cases h1 : (clsAt p r).super.toList.isEmpty = true
  ·rw [if_pos h1] at h
   cases h
   simp
  ·rw [if_neg h1] at h
   by_cases h2 : (whose p r.keeper (clsAt p r).super).2 = 1
   ·rw [if_pos h2] at h
    rw [Option.map_eq_some_iff] at h
    obtain ⟨xs, hx, rfl⟩ := h
    rw [List.nodup_cons]
    refine ⟨fun hm => ?_, upGo_nodup hx⟩
    obtain ⟨k, hk, he⟩ := List.getElem_of_mem hm
    obtain ⟨m, hm⟩ := upGo_tail hx k hk
    rw [he] at hm
    have a := upGo_mono hm (Nat.le_max_left m (n + 1))
    have b := upGo_mono h0 (Nat.le_max_right m (n + 1))
    rw [a] at b
    have := congrArg (Option.map List.length) b
    simp at this
    omega
   ·rw [if_neg h2] at h; cases h
theorem chainK_nodup {p : Plan} (hp : lodB p = true) (r : Ref) : (chainK p r).Nodup := by
 rcases chainK_cases hp r with h | ⟨k, i, _, h⟩
 ·rw [h]; simp
 ·exact upGo_nodup h

def fldsOf (p : Plan) (rs : List Ref) : List (Ref × Fld) := rs.flatMap fun r => (clsAt p r).fields.map (r, ·)
theorem fldsOf_cons (p : Plan) (r : Ref) (rs : List Ref) : fldsOf p (r :: rs) = (clsAt p r).fields.map (r, ·) ++ fldsOf p rs := by simp [fldsOf]
theorem fldsOf_append (p : Plan) (rs ts : List Ref) : fldsOf p (rs ++ ts) = fldsOf p rs ++ fldsOf p ts := by simp [fldsOf]
def firstLen (p : Plan) : List Ref → Ref → Nat
 | [], _ => 0
 | r :: rs, q => if refIs r q then 0 else (clsAt p r).fields.length + firstLen p rs q
theorem fldsOf_mem {p : Plan} {rs : List Ref} {x : Ref × Fld} (h : x ∈ fldsOf p rs) : x.1 ∈ rs ∧ x.2 ∈ (clsAt p x.1).fields := by
 unfold fldsOf at h
 rw [List.mem_flatMap] at h
 obtain ⟨r, hr, hx⟩ := h
 rw [List.mem_map] at hx
 obtain ⟨f, hf, rfl⟩ := hx
 exact ⟨hr, hf⟩
theorem fld_at {p : Plan} : ∀ {rs : List Ref}, rs.Nodup → ∀ (i : Nat) (hi : i < (fldsOf p rs).length),
  firstLen p rs ((fldsOf p rs)[i]).1 ≤ i ∧ (clsAt p ((fldsOf p rs)[i]).1).fields[i - firstLen p rs ((fldsOf p rs)[i]).1]? = some ((fldsOf p rs)[i]).2 ∧
  (((fldsOf p rs).take i).filter (fun x => refIs x.1 ((fldsOf p rs)[i]).1)).length = i - firstLen p rs ((fldsOf p rs)[i]).1
 | [], _, i, hi => by simp [fldsOf] at hi
 | r :: rs, hn, i, hi => by
  rw [List.nodup_cons] at hn
  have he := fldsOf_cons p r rs
  by_cases hlt : i < (clsAt p r).fields.length
  ·have hx : (fldsOf p (r :: rs))[i] = (r, (clsAt p r).fields[i]) := by
    simp only [he]
    rw [List.getElem_append_left (by simpa using hlt)]
    simp
   rw [hx]
   have hf : firstLen p (r :: rs) r = 0 := by rw [firstLen, if_pos (refIs_self r)]
   dsimp only
   rw [hf, Nat.sub_zero]
   refine ⟨Nat.zero_le _, List.getElem?_eq_getElem hlt, ?_⟩
   rw [he, List.take_append_of_le_length (by simp; omega), List.filter_eq_self.2, List.length_take, List.length_map]
   ·omega
   ·intro x hx
    have := List.mem_of_mem_take hx
    rw [List.mem_map] at this
    obtain ⟨f, _, rfl⟩ := this
    exact refIs_self r
  ·have hl : (fldsOf p (r :: rs)).length = (clsAt p r).fields.length + (fldsOf p rs).length := by rw [he]; simp
   have hi' : i - (clsAt p r).fields.length < (fldsOf p rs).length := by omega
   obtain ⟨h1, h2, h3⟩ := fld_at hn.2 _ hi'
   have hx : (fldsOf p (r :: rs))[i] = (fldsOf p rs)[i - (clsAt p r).fields.length] := by
    simp only [he]
    rw [List.getElem_append_right (by simpa using Nat.le_of_not_lt hlt)]
    simp
   rw [hx]
   have hne : r ≠ ((fldsOf p rs)[i - (clsAt p r).fields.length]).1 := fun e => hn.1 (by rw [e]; exact (fldsOf_mem (List.getElem_mem hi')).1)
   generalize (fldsOf p rs)[i - (clsAt p r).fields.length] = y at *
   have hf : firstLen p (r :: rs) y.1 = (clsAt p r).fields.length + firstLen p rs y.1 := by rw [firstLen, if_neg (by rw [refIs_no hne]; simp)]
   rw [hf]
   refine ⟨by omega, by rw [← h2]; congr 1; omega, ?_⟩
   rw [he, List.take_append, List.filter_append, List.length_append, List.length_map, h3]
   have h0 : (((clsAt p r).fields.map (r, ·)).take i).filter (fun x => refIs x.1 y.1) = [] := by
    rw [List.filter_eq_nil_iff]
    intro x hx
    have := List.mem_of_mem_take hx
    rw [List.mem_map] at this
    obtain ⟨f, _, rfl⟩ := this
    rw [refIs_no hne]; simp
   rw [h0]
   simp
   omega

structure LFld where
 of_ : Ref
 at_ : Int
 kind : Knd
def layGo (i : Nat) : List (Ref × Fld) → List LFld
 | [] => []
 | x :: xs => ⟨x.1, i, x.2.kind⟩ :: layGo (i + 1) xs
theorem layGo_append : ∀ (xs ys : List (Ref × Fld)) (i : Nat), layGo i (xs ++ ys) = layGo i xs ++ layGo (i + xs.length) ys
 | [], ys, i => by simp [layGo]
 | x :: xs, ys, i => by rw [List.cons_append, layGo, layGo_append xs ys, layGo, List.cons_append, List.length_cons]; congr 3; omega
theorem layGo_len : ∀ (xs : List (Ref × Fld)) (i : Nat), (layGo i xs).length = xs.length
 | [], _ => rfl
 | x :: xs, i => by rw [layGo, List.length_cons, layGo_len xs, List.length_cons]
theorem layGo_get : ∀ (xs : List (Ref × Fld)) (i k : Nat) (hk : k < xs.length), (layGo i xs)[k]'(by rw [layGo_len]; exact hk) = ⟨xs[k].1, ((i + k : Nat) : Int), xs[k].2.kind⟩
 | x :: xs, i, 0, _ => rfl
 | x :: xs, i, k + 1, hk => by
  have := layGo_get xs (i + 1) k (by simpa using hk)
  simp only [layGo, List.getElem_cons_succ]
  rw [this]
  congr 2
  omega
def layL (p : Plan) (rs : List Ref) : List LFld := layGo 0 (fldsOf p rs.reverse)
def layK (p : Plan) (r : Ref) : List LFld := layL p (chainK p r)
def layB (p : Plan) (r : Ref) : List LFld := if canB p r then layK p r else []
theorem clsB_fields {c : Cls} (h : clsB c = true) : c.fields.length ≤ 3 := by
 unfold clsB at h
 simp only [Bool.and_eq_true, decide_eq_true_eq] at h
 omega
theorem fldsOf_len {p : Plan} (hp : lodB p = true) : ∀ {rs : List Ref}, AllHere p rs → (fldsOf p rs).length ≤ 3 * rs.length
 | [], _ => by simp [fldsOf]
 | r :: rs, h => by
  have ih := fldsOf_len hp (rs := rs) (fun x hx => h x (by simp [hx]))
  rw [fldsOf_cons]
  simp
  obtain ⟨_, k, i, hh⟩ := h r (by simp)
  have := clsB_fields (Here.clsB hp hh)
  omega
def getGo (p : Plan) (k : Int) (m : Str) (i : Nat) : List (Ref × Fld) → LFld × Int
 | [] => (⟨noRef, 0, ⟨0, ⟨#[]⟩⟩⟩, 3)
 | x :: xs => if x.2.name.toList == m.toList then (if agreeK p k x.1.keeper x.2.kind then (⟨x.1, i, x.2.kind⟩, 1) else (⟨noRef, 0, ⟨0, ⟨#[]⟩⟩⟩, 4)) else getGo p k m (i + 1) xs
end Go.Proofs.YtbalicnnlfennaaGreat

namespace Go.Proofs.YtbalicnnlfennaaGreat
open Go.RowKit

def noS : Str := ⟨#[]⟩
def tagEq (a b : Tag) : Bool := decide (a.kind = b.kind) && (a.name.toList == b.name.toList)
theorem tagEq_iff {a b : Tag} : tagEq a b = true ↔ a = b := by
 obtain ⟨ak, an⟩ := a
 obtain ⟨bk, bn⟩ := b
 unfold tagEq
 simp only [Bool.and_eq_true, decide_eq_true_eq, beq_iff_eq, Tag.mk.injEq]
 exact ⟨fun h => ⟨h.1, str_eq h.2⟩, fun h => ⟨h.1, by rw [h.2]⟩⟩
def noT : Tag := ⟨0, noS⟩
def numT : Tag := ⟨1, noS⟩
def nullT : Tag := ⟨3, noS⟩
def clsT (s : Str) : Tag := ⟨2, s⟩
def tagOf (k : Knd) : Tag := if kndB k then ⟨k.kind, k.name⟩ else noT
def underK (p : Plan) (low top : Ref) : Bool := (chainK p low).any (fun r => refIs r top)
def mayK (p : Plan) (k : Int) (a b : Tag) : Bool :=
 if b.kind = 0 then true else if tagEq a b then true else if b.kind ≠ 2 then false else if a.kind = 3 then true else if a.kind ≠ 2 then false else
 if (findK p k a.name).2 = 1 then (if (findK p k b.name).2 = 1 then underK p (findK p k a.name).1 (findK p k b.name).1 else false) else false
end Go.Proofs.YtbalicnnlfennaaGreat
