/- The reference: whether a class can be laid out; the method that a thing of a class does. -/
import Derived.Test.YtghmnkafpnkojaaGreatDoorSli
namespace Go.Proofs.YtghmnkafpnkojaaGreatDoor
open Go.RowKit

theorem Sl.drop {α : Type} {X : Nat → Prop} {w : World} {sz : Nat} {R : List Value → α → Prop} {b off n cap k : Nat} {xs : List α} (h : Sl X w sz R (.slice (some ⟨b, off, none⟩) n cap) xs) (hk : k < xs.length) :
    Sl X w sz R (.slice (some ⟨b, off + k * sz, none⟩) (n - k) (cap - k)) (xs.drop k) := by
  obtain ⟨A', cap', he, h1, h2, h3⟩ := h
  simp only [Value.slice.injEq] at he
  obtain ⟨rfl, rfl, rfl⟩ := he
  refine ⟨_, _, by rw [List.length_drop], by rw [List.length_drop]; omega, by rw [List.length_drop]; omega, fun _ => ?_⟩
  obtain ⟨b', off', he, hX, hc⟩ := h3 (by omega)
  simp only [Option.some.injEq, Addr.mk.injEq, and_true] at he
  obtain ⟨rfl, rfl⟩ := he
  refine ⟨b, off + k * sz, rfl, hX, fun j hj => ?_⟩
  rw [List.length_drop] at hj
  obtain ⟨cs, hR, hl, hcs⟩ := hc (k + j) (by omega)
  refine ⟨cs, by rw [List.getElem_drop]; exact hR, hl, fun i hi => ?_⟩
  rw [← hcs i hi, Nat.add_mul, Nat.add_assoc off]
theorem AllHere.drop {p : Plan} {rs : List Ref} (h : AllHere p rs) (k : Nat) : AllHere p (rs.drop k) := fun r hr => h r (List.mem_of_mem_drop hr)

set_option maxRecDepth 100000 in
set_option maxHeartbeats 4000000 in
theorem s_laid (X : Nat → Prop) (p : Plan) (v : Value) (k0 : Nat) (s0 : Str) (i0 : Nat) (w : World) (hp : lodB p = true) (h : Sl X w 2 (KprC X w) v p.keepers) (hh : Here p ⟨k0, s0⟩ k0 i0) (hs : s0.size ≤ maxLen) :
    Calls Tryz.prog 56 #[.agg #[v], .agg #[.int .i64 k0, .string s0]] w (BoolFr (laidL p ((chainOf p ⟨k0, s0⟩).getD [])) w) := by
  obtain ⟨A, cap, rfl, hcap, hlen⟩ := h.form
  have hkw := fun W (hW : Fr No w W) => h.keep (R' := KprC X W) hW (fun _ h => h.elim) (fun _ _ _ h => h.keep hW (fun _ h => h.elim))
  have HC := fun W (hW : Fr No w W) => s_chain X p _ k0 s0 i0 W hp (hkw W hW) hh hs
  have hB := (Bx.new w 34 #[.slice A p.keepers.length cap]).alloc (.cells #[.int .i64 k0, .string s0] 27)
  have hall : AllHere p ((chainOf p ⟨k0, s0⟩).getD []) := by
    cases hc : chainOf p ⟨k0, s0⟩ with
    | none => intro x hx; cases hx
    | some rs => exact chain_here hp hh hc
  have hl6 : ((chainOf p ⟨k0, s0⟩).getD []).length ≤ 6 := by
    cases hc : chainOf p ⟨k0, s0⟩ with
    | none => simp
    | some rs => exact chainOf_len hc
  unfold SChainPost at HC
  generalize (chainOf p ⟨k0, s0⟩).isSome = ok at *
  generalize (chainOf p ⟨k0, s0⟩).getD [] = xs at *
  go_enter Tryz.func56, Tryz.ntmps56
  go_wp2_with fail
  refine (HC _ (by exact frc)).mono ?_
  rintro e w1 ⟨v2, rfl, hsl, hf1⟩
  obtain ⟨A2, c2, rfl, hc2, _⟩ := hsl.form
  have hB1 := hB.keep hf1
  have hw1 : Fr No w w1 := by exact frc
  clear HC hB hf1
  go_wp2
  obtain ⟨wz, rfl⟩ : ∃ wz : World, wz = w1 := ⟨_, rfl⟩
  go_loopw [7, 4] (fun i r wr => ∃ k : Nat, k ≤ xs.length ∧ i = .int .i64 k ∧ r = .bool false ∧ Hid (laidL p xs = laidL p (xs.drop k)) ∧ Fr No wz wr) (fun i _ _ => xs.length - (intOf i).toNat)
  case atStart => exact ⟨0, Nat.zero_le _, rfl, rfl, rfl, Fr.refl _ _⟩
  case round =>
    obtain ⟨k, hk, rfl, rfl, hd, hf⟩ := hrel
    replace hB1 := hB1.keep hf
    have b0 := hB1.c1
    have hBl := hB1.lt
    by_cases hlt : k < xs.length
    · have hslr := hsl.keep (R' := RefC) hf (fun _ h => h.elim) (fun _ _ _ h => h)
      obtain ⟨b, off, rfl, _, c0, c1, _⟩ := hslr.ref hlt
      have hbl := lt_of_cell c0
      have hdr := hslr.drop hlt
      have ha2 := hall.drop k
      rw [List.drop_eq_getElem_cons hlt] at hdr ha2 hd
      have HO := fun W (hW : Fr No wr W) => s_over X No p _ _ xs[k] (xs.drop (k + 1)) W hp (hkw W ((hw1.trans0 hf).trans0 hW)) (hdr.keep hW (fun _ h => h.elim) (fun _ _ _ h => h)) ha2
      rw [laidL] at hd
      have hd := Lib.hid hd
      have hkk : (k : Int).toNat = k := by omega
      have hkc : k ≤ c2 := by omega
      clear hslr hdr ha2 hall hsl hkw h hh
      generalize (xs.drop (k + 1)).all (pairB p xs[k]) = ok2 at *
      have e0 := fun W (h : Fr No wr W) => (hB1.keep h).c1
      go_wp2_with fail
      (refine wp_region_fr (X := No) (by kernel_rfl) (by kernel_rfl) ?_)
      clear b0 c0 c1
      cases ok2
      · have HS : Hid (laidL p xs = false) := hd.out.out.trans (by simp)
        clear hd
        (repeat (first | (go_big_quiet_skip; (try simp only [Act.put, List.setIfInBounds_toArray, List.set_cons_zero, List.set_cons_succ])) | (go_big_quiet_want; (apply Exists.intro; refine ⟨fun W hW => ?_, ?_⟩); (focus (go_simp; (try simp only [↓IntWalk.iteOmega]); (try simp only [reduceIte]); first | done | exact rfl | exact ⟨trivial, rfl⟩ | exact ⟨rfl, rfl⟩ | (go_at_call 82; exact (HO W hW).mono (fun _ _ h => BoolFr.toFr h hW)))); go_big_quiet_on; (try simp only [Act.put, List.setIfInBounds_toArray, List.set_cons_zero, List.set_cons_succ])))); refine wpQuiet_nil ?_
        intro w3 hf3
        clear e0 HO
        go_wp2
        go_ret; exact .mk HS.out.symm (by exact frc)
      · have HS : Hid (laidL p xs = laidL p (xs.drop (k + 1))) := hd.out.out.trans (by simp)
        clear hd
        (repeat (first | (go_big_quiet_skip; (try simp only [Act.put, List.setIfInBounds_toArray, List.set_cons_zero, List.set_cons_succ])) | (go_big_quiet_want; (apply Exists.intro; refine ⟨fun W hW => ?_, ?_⟩); (focus (go_simp; (try simp only [↓IntWalk.iteOmega]); (try simp only [reduceIte]); first | done | exact rfl | exact ⟨trivial, rfl⟩ | exact ⟨rfl, rfl⟩ | (go_at_call 82; exact (HO W hW).mono (fun _ _ h => BoolFr.toFr h hW)))); go_big_quiet_on; (try simp only [Act.put, List.setIfInBounds_toArray, List.set_cons_zero, List.set_cons_succ])))); refine wpQuiet_nil ?_
        intro w3 hf3
        clear e0 HO
        go_wp2
        go_roundw
        case rel => exact ⟨k + 1, by omega, by go_num, rfl, HS, by exact frc⟩
        case measure => simp [intOf]; omega
    · have HS : Hid (laidL p xs = true) := by have := hd.out; rwa [List.drop_eq_nil_of_le (by omega)] at this
      clear h hkw hd hsl
      go_wp2
      go_ret; exact .mk HS.out.symm (by exact frc)
end Go.Proofs.YtghmnkafpnkojaaGreatDoor

/- The reference: the method that a thing of a class does. -/
namespace Go.Proofs.YtghmnkafpnkojaaGreatDoor
open Go.RowKit

def canS (p : Plan) (r : Ref) : Bool := lodB p && canB p r
/-- A method that was found, or none. -/
def pickV : Option (Ref × Int) → Value
  | none => .tuple #[.agg #[.int .i64 0, .string ⟨#[]⟩, .int .i64 0], .bool false]
  | some (r, i) => .tuple #[.agg #[.int .i64 r.keeper, .string r.name, .int .i64 i], .bool true]
def pickS (p : Plan) (r : Ref) (s : Str) : Option (Ref × Int) := if lodB p then pickB p r s else none
theorem Gives.toFr {X : Nat → Prop} {v : Value} {a W w' : World} {e : Ending} (h : Gives v W e w') (hW : Fr X a W) : e = .returned v ∧ Fr X a w' := ⟨h.1, hW.trans0 h.2⟩
theorem Gives.mk1 {v u : Value} {w w' : World} (h : u = v) (hf : Fr No w w') : Gives v w (.returned u) w' := ⟨by rw [h], hf⟩

set_option maxRecDepth 100000 in
set_option maxHeartbeats 4000000 in
theorem s_which (X Y : Nat → Prop) (p : Plan) (v u : Value) (xs : List Ref) (s : Str) (w : World) (h : Sl X w 2 (KprC X w) v p.keepers) (hu : Sl Y w 2 RefC u xs) (hall : AllHere p xs) (hs : s.size ≤ maxLen) :
    Calls Tryz.prog 32 #[.agg #[v], u, .string s] w (Gives (pickV (pickGo p s xs)) w) := by
  obtain ⟨A, cap, rfl, hcap, hlen⟩ := h.form
  obtain ⟨B, cap2, rfl, hcap2, hlen2⟩ := hu.form
  unfold maxLen at hlen2
  have hkw := fun W (hW : Fr No w W) => h.keep (R' := KprC X W) hW (fun _ h => h.elim) (fun _ _ _ h => h.keep hW (fun _ h => h.elim))
  have hB := (Bx.new w 34 #[.slice A p.keepers.length cap]).alloc (.cells #[.int .i64 0, .string ⟨#[]⟩, .int .i64 0] 29)
  have hZ : Bx ((w.alloc (.cells #[.slice A p.keepers.length cap] 34)).alloc (.cells #[.int .i64 0, .string ⟨#[]⟩, .int .i64 0] 29)) (w.heap.size + 1) 29 #[.int .i64 0, .string ⟨#[]⟩, .int .i64 0] := Bx.new_ (by simp)
  have hw0 : Fr No w ((w.alloc (.cells #[.slice A p.keepers.length cap] 34)).alloc (.cells #[.int .i64 0, .string ⟨#[]⟩, .int .i64 0] 29)) := ((Fr.refl No w).alloc _).alloc _
  go_enter Tryz.func32, Tryz.ntmps32
  go_wp2
  go_loopw [8, 7] (fun i r wr => ∃ k : Nat, k ≤ xs.length ∧ i = .int .i64 k ∧ r = .bool false ∧ Hid (pickGo p s xs = pickGo p s (xs.drop k)) ∧
    Bx wr w.heap.size 34 #[.slice A p.keepers.length cap] ∧ Bx wr (w.heap.size + 1) 29 #[.int .i64 0, .string ⟨#[]⟩, .int .i64 0] ∧ Fr No w wr) (fun i _ _ => xs.length - (intOf i).toNat)
  case atStart => exact ⟨0, Nat.zero_le _, rfl, rfl, rfl, hB, hZ, hw0⟩
  case round =>
    clear hB hZ hw0
    obtain ⟨k, hk, rfl, rfl, hd, hB, hZ, hw⟩ := hrel
    have b0 := hB.c1
    obtain ⟨z0, z1, z2⟩ := hZ.c3
    have hBl := hB.lt
    have hZl := hZ.lt
    have zf := fun j => hZ.frozen j
    by_cases hlt : k < xs.length
    · obtain ⟨b, off, rfl, _, c0, c1, hsr⟩ := (hu.keep hw (fun _ h => h.elim) (fun _ _ _ h => h)).ref hlt
      have hbl := lt_of_cell c0
      obtain ⟨hleft, kr, ir, hhr⟩ := hall _ (List.getElem_mem hlt)
      clear hleft
      rw [List.drop_eq_getElem_cons hlt, pickGo] at hd
      have hd := Lib.hid hd
      generalize xs[k] = r at *
      obtain ⟨rk, s1⟩ := r
      obtain rfl : rk = (kr : Int) := hhr.1
      dsimp only at c0 c1 hsr
      obtain ⟨Af, cf, Am, cm, hR, HC⟩ := s_class X p _ kr s1 ir wr (hkw wr hw) hhr hsr
      obtain ⟨vf, vm, he, _, _, _, hm⟩ := hR
      simp only [List.cons.injEq, true_and, and_true] at he
      obtain ⟨rfl, rfl⟩ := he
      have HM := fun W (hW : Fr No wr W) => s_method X _ (clsAt p ⟨kr, s1⟩).methods s W (hm.keep hW (fun _ h => h.elim) (fun _ _ _ h => h.keep hW (fun _ h => h.elim))) hs
      have hrg := ixOf_range (mthIs s) (clsAt p ⟨kr, s1⟩).methods
      clear hm hu hkw h hall hhr
      generalize clsAt p ⟨kr, s1⟩ = c at *
      generalize ixOf (mthIs s) c.methods = ix at *
      have e0 := fun W (h : Fr No wr W) => (hB.keep h).c1
      have q0 := fun W (h : Fr No wr W) => h.keep0 c0
      have q1 := fun W (h : Fr No wr W) => h.keep0 c1
      go_wp2_with fail
      (refine wp_region_fr (X := No) (by kernel_rfl) (by kernel_rfl) ?_)
      have k0 := c0
      have k1 := c1
      clear b0 z0 z1 z2 zf c0 c1
      by_cases hix : ix < 0
      · have hix' : ix = -1 := by omega
        subst hix'
        have HS : Hid (pickGo p s xs = pickGo p s (xs.drop (k + 1))) := hd.out.out.trans (if_pos (by decide))
        clear hd hrg hix
        (repeat (first | (go_big_quiet_skip; (try simp only [Act.put, List.setIfInBounds_toArray, List.set_cons_zero, List.set_cons_succ])) | (go_big_quiet_want; (apply Exists.intro; refine ⟨fun W hW => ?_, ?_⟩); (focus (go_simp; (try simp only [↓IntWalk.iteOmega]); (try simp only [reduceIte]); first | done | exact rfl | exact ⟨trivial, rfl⟩ | exact ⟨rfl, rfl⟩ | (go_at_call 57; exact (HC W hW).mono (fun _ _ h => Gives.toFr h hW)) | (go_at_call 59; exact (HM W hW).mono (fun _ _ h => IntFr.toFr h hW)))); go_big_quiet_on; (try simp only [Act.put, List.setIfInBounds_toArray, List.set_cons_zero, List.set_cons_succ])))); refine wpQuiet_nil ?_
        intro w1 hf1
        clear e0 q0 q1 HC HM k0 k1
        go_wp2
        go_roundw
        case rel => exact ⟨k + 1, by omega, by go_num, rfl, HS, hB.keep hf1, hZ.keep hf1, by exact frc⟩
        case measure => simp [intOf]; omega
      · obtain ⟨ix, rfl⟩ := Int.eq_ofNat_of_zero_le (show 0 ≤ ix by omega)
        have HS : Hid (pickGo p s xs = some (⟨kr, s1⟩, (ix : Int))) := hd.out.out.trans (if_neg (by omega))
        clear hd hrg hix
        (repeat (first | (go_big_quiet_skip; (try simp only [Act.put, List.setIfInBounds_toArray, List.set_cons_zero, List.set_cons_succ])) | (go_big_quiet_want; (apply Exists.intro; refine ⟨fun W hW => ?_, ?_⟩); (focus (go_simp; (try simp only [↓IntWalk.iteOmega]); (try simp only [reduceIte]); first | done | exact rfl | exact ⟨trivial, rfl⟩ | exact ⟨rfl, rfl⟩ | (go_at_call 57; exact (HC W hW).mono (fun _ _ h => Gives.toFr h hW)) | (go_at_call 59; exact (HM W hW).mono (fun _ _ h => IntFr.toFr h hW)))); go_big_quiet_on; (try simp only [Act.put, List.setIfInBounds_toArray, List.set_cons_zero, List.set_cons_succ])))); refine wpQuiet_nil ?_
        intro w1 hf1
        clear e0 q0 q1 HC HM
        replace hZ := hZ.keep hf1
        obtain ⟨z0, z1, z2⟩ := hZ.c3
        have hZl1 := hZ.lt
        have zf := fun j => hZ.frozen j
        replace k0 := hf1.keep0 k0
        replace k1 := hf1.keep0 k1
        have hkl := lt_of_cell k0
        go_wp2
        refine bodyPost_ret (v := .tuple #[.agg #[.int .i64 kr, .string s1, .int .i64 ix], .bool true]) (by simp [results, Tryz.results32, go_sem, *]) rfl ?_
        exact .mk1 (by rw [HS.out]; rfl) (by exact frc)
    · have HS : Hid (pickGo p s xs = none) := hd.out.trans (by rw [List.drop_eq_nil_of_le (by omega)]; rfl)
      clear h hkw hu hd
      go_wp2
      refine bodyPost_ret (v := .tuple #[.agg #[.int .i64 0, .string ⟨#[]⟩, .int .i64 0], .bool false]) (by simp [results, Tryz.results32, go_sem, *]) rfl ?_
      exact .mk1 (by rw [HS.out]; rfl) (by exact frc)
end Go.Proofs.YtghmnkafpnkojaaGreatDoor
