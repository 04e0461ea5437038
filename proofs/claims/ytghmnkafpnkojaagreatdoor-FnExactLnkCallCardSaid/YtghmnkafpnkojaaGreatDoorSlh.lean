/- The reference: whether two keepers mean the same by a kind, by a method; whether two methods take and give back the same kinds. -/
import Derived.Test.YtghmnkafpnkojaaGreatDoorSlf
namespace Go.Proofs.YtghmnkafpnkojaaGreatDoor
open Go.RowKit

set_option maxRecDepth 100000 in
set_option maxHeartbeats 4000000 in
theorem s_agree (X : Nat → Prop) (p : Plan) (v : Value) (a b : Nat) (k : Knd) (w : World) (hp : lodB p = true) (h : Sl X w 2 (KprC X w) v p.keepers) (ha : a < p.keepers.length) (hb : b < p.keepers.length) (hs : k.name.size ≤ maxLen) :
    Calls Tryz.prog 45 #[.agg #[v], .int .i64 a, .int .i64 b, .agg #[.int .i64 k.kind, .string k.name]] w (BoolFr (agreeK p a b k) w) := by
  obtain ⟨A, cap, rfl, hcap, hlen⟩ := h.form
  have hkw := fun W (hW : Fr No w W) => h.keep (R' := KprC X W) hW (fun _ h => h.elim) (fun _ _ _ h => h.keep hW (fun _ h => h.elim))
  have HA := fun W (hW : Fr No w W) => s_find X p _ a k.name W hp (hkw W hW) ha hs
  have HB := fun W (hW : Fr No w W) => s_find X p _ b k.name W hp (hkw W hW) hb hs
  obtain ⟨V, hV⟩ : ∃ V, V = agreeK p a b k := ⟨_, rfl⟩
  rw [← hV]
  have hself := @agreeK_self p a k
  by_cases hab : a = b
  · subst hab
    rw [hself] at hV
    clear HA HB h hkw hself
    replace hV := Lib.hid hV
    by_cases hk : k.kind = 1
    all_goals
      try have hk' : (k.kind == 1) = false := by simpa using hk
      obtain ⟨kd, kn⟩ := k
      dsimp only at *
      try subst hk
      go_enter Tryz.func45, Tryz.ntmps45
      go_wp2
      go_ret
      exact .mk hV.out.symm (by exact frc)
  · have hab' : ((a : Int) == (b : Int)) = false := by simp; omega
    have hab2 : ¬ ((a : Int) = (b : Int)) := by omega
    unfold agreeK at hV
    obtain ⟨kd, kn⟩ := k
    dsimp only at *
    clear hself
    by_cases hk : kd = 1
    · subst hk
      rw [if_pos rfl] at hV
      replace hV := Lib.hid hV
      clear HA HB h hkw
      go_enter Tryz.func45, Tryz.ntmps45
      go_wp2
      go_ret
      exact .mk hV.out.symm (by exact frc)
    · rw [if_neg hk] at hV
      have hk' : (kd == 1) = false := by simpa using hk
      have hx : (findK p a kn).2 = 1 → (findK p b kn).2 = 1 → (findK p a kn).1.name = (findK p b kn).1.name := fun h1 h2 => by
        obtain ⟨k1, i1, _, e1, _⟩ := findK_here hp h1
        obtain ⟨k2, i2, _, e2, _⟩ := findK_here hp h2
        rw [e1, e2]
      unfold refV at HA HB
      generalize findK p a kn = qa at *
      generalize findK p b kn = qb at *
      obtain ⟨⟨ka, na⟩, ca⟩ := qa
      obtain ⟨⟨kb, nb⟩, cb⟩ := qb
      dsimp only at *
      have hcase : (ca = 1 ∧ cb = 1 ∧ ka = kb) ∨ (ca = 1 ∧ cb = 1 ∧ (ka == kb) = false) ∨ (ca = 1 ∧ (cb != 1) = true) ∨ ((ca != 1) = true ∧ cb = 1) ∨ ((ca != 1) = true ∧ (cb != 1) = true) := by
        by_cases h1 : ca = 1 <;> by_cases h2 : cb = 1 <;> by_cases h3 : ka = kb <;> simp [h1, h2, h3]
      clear hk h hkw hab
      replace hV := Lib.hid hV
      rcases hcase with ⟨rfl, rfl, rfl⟩ | ⟨rfl, rfl, hkk⟩ | ⟨rfl, hc2⟩ | ⟨hc1, rfl⟩ | ⟨hc1, hc2⟩
      · obtain rfl : na = nb := hx (by first | trivial | rfl) (by first | trivial | rfl)
        have hE : V = true := by rw [hV.out]; simp
        clear hx hV
        replace hE := Lib.hid hE
        go_enter Tryz.func45, Tryz.ntmps45
        go_wp2_with fail
        refine (HA _ ?_).mono ?_
        · exact frc
        rintro e w1 ⟨rfl, hf1⟩
        have hP1 := ((Bx.new w 34 #[.slice A p.keepers.length cap]).alloc (.cells #[.int .i64 kd, .string kn] 40)).keep hf1
        have hK1 := (show Bx ((w.alloc (.cells #[.slice A p.keepers.length cap] 34)).alloc (.cells #[.int .i64 kd, .string kn] 40)) (w.heap.size + 1) 40 #[.int .i64 kd, .string kn] from Bx.new_ (by simp)).keep hf1
        have p0 := hP1.c1
        obtain ⟨a0, a1⟩ := hK1.c2
        have la := hK1.lt
        have lp := hP1.lt
        go_wp2_with fail
        refine (HB _ ?_).mono ?_
        · exact frc
        rintro e w2 ⟨rfl, hf2⟩
        have hR1 := (Bx.new w1 27 #[.int .i64 ka, .string na]).keep hf2
        obtain ⟨b0, b1⟩ := hR1.c2
        have lb := hR1.lt
        clear a0 a1 la p0 lp
        go_wp2
        go_ret
        exact .mk hE.out.symm (by exact frc)
      · obtain rfl : na = nb := hx (by first | trivial | rfl) (by first | trivial | rfl)
        have hE : V = false := by rw [hV.out]; simpa using hkk
        have hkk' : (kb == ka) = false := beq_eq_false_iff_ne.2 (Ne.symm (beq_eq_false_iff_ne.1 hkk))
        clear hx hV
        replace hE := Lib.hid hE
        go_enter Tryz.func45, Tryz.ntmps45
        go_wp2_with fail
        refine (HA _ ?_).mono ?_
        · exact frc
        rintro e w1 ⟨rfl, hf1⟩
        have hP1 := ((Bx.new w 34 #[.slice A p.keepers.length cap]).alloc (.cells #[.int .i64 kd, .string kn] 40)).keep hf1
        have hK1 := (show Bx ((w.alloc (.cells #[.slice A p.keepers.length cap] 34)).alloc (.cells #[.int .i64 kd, .string kn] 40)) (w.heap.size + 1) 40 #[.int .i64 kd, .string kn] from Bx.new_ (by simp)).keep hf1
        have p0 := hP1.c1
        obtain ⟨a0, a1⟩ := hK1.c2
        have la := hK1.lt
        have lp := hP1.lt
        go_wp2_with fail
        refine (HB _ ?_).mono ?_
        · exact frc
        rintro e w2 ⟨rfl, hf2⟩
        have hR1 := (Bx.new w1 27 #[.int .i64 ka, .string na]).keep hf2
        obtain ⟨b0, b1⟩ := hR1.c2
        have lb := hR1.lt
        clear a0 a1 la p0 lp
        go_wp2
        go_ret
        exact .mk hE.out.symm (by exact frc)
      all_goals
        have hE : Hid (V = _) := hV
        clear hx
        try have hc1' : (ca == 1) = false := by simpa using hc1
        try have hc2' : (cb == 1) = false := by simpa using hc2
        go_enter Tryz.func45, Tryz.ntmps45
        go_wp2_with fail
        refine (HA _ ?_).mono ?_
        · exact frc
        rintro e w1 ⟨rfl, hf1⟩
        have hP1 := ((Bx.new w 34 #[.slice A p.keepers.length cap]).alloc (.cells #[.int .i64 kd, .string kn] 40)).keep hf1
        have hK1 := (show Bx ((w.alloc (.cells #[.slice A p.keepers.length cap] 34)).alloc (.cells #[.int .i64 kd, .string kn] 40)) (w.heap.size + 1) 40 #[.int .i64 kd, .string kn] from Bx.new_ (by simp)).keep hf1
        have p0 := hP1.c1
        obtain ⟨a0, a1⟩ := hK1.c2
        have la := hK1.lt
        have lp := hP1.lt
        go_wp2_with fail
        refine (HB _ ?_).mono ?_
        · exact frc
        rintro e w2 ⟨rfl, hf2⟩
        clear a0 a1 la p0 lp
        go_wp2
        go_ret
        refine .mk ?_ (by exact frc)
        rw [hE.out]
        simp_all

set_option maxRecDepth 100000 in
set_option maxHeartbeats 4000000 in
theorem s_shape (X Y : Nat → Prop) (p : Plan) (v : Value) (a b : Nat) (m : Mth) (cs : List Value) (w : World) (hp : lodB p = true) (h : Sl X w 2 (KprC X w) v p.keepers) (ha : a < p.keepers.length) (hb : b < p.keepers.length) (hm : MthC Y w cs m) :
    Calls Tryz.prog 33 #[.agg #[v], .int .i64 a, .int .i64 b, .agg cs.toArray] w (BoolFr (agreeM p a b m) w) := by
  obtain ⟨va, vc, vm, rfl, hn, hrn, har, hvc, hvm⟩ := hm
  obtain ⟨B, capb, rfl, hcapb, hlenb⟩ := har.form
  obtain ⟨Ac, cc, rfl, _, _⟩ := hvc.form
  obtain ⟨Am, cm, rfl, _, _⟩ := hvm.form
  clear hvc hvm
  obtain ⟨A, cap, rfl, hcap, hlen⟩ := h.form
  unfold maxLen at hlenb
  have hkw := fun W (hW : Fr No w W) => h.keep (R' := KprC X W) hW (fun _ h => h.elim) (fun _ _ _ h => h.keep hW (fun _ h => h.elim))
  have HR := fun W (hW : Fr No w W) => s_agree X p _ a b m.ret W hp (hkw W hW) ha hb hrn
  have hB := (Bx.new w 34 #[.slice A p.keepers.length cap]).alloc (.cells #[.string m.name, .slice B m.args.length capb, .int .i64 m.ret.kind, .string m.ret.name, .int .i64 m.locals, .int .i64 m.stack, .slice Ac m.code.length cc, .slice Am m.maps.length cm] 85)
  have hM : Bx ((w.alloc (.cells #[.slice A p.keepers.length cap] 34)).alloc (.cells #[.string m.name, .slice B m.args.length capb, .int .i64 m.ret.kind, .string m.ret.name, .int .i64 m.locals, .int .i64 m.stack, .slice Ac m.code.length cc, .slice Am m.maps.length cm] 85)) (w.heap.size + 1) 85 #[.string m.name, .slice B m.args.length capb, .int .i64 m.ret.kind, .string m.ret.name, .int .i64 m.locals, .int .i64 m.stack, .slice Ac m.code.length cc, .slice Am m.maps.length cm] := Bx.new_ (by simp)
  have hw0 : Fr No w ((w.alloc (.cells #[.slice A p.keepers.length cap] 34)).alloc (.cells #[.string m.name, .slice B m.args.length capb, .int .i64 m.ret.kind, .string m.ret.name, .int .i64 m.locals, .int .i64 m.stack, .slice Ac m.code.length cc, .slice Am m.maps.length cm] 85)) := ((Fr.refl No w).alloc _).alloc _
  go_enter Tryz.func33, Tryz.ntmps33
  go_wp2
  go_loopw [9, 8] (fun i r wr => ∃ k : Nat, k ≤ m.args.length ∧ i = .int .i64 k ∧ r = .bool false ∧ Hid (m.args.all (agreeK p a b) = (m.args.drop k).all (agreeK p a b)) ∧
    Bx wr w.heap.size 34 #[.slice A p.keepers.length cap] ∧
    Bx wr (w.heap.size + 1) 85 #[.string m.name, .slice B m.args.length capb, .int .i64 m.ret.kind, .string m.ret.name, .int .i64 m.locals, .int .i64 m.stack, .slice Ac m.code.length cc, .slice Am m.maps.length cm] ∧ Fr No w wr) (fun i _ _ => m.args.length - (intOf i).toNat)
  case atStart => exact ⟨0, Nat.zero_le _, rfl, rfl, rfl, hB, hM, hw0⟩
  case round =>
    clear hB hM hw0
    obtain ⟨k, hk, rfl, rfl, hd, hB, hM, hw⟩ := hrel
    have p0 := hB.c1
    obtain ⟨b0, b1, b2, b3, b4, b5, b6, b7⟩ := hM.c8
    have hBl := hB.lt
    have hMl := hM.lt
    by_cases hlt : k < m.args.length
    · obtain ⟨b9, off, rfl, hX, c0, c1, hs⟩ := (har.keep hw (fun _ h => h.elim) (fun _ _ _ h => h)).knd hlt
      have hbl := lt_of_cell c0
      have H := fun W (hW : Fr No wr W) => s_agree X p _ a b m.args[k] W hp (hkw W (hw.trans0 hW)) ha hb hs
      clear har HR hkw h
      rw [List.drop_eq_getElem_cons hlt, List.all_cons] at hd
      have hd := Lib.hid hd
      generalize m.args[k] = x at *
      have e0 := fun W (h : Fr No wr W) => (hB.keep h).c1
      have e1 := fun W (h : Fr No wr W) => (hM.keep h).c8.2.1
      have q0 := fun W (h : Fr No wr W) => h.keep0 c0
      have q1 := fun W (h : Fr No wr W) => h.keep0 c1
      go_wp2_with fail
      (refine wp_region_fr (X := No) (by kernel_rfl) (by kernel_rfl) ?_)
      clear p0 b0 b1 b2 b3 b4 b5 b6 b7 c0 c1
      cases hx : agreeK p a b x
      · rw [hx] at H
        have HS : Hid (agreeM p a b m = false) := by show agreeM p a b m = false; unfold agreeM; rw [hd.out.out, hx]; rfl
        clear hx hd
        (repeat (first | (go_big_quiet_skip; (try simp only [Act.put, List.setIfInBounds_toArray, List.set_cons_zero, List.set_cons_succ])) | (go_big_quiet_want; (apply Exists.intro; refine ⟨fun W hW => ?_, ?_⟩); (focus (go_simp; (try simp only [↓IntWalk.iteOmega]); (try simp only [reduceIte]); first | done | exact rfl | exact ⟨trivial, rfl⟩ | exact ⟨rfl, rfl⟩ | (go_at_call 45; exact (H W hW).mono (fun _ _ h => BoolFr.toFr h hW)))); go_big_quiet_on; (try simp only [Act.put, List.setIfInBounds_toArray, List.set_cons_zero, List.set_cons_succ])))); refine wpQuiet_nil ?_
        intro w1 hf1
        clear e0 e1 q0 q1 H
        go_wp2
        go_ret; exact .mk (by rw [HS.out]) (by exact frc)
      · rw [hx] at H
        have HS : Hid (m.args.all (agreeK p a b) = (m.args.drop (k + 1)).all (agreeK p a b)) := hd.out.out.trans (by rw [hx, Bool.true_and])
        clear hx hd
        (repeat (first | (go_big_quiet_skip; (try simp only [Act.put, List.setIfInBounds_toArray, List.set_cons_zero, List.set_cons_succ])) | (go_big_quiet_want; (apply Exists.intro; refine ⟨fun W hW => ?_, ?_⟩); (focus (go_simp; (try simp only [↓IntWalk.iteOmega]); (try simp only [reduceIte]); first | done | exact rfl | exact ⟨trivial, rfl⟩ | exact ⟨rfl, rfl⟩ | (go_at_call 45; exact (H W hW).mono (fun _ _ h => BoolFr.toFr h hW)))); go_big_quiet_on; (try simp only [Act.put, List.setIfInBounds_toArray, List.set_cons_zero, List.set_cons_succ])))); refine wpQuiet_nil ?_
        intro w1 hf1
        clear e0 e1 q0 q1 H
        go_wp2
        go_roundw
        case rel => exact ⟨k + 1, by omega, by go_num, rfl, HS, hB.keep hf1, hM.keep hf1, by exact frc⟩
        case measure => simp [intOf]; omega
    · have HS : Hid (agreeM p a b m = agreeK p a b m.ret) := by
        show agreeM p a b m = _
        unfold agreeM
        rw [hd.out, List.drop_eq_nil_of_le (by omega)]; rfl
      clear har hd h hkw
      go_wp2_with (go_at_call 45; refine (HR _ (by exact frc)).mono ?_; rintro e w2 ⟨rfl, hf2⟩)
      go_ret
      exact .mk (by rw [HS.out]) (by exact frc)

/-- Do two methods take and give back the same kinds? -/
def sameM (a b : Mth) : Bool := kEq a.ret b.ret && ksEq a.args b.args
theorem kEq_iff {a b : Knd} : kEq a b = true ↔ a.kind = b.kind ∧ a.name = b.name := by
  unfold kEq
  rw [Bool.and_eq_true, beq_iff_eq, beq_iff_eq]
  exact ⟨fun h => ⟨h.1, str_eq h.2⟩, fun h => ⟨h.1, by rw [h.2]⟩⟩

set_option maxRecDepth 100000 in
set_option maxHeartbeats 4000000 in
theorem s_same (X Y : Nat → Prop) (a b : Mth) (cs ds : List Value) (w : World) (ha : MthC X w cs a) (hb : MthC Y w ds b) :
    Calls Tryz.prog 103 #[.agg cs.toArray, .agg ds.toArray] w (BoolFr (sameM a b) w) := by
  obtain ⟨va, vc, vm, rfl, hn, hrn, har, hvc, hvm⟩ := ha
  obtain ⟨ua, uc, um, rfl, gn, grn, gar, guc, gum⟩ := hb
  obtain ⟨A, cap, rfl, hcap, hlen⟩ := har.form
  obtain ⟨B, cap2, rfl, hcap2, hlen2⟩ := gar.form
  clear hvc hvm guc gum
  unfold maxLen at hlen hlen2
  have hA := (Bx.new w 85 #[.string a.name, .slice A a.args.length cap, .int .i64 a.ret.kind, .string a.ret.name, .int .i64 a.locals, .int .i64 a.stack, vc, vm]).alloc (.cells #[.string b.name, .slice B b.args.length cap2, .int .i64 b.ret.kind, .string b.ret.name, .int .i64 b.locals, .int .i64 b.stack, uc, um] 85)
  have hB : Bx ((w.alloc (.cells #[.string a.name, .slice A a.args.length cap, .int .i64 a.ret.kind, .string a.ret.name, .int .i64 a.locals, .int .i64 a.stack, vc, vm] 85)).alloc (.cells #[.string b.name, .slice B b.args.length cap2, .int .i64 b.ret.kind, .string b.ret.name, .int .i64 b.locals, .int .i64 b.stack, uc, um] 85)) (w.heap.size + 1) 85 #[.string b.name, .slice B b.args.length cap2, .int .i64 b.ret.kind, .string b.ret.name, .int .i64 b.locals, .int .i64 b.stack, uc, um] := Bx.new_ (by simp)
  have hw0 : Fr No w ((w.alloc (.cells #[.string a.name, .slice A a.args.length cap, .int .i64 a.ret.kind, .string a.ret.name, .int .i64 a.locals, .int .i64 a.stack, vc, vm] 85)).alloc (.cells #[.string b.name, .slice B b.args.length cap2, .int .i64 b.ret.kind, .string b.ret.name, .int .i64 b.locals, .int .i64 b.stack, uc, um] 85)) := ((Fr.refl No w).alloc _).alloc _
  by_cases hll : a.args.length = b.args.length
  · have hd0 : ((a.args.length : Int) != (b.args.length : Int)) = false := by simp; omega
    have hcase : ((a.ret.kind == b.ret.kind) = true ∧ (a.ret.name.toList == b.ret.name.toList) = true) ∨ ((a.ret.kind == b.ret.kind) = false) ∨ ((a.ret.kind == b.ret.kind) = true ∧ (a.ret.name.toList == b.ret.name.toList) = false) := by
      cases (a.ret.kind == b.ret.kind) <;> cases (a.ret.name.toList == b.ret.name.toList) <;> simp
    rcases hcase with ⟨g1, g2⟩ | g1 | ⟨g1, g2⟩
    · have HS0 : Hid (sameM a b = ksEq a.args b.args) := by show sameM a b = _; unfold sameM kEq; rw [g1, g2]; rfl
      have g3 : (a.ret.kind != b.ret.kind) = false := by rw [bne, g1]; rfl
      have g4 : (a.ret.name.toList != b.ret.name.toList) = false := by rw [bne, g2]; rfl
      replace hll := Lib.hid hll
      go_enter Tryz.func103, Tryz.ntmps103
      go_wp2
      clear g1 g2 g3 g4
      go_loopw [5, 4] (fun i r wr => ∃ k : Nat, k ≤ a.args.length ∧ i = .int .i64 k ∧ r = .bool false ∧ Hid (ksEq a.args b.args = ksEq (a.args.drop k) (b.args.drop k)) ∧
        Bx wr w.heap.size 85 #[.string a.name, .slice A a.args.length cap, .int .i64 a.ret.kind, .string a.ret.name, .int .i64 a.locals, .int .i64 a.stack, vc, vm] ∧
        Bx wr (w.heap.size + 1) 85 #[.string b.name, .slice B b.args.length cap2, .int .i64 b.ret.kind, .string b.ret.name, .int .i64 b.locals, .int .i64 b.stack, uc, um] ∧ Fr No w wr) (fun i _ _ => a.args.length - (intOf i).toNat)
      case atStart => exact ⟨0, Nat.zero_le _, rfl, rfl, rfl, hA, hB, hw0⟩
      case round =>
        clear hA hB hw0
        obtain ⟨k, hk, rfl, rfl, hd, hA, hB, hw⟩ := hrel
        obtain ⟨a0, a1, a2, a3, a4, a5, a6, a7⟩ := hA.c8
        obtain ⟨b0, b1, b2, b3, b4, b5, b6, b7⟩ := hB.c8
        have hAl := hA.lt
        have hBl := hB.lt
        by_cases hlt : k < a.args.length
        · have hlt2 : k < b.args.length := by have := hll.out; omega
          obtain ⟨b9, off, rfl, hX, c0, c1, _⟩ := (har.keep hw (fun _ h => h.elim) (fun _ _ _ h => h)).knd hlt
          obtain ⟨b8, off2, rfl, hX2, d0, d1, _⟩ := (gar.keep hw (fun _ h => h.elim) (fun _ _ _ h => h)).knd hlt2
          rw [List.drop_eq_getElem_cons hlt, List.drop_eq_getElem_cons hlt2, ksEq] at hd
          have hd := Lib.hid hd
          clear har gar
          generalize a.args[k] = x at *
          generalize b.args[k] = y at *
          have e1 := fun W (h : Fr No wr W) => (hA.keep h).c8.2.1
          have e2 := fun W (h : Fr No wr W) => (hB.keep h).c8.2.1
          have q0 := fun W (h : Fr No wr W) => h.keep0 c0
          have q1 := fun W (h : Fr No wr W) => h.keep0 c1
          have p0 := fun W (h : Fr No wr W) => h.keep0 d0
          have p1 := fun W (h : Fr No wr W) => h.keep0 d1
          have hcase : ((x.kind == y.kind) = true ∧ (x.name.toList == y.name.toList) = true) ∨ ((x.kind == y.kind) = false) ∨ ((x.kind == y.kind) = true ∧ (x.name.toList == y.name.toList) = false) := by
            cases (x.kind == y.kind) <;> cases (x.name.toList == y.name.toList) <;> simp
          go_wp2_with fail
          (refine wp_region_fr (X := No) (by kernel_rfl) (by kernel_rfl) ?_)
          clear a0 a1 a2 a3 a4 a5 a6 a7 b0 b1 b2 b3 b4 b5 b6 b7 c0 c1 d0 d1
          rcases hcase with ⟨g1, g2⟩ | g1 | ⟨g1, g2⟩
          · have HS : Hid (ksEq a.args b.args = ksEq (a.args.drop (k + 1)) (b.args.drop (k + 1))) := by
              have := hd.out.out; unfold kEq at this; rwa [g1, g2, Bool.true_and, Bool.true_and] at this
            have g3 : (x.kind != y.kind) = false := by rw [bne, g1]; rfl
            have g4 : (x.name.toList != y.name.toList) = false := by rw [bne, g2]; rfl
            (repeat (first | (go_big_quiet_skip; (try simp only [Act.put, List.setIfInBounds_toArray, List.set_cons_zero, List.set_cons_succ])) | (go_big_quiet_want; (apply Exists.intro; refine ⟨fun W hW => ?_, ?_⟩); (focus (go_simp; (try simp only [↓IntWalk.iteOmega]); (try simp only [reduceIte]); first | done | exact rfl | exact ⟨trivial, rfl⟩ | exact ⟨rfl, rfl⟩ | fail)); go_big_quiet_on; (try simp only [Act.put, List.setIfInBounds_toArray, List.set_cons_zero, List.set_cons_succ])))); refine wpQuiet_nil ?_
            intro w1 hf1
            clear q0 q1 p0 p1 e1 e2
            go_wp2
            go_roundw
            case rel => exact ⟨k + 1, by omega, by go_num, rfl, HS, hA.keep hf1, hB.keep hf1, by exact frc⟩
            case measure => simp [intOf]; omega
          all_goals
            have HS : Hid (sameM a b = false) := by
              have := hd.out.out; unfold kEq at this
              show sameM a b = false
              rw [HS0.out]
              first
                | (rw [g1, g2] at this; simpa using this)
                | (rw [g1] at this; simpa using this)
            (repeat (first | (go_big_quiet_skip; (try simp only [Act.put, List.setIfInBounds_toArray, List.set_cons_zero, List.set_cons_succ])) | (go_big_quiet_want; (apply Exists.intro; refine ⟨fun W hW => ?_, ?_⟩); (focus (go_simp; (try simp only [↓IntWalk.iteOmega]); (try simp only [reduceIte]); first | done | exact rfl | exact ⟨trivial, rfl⟩ | exact ⟨rfl, rfl⟩ | fail)); go_big_quiet_on; (try simp only [Act.put, List.setIfInBounds_toArray, List.set_cons_zero, List.set_cons_succ])))); refine wpQuiet_nil ?_
            intro w1 hf1
            clear q0 q1 p0 p1 e1 e2
            go_wp2
            go_ret
            exact .mk HS.out.symm (by exact frc)
        · have HS : Hid (sameM a b = true) := by
            have := hd.out
            rw [List.drop_eq_nil_of_le (by omega), List.drop_eq_nil_of_le (by have := hll.out; omega)] at this
            exact HS0.out.trans this
          clear har gar hd
          go_wp2
          go_ret
          exact .mk HS.out.symm (by exact frc)
    all_goals
      have HS : Hid (sameM a b = false) := by show sameM a b = false; unfold sameM kEq; first | (rw [g1, g2]; rfl) | (rw [g1]; rfl)
      clear har gar
      replace hll := Lib.hid hll
      go_enter Tryz.func103, Tryz.ntmps103
      go_wp2
      go_ret
      exact .mk HS.out.symm (by exact frc)
  · have HS : Hid (sameM a b = false) := by show sameM a b = false; unfold sameM; rw [ksEq_len hll]; simp
    have hd0 : ((a.args.length : Int) != (b.args.length : Int)) = true := by simp; omega
    clear har gar
    replace hll := Lib.hid hll
    go_enter Tryz.func103, Tryz.ntmps103
    go_wp2
    go_ret
    exact .mk HS.out.symm (by exact frc)
end Go.Proofs.YtghmnkafpnkojaaGreatDoor
