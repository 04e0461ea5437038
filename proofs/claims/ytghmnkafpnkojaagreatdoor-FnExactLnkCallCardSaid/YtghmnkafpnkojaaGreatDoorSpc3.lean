/- The reference's check of a method's stack maps. -/
import Derived.Test.YtghmnkafpnkojaaGreatDoorSpc2
namespace Go.Proofs.YtghmnkafpnkojaaGreatDoor
open Go.RowKit

theorem mapAt1_eq {len locals stack last : Int} {x : Mp} (b1 b2 b3 b4 b5 b6 : Bool) (h1 : (decide (1 ≤ x.at_) && decide (x.at_ ≤ len - 1)) = b1) (h2 : decide (x.at_ ≤ last) = b2) (h3 : ((x.locals.length : Int) != locals) = b3)
    (h4 : decide (stack < (x.stack.length : Int)) = b4) (h5 : x.locals.all tagB = b5) (h6 : x.stack.all tagB = b6) (h0 : 0 ≤ last) :
    mapAt1 len locals stack last x = (b1 && !b2 && !b3 && !b4 && b5 && b6) := by
  subst h1 h2 h3 h4 h5 h6
  have e1 : decide (last < x.at_) = !decide (x.at_ ≤ last) := by rw [← decide_not]; congr 1; exact propext (by omega)
  have e4 : decide ((x.stack.length : Int) ≤ stack) = !decide (stack < (x.stack.length : Int)) := by rw [← decide_not]; congr 1; exact propext (by omega)
  have e3 : decide ((x.locals.length : Int) = locals) = !((x.locals.length : Int) != locals) := by simp [bne]; rfl
  have e2 : (decide (1 ≤ x.at_) && decide (x.at_ ≤ len - 1) && !decide (x.at_ ≤ last)) = (decide (last < x.at_) && decide (x.at_ < len)) := by
    rw [Bool.eq_iff_iff]; simp; omega
  unfold mapAt1
  rw [e2, e3, e4]

set_option maxRecDepth 100000 in
set_option maxHeartbeats 8000000 in
theorem s_maps (X : Nat → Prop) (m : Mth) (cs : List Value) (w : World) (h : MthC X w cs m) :
    Calls Tryz.prog 102 #[.agg cs.toArray] w (BoolFr (mapsB m) w) := by
  obtain ⟨va, vc, vm, rfl, _, _, ha, hc, hm⟩ := h
  obtain ⟨A, cap, rfl, hcap, hlen⟩ := hm.form
  obtain ⟨Ac, cc, rfl, _, hcl⟩ := hc.form
  have hlen' := hlen
  unfold maxLen at hlen' hcl
  clear ha hc
  have hB := Bx.new w 85 #[.string m.name, va, .int .i64 m.ret.kind, .string m.ret.name, .int .i64 m.locals, .int .i64 m.stack, .slice Ac m.code.length cc, .slice A m.maps.length cap]
  have hw0 : Fr No w (w.alloc (.cells #[.string m.name, va, .int .i64 m.ret.kind, .string m.ret.name, .int .i64 m.locals, .int .i64 m.stack, .slice Ac m.code.length cc, .slice A m.maps.length cap] 85)) := (Fr.refl No w).alloc _
  by_cases hr : m.maps.length ≤ 5
  · have d1 : decide (5 < (m.maps.length : Int)) = false := by simp; omega
    have hb : Hid (mapsB m = mapsGo m.code.length m.locals m.stack 0 m.maps) := by unfold Hid mapsB; rw [decide_eq_true hr]; rfl
    go_enter Tryz.func102, Tryz.ntmps102
    go_wp2
    go_loopw [3, 2] (fun i r wr => ∃ (k : Nat) (l : Int), k ≤ m.maps.length ∧ i = .int .i64 k ∧ r = .bool false ∧ Hid (mapsB m = mapsGo m.code.length m.locals m.stack l (m.maps.drop k)) ∧ Hid ((k = 0 ∧ l = 0) ∨ ∃ k', ∃ h : k' < m.maps.length, k' + 1 = k ∧ l = m.maps[k'].at_ ∧ 0 ≤ l) ∧
      Bx wr w.heap.size 85 #[.string m.name, va, .int .i64 m.ret.kind, .string m.ret.name, .int .i64 m.locals, .int .i64 m.stack, .slice Ac m.code.length cc, .slice A m.maps.length cap] ∧ Fr No w wr) (fun i _ _ => m.maps.length - (intOf i).toNat)
    case atStart => exact ⟨0, 0, Nat.zero_le _, rfl, rfl, hb, .inl ⟨rfl, rfl⟩, hB, hw0⟩
    case round =>
      clear hB hw0 hb
      obtain ⟨k, l, hk, rfl, rfl, ha, hkl, hB', hw⟩ := hrel
      obtain ⟨b0, b1, b2, b3, b4, b5, b6, b7⟩ := hB'.c8
      have hBl := hB'.lt
      by_cases hlt : k < m.maps.length
      · have hmw := hm.keep hw (fun _ h => h.elim) (fun _ _ _ h => h.keep hw (fun _ h => h.elim))
        obtain ⟨b, off, Al, cl, As, cs, rfl, hX, c0, c1, c2, hl, hs, _, hll, _, hsl⟩ := hmw.map hlt
        clear hm
        have H1 := fun W (h : Fr No wr W) => s_tags X _ m.maps[k].locals W (hl.keep h (fun _ h => h.elim) (fun _ _ _ h => h))
        have H2 := fun W (h : Fr No wr W) => s_tags X _ m.maps[k].stack W (hs.keep h (fun _ h => h.elim) (fun _ _ _ h => h))
        clear hl hs
        unfold maxLen at hll hsl
        rw [List.drop_eq_getElem_cons hlt] at ha
        -- what stands ahead
        have hprev : Hid ((k = 0 ∧ l = 0) ∨ (0 < k ∧ 0 ≤ l ∧ ∃ k', k' + 1 = k ∧ wr.cell? ⟨b, off + k' * 3, none⟩ = some (.int .i64 l))) := by
          rcases hkl.out with ⟨h1, h2⟩ | ⟨k', hk', he, h2, h3⟩
          · exact .inl ⟨h1, h2⟩
          · obtain ⟨b', off', Al', cl', As', cs', he', _, c0', _⟩ := hmw.map hk'
            simp only [Option.some.injEq, Addr.mk.injEq, and_true] at he'
            obtain ⟨rfl, rfl⟩ := he'
            exact .inr ⟨by omega, h3, k', he, by rw [h2]; exact c0'⟩
        clear hmw
        have hbl := lt_of_cell c0
        have hnext : Hid (0 ≤ m.maps[k].at_ → ((k + 1 = 0 ∧ m.maps[k].at_ = 0) ∨ ∃ k', ∃ h : k' < m.maps.length, k' + 1 = k + 1 ∧ m.maps[k].at_ = m.maps[k'].at_ ∧ 0 ≤ m.maps[k].at_)) := fun h0 => .inr ⟨k, hlt, rfl, rfl, h0⟩
        clear hkl
        generalize m.maps[k] = x at *
        have hl1 := fun W => s_l1In x.at_ 1 (m.code.length - 1) W
        have wl : IntKind.i64.wrap ((m.code.length : Int) - 1) = (m.code.length : Int) - 1 := IntWalk.i64_in _ (by omega)
        have hl0 : 0 ≤ l := by rcases hprev.out with ⟨_, h⟩ | ⟨_, h, _⟩ <;> omega
        have hcase : (decide (1 ≤ x.at_) && decide (x.at_ ≤ (m.code.length : Int) - 1)) = false ∨
            ((decide (1 ≤ x.at_) && decide (x.at_ ≤ (m.code.length : Int) - 1)) = true ∧ decide (x.at_ ≤ l) = true) ∨
            ((decide (1 ≤ x.at_) && decide (x.at_ ≤ (m.code.length : Int) - 1)) = true ∧ decide (x.at_ ≤ l) = false ∧ ((x.locals.length : Int) != m.locals) = true) ∨
            ((decide (1 ≤ x.at_) && decide (x.at_ ≤ (m.code.length : Int) - 1)) = true ∧ decide (x.at_ ≤ l) = false ∧ ((x.locals.length : Int) != m.locals) = false ∧ decide (m.stack < (x.stack.length : Int)) = true) ∨
            ((decide (1 ≤ x.at_) && decide (x.at_ ≤ (m.code.length : Int) - 1)) = true ∧ decide (x.at_ ≤ l) = false ∧ ((x.locals.length : Int) != m.locals) = false ∧ decide (m.stack < (x.stack.length : Int)) = false ∧ x.locals.all tagB = false) ∨
            ((decide (1 ≤ x.at_) && decide (x.at_ ≤ (m.code.length : Int) - 1)) = true ∧ decide (x.at_ ≤ l) = false ∧ ((x.locals.length : Int) != m.locals) = false ∧ decide (m.stack < (x.stack.length : Int)) = false ∧ x.locals.all tagB = true ∧ x.stack.all tagB = false) ∨
            ((decide (1 ≤ x.at_) && decide (x.at_ ≤ (m.code.length : Int) - 1)) = true ∧ decide (x.at_ ≤ l) = false ∧ ((x.locals.length : Int) != m.locals) = false ∧ decide (m.stack < (x.stack.length : Int)) = false ∧ x.locals.all tagB = true ∧ x.stack.all tagB = true) := by
          cases (decide (1 ≤ x.at_) && decide (x.at_ ≤ (m.code.length : Int) - 1)) <;> cases decide (x.at_ ≤ l) <;> cases ((x.locals.length : Int) != m.locals) <;> cases decide (m.stack < (x.stack.length : Int)) <;> cases x.locals.all tagB <;> cases x.stack.all tagB <;> simp
        have hA : Fr No wr (wr.alloc (.cells #[.int .i64 x.at_, .slice Al x.locals.length cl, .slice As x.stack.length cs] 220)) := (Fr.refl No wr).alloc _
        have EB := fun W (h : Fr No (wr.alloc (.cells #[.int .i64 x.at_, .slice Al x.locals.length cl, .slice As x.stack.length cs] 220)) W) => ((hB'.alloc _).keep h).c8
        have EX := fun W (h : Fr No (wr.alloc (.cells #[.int .i64 x.at_, .slice Al x.locals.length cl, .slice As x.stack.length cs] 220)) W) => ((Bx.new wr 220 _).keep h).c3
        have e4 := fun W h => (EB W h).2.2.2.2.1
        have e5 := fun W h => (EB W h).2.2.2.2.2.1
        have e6 := fun W h => (EB W h).2.2.2.2.2.2.1
        have e7 := fun W h => (EB W h).2.2.2.2.2.2.2
        have x0 := fun W h => (EX W h).1
        have x1 := fun W h => (EX W h).2.1
        have x2 := fun W h => (EX W h).2.2
        clear EB EX
        have HM : mapAt1 m.code.length m.locals m.stack l x = true → Hid (mapsB m = mapsGo m.code.length m.locals m.stack x.at_ (m.maps.drop (k + 1))) := fun h => by
          have := ha.out
          rwa [mapsGo, h, Bool.true_and] at this
        have HF : mapAt1 m.code.length m.locals m.stack l x = false → Hid (mapsB m = false) := fun h => by
          have := ha.out
          rwa [mapsGo, h, Bool.false_and] at this
        have HM := Lib.hid HM
        have HF := Lib.hid HF
        clear ha
        go_wp2_with fail
        (refine wp_region_fr (X := No) (by kernel_rfl) (by kernel_rfl) ?_)
        clear b0 b1 b2 b3 b4 b5 b6 b7 c0 c1 c2
        rcases hprev.out with ⟨hk0, hl0'⟩ | ⟨hk0, _, k', hk', hp⟩
        all_goals rcases hcase with h1 | ⟨h1, h2⟩ | ⟨h1, h2, h3⟩ | ⟨h1, h2, h3, h4⟩ | ⟨h1, h2, h3, h4, h5⟩ | ⟨h1, h2, h3, h4, h5, h6⟩ | ⟨h1, h2, h3, h4, h5, h6⟩
        all_goals first
          | (exfalso; rw [Bool.and_eq_true, decide_eq_true_eq, decide_eq_true_eq] at h1; rw [decide_eq_true_eq] at h2; omega)
          | skip
        all_goals
          first
            | have HE := Lib.hid (HM.out ((mapAt1_eq _ _ _ _ _ _ h1 h2 h3 h4 h5 h6 hl0).trans rfl))
            | have HE := Lib.hid (HF.out ((mapAt1_eq _ _ _ _ _ _ h1 rfl rfl rfl rfl rfl hl0).trans rfl))
            | have HE := Lib.hid (HF.out ((mapAt1_eq _ _ _ _ _ _ h1 h2 rfl rfl rfl rfl hl0).trans rfl))
            | have HE := Lib.hid (HF.out ((mapAt1_eq _ _ _ _ _ _ h1 h2 h3 rfl rfl rfl hl0).trans rfl))
            | have HE := Lib.hid (HF.out ((mapAt1_eq _ _ _ _ _ _ h1 h2 h3 h4 rfl rfl hl0).trans rfl))
            | have HE := Lib.hid (HF.out ((mapAt1_eq _ _ _ _ _ _ h1 h2 h3 h4 h5 rfl hl0).trans rfl))
            | have HE := Lib.hid (HF.out ((mapAt1_eq _ _ _ _ _ _ h1 h2 h3 h4 h5 h6 hl0).trans rfl))
          try rw [h1] at hl1
          try rw [h5] at H1
          try rw [h6] at H2
          clear HM HF hprev
          try clear h1
          try clear h5
          try clear h6
          try have hp := fun W h => (hA.trans0 h).keep0 (w' := W) hp
          try have wk : IntKind.i64.wrap ((k : Int) - 1) = (k' : Int) := (IntWalk.i64_in _ (by omega)).trans (by omega)
          try have hkl : k' < m.maps.length := by omega
          try have hk' := Lib.hid hk'
          try clear hl0'
          try (have hk00 : ¬ 0 < k := (by omega); clear hk0)
          (repeat (first | (go_big_quiet_skip; (try simp only [Act.put, List.setIfInBounds_toArray, List.set_cons_zero, List.set_cons_succ])) | (go_big_quiet_want; (apply Exists.intro; refine ⟨fun W hW => ?_, ?_⟩); (focus (go_simp; (try simp only [↓IntWalk.iteOmega]); (try simp only [reduceIte]); first | done | exact rfl | exact ⟨trivial, rfl⟩ | exact ⟨rfl, rfl⟩ | (go_at_call 16; exact (hl1 W).mono (fun _ _ h => IsBool.toFr h hW)) | (go_at_call_of 117 (Value.slice Al x.locals.length cl); exact (H1 W (hA.trans0 hW)).mono (fun _ _ h => BoolFr.toFr h hW)) | (go_at_call_of 117 (Value.slice As x.stack.length cs); exact (H2 W (hA.trans0 hW)).mono (fun _ _ h => BoolFr.toFr h hW)))); go_big_quiet_on; (try simp only [Act.put, List.setIfInBounds_toArray, List.set_cons_zero, List.set_cons_succ])))); refine wpQuiet_nil ?_
          intro w1 hf1
          clear H1 H2 hl1 e4 e5 e6 e7 x0 x1 x2
          try clear hp
          go_wp2
          first
            | (go_ret; exact .mk (by rw [HE.out.out]) (by exact frc))
            | (go_roundw; (case rel => exact ⟨k + 1, x.at_, by omega, by go_num, rfl, HE.out, hnext.out (by have := of_decide_eq_false h2; omega), hB'.keep (hA.trans0 hf1), by exact frc⟩); (case measure => simp [intOf]; omega))
      · have HS : Hid (mapsB m = true) := by have := ha.out; rwa [List.drop_eq_nil_of_le (by omega)] at this
        clear ha hm
        go_wp2
        go_ret
        exact .mk (by rw [HS.out]) (by exact frc)
  · have hb : Hid (mapsB m = false) := by unfold Hid mapsB; rw [decide_eq_false hr]; rfl
    clear hm
    go_enter Tryz.func102, Tryz.ntmps102
    go_wp2
    go_ret
    exact .mk (by rw [hb.out]) (by exact frc)
end Go.Proofs.YtghmnkafpnkojaaGreatDoor
