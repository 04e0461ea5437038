/- The reference's search of a keeper's own class, and of whom it asks. -/
import Derived.Test.YtghmnkafpnkojaaGreatDoorLdg
import Derived.Test.YtghmnkafpnkojaaGreatDoorSpc6
namespace Go.Proofs.YtghmnkafpnkojaaGreatDoor
open Go.RowKit

theorem askOpt_at {xs : List Ask} {s : Str} {k : Nat} (hk : k < xs.length) (ha : (xs.take k).all (fun x => !askIs s x) = true) (hp : askIs s xs[k] = true) : askOpt xs s = some xs[k].keeper := by
  unfold askOpt
  rw [List.all_eq_true] at ha
  have : xs.find? (askIs s) = some xs[k] := by
    rw [List.find?_eq_some_iff_getElem]
    exact ⟨hp, k, hk, rfl, fun j hj => ha _ (List.mem_take_iff_getElem.2 ⟨j, by omega, rfl⟩)⟩
  rw [this]; rfl

set_option maxHeartbeats 800000 in
theorem s_own (X : Nat → Prop) (v va : Value) (xs : List Cls) (s : Str) (w : World) (h : Sl X w 4 (ClsC X w) v xs) (_hs : s.size ≤ maxLen) :
    Calls Tryz.prog 53 #[.agg #[v, va], .string s] w (IntFr (ixOf (clsIs s) xs) w) := by
  obtain ⟨A, cap, rfl, hcap, hlen⟩ := h.form
  unfold maxLen at hlen
  have hB := Bx.new w 72 #[.slice A xs.length cap, va]
  have hw0 : Fr No w (w.alloc (.cells #[.slice A xs.length cap, va] 72)) := (Fr.refl No w).alloc _
  go_enter Tryz.func53, Tryz.ntmps53
  go_wp2
  go_loopw [5, 4] (fun i r wr => ∃ k : Nat, k ≤ xs.length ∧ i = .int .i64 k ∧ r = .int .i64 0 ∧ Hid ((xs.take k).all (fun x => !clsIs s x) = true) ∧ Bx wr w.heap.size 72 #[.slice A xs.length cap, va] ∧ Fr No w wr) (fun i _ _ => xs.length - (intOf i).toNat)
  case atStart => exact ⟨0, Nat.zero_le _, rfl, rfl, by simp [Hid], hB, hw0⟩
  case round =>
    clear hB hw0
    obtain ⟨k, hk, rfl, rfl, ha, hB, hf⟩ := hrel
    obtain ⟨e0, e1⟩ := hB.c2
    have hBl := hB.lt
    by_cases hlt : k < xs.length
    · obtain ⟨b, off, Af, cf, Am, cm, rfl, hX, c0, _⟩ := (h.keep hf (fun _ h => h.elim) (fun _ _ _ h => h.keep hf (fun _ h => h.elim))).cls hlt
      have hbl := lt_of_cell c0
      clear h
      have HS : clsIs s xs[k] = false → Hid ((xs.take (k + 1)).all (fun x => !clsIs s x) = true) := fun h => by
        have := all_snoc (fun x => !clsIs s x) xs k hlt
        rw [ha.out, h] at this; exact this
      have HN : clsIs s xs[k] = true → Hid (ixOf (clsIs s) xs = (k : Nat)) := fun h => ixOf_at hlt ha.out h
      have HS := Lib.hid HS
      have HN := Lib.hid HN
      unfold clsIs at HS HN
      clear ha
      generalize xs[k] = f at *
      cases hq : (f.name.toList == s.toList)
      · have HS := HS.out hq
        clear HN
        go_wp2
        go_roundw
        case rel => exact ⟨k + 1, by omega, by go_num, rfl, HS, hB, by exact frc⟩
        case measure => simp [intOf]; omega
      · have HN := HN.out hq
        clear HS
        go_wp2
        go_ret
        exact .mk HN.out.symm (by exact frc)
    · have HS := Lib.hid (ixOf_no (all_yes _ xs k (by omega) ha.out))
      clear h ha
      go_wp2
      go_ret
      exact .mk HS.out.symm (by exact frc)

set_option maxHeartbeats 800000 in
theorem s_asks (X : Nat → Prop) (v vo : Value) (xs : List Ask) (s : Str) (w : World) (h : Sl X w 2 AskC v xs) (_hs : s.size ≤ maxLen) :
    Calls Tryz.prog 54 #[.agg #[vo, v], .string s] w (IntFr ((askOpt xs s).getD (-1)) w) := by
  obtain ⟨A, cap, rfl, hcap, hlen⟩ := h.form
  unfold maxLen at hlen
  have hB := Bx.new w 72 #[vo, .slice A xs.length cap]
  have hw0 : Fr No w (w.alloc (.cells #[vo, .slice A xs.length cap] 72)) := (Fr.refl No w).alloc _
  go_enter Tryz.func54, Tryz.ntmps54
  go_wp2
  go_loopw [5, 4] (fun i r wr => ∃ k : Nat, k ≤ xs.length ∧ i = .int .i64 k ∧ r = .int .i64 0 ∧ Hid ((xs.take k).all (fun x => !askIs s x) = true) ∧ Bx wr w.heap.size 72 #[vo, .slice A xs.length cap] ∧ Fr No w wr) (fun i _ _ => xs.length - (intOf i).toNat)
  case atStart => exact ⟨0, Nat.zero_le _, rfl, rfl, by simp [Hid], hB, hw0⟩
  case round =>
    clear hB hw0
    obtain ⟨k, hk, rfl, rfl, ha, hB, hf⟩ := hrel
    obtain ⟨e0, e1⟩ := hB.c2
    have hBl := hB.lt
    by_cases hlt : k < xs.length
    · obtain ⟨b, off, rfl, hX, c0, c1, _⟩ := (h.keep hf (fun _ h => h.elim) (fun _ _ _ h => h)).ask hlt
      have hbl := lt_of_cell c0
      clear h
      have HS : askIs s xs[k] = false → Hid ((xs.take (k + 1)).all (fun x => !askIs s x) = true) := fun h => by
        have := all_snoc (fun x => !askIs s x) xs k hlt
        rw [ha.out, h] at this; exact this
      have HN : askIs s xs[k] = true → Hid (askOpt xs s = some xs[k].keeper) := fun h => askOpt_at hlt ha.out h
      have HS := Lib.hid HS
      have HN := Lib.hid HN
      unfold askIs at HS HN
      clear ha
      generalize xs[k] = f at *
      cases hq : (f.name.toList == s.toList)
      · have HS := HS.out hq
        clear HN
        go_wp2
        go_roundw
        case rel => exact ⟨k + 1, by omega, by go_num, rfl, HS, hB, by exact frc⟩
        case measure => simp [intOf]; omega
      · have HN := HN.out hq
        clear HS
        go_wp2
        go_ret
        exact .mk (by rw [HN.out]; rfl) (by exact frc)
    · have HS := Lib.hid (askOpt_none.2 (all_yes _ xs k (by omega) ha.out))
      clear h ha
      go_wp2
      go_ret
      exact .mk (by rw [HS.out]; rfl) (by exact frc)
end Go.Proofs.YtghmnkafpnkojaaGreatDoor
