/- The reference's road from keeper to keeper; a class that is there. -/
import Derived.Test.YtghmnkafpnkojaaGreatDoorSlb
import Derived.Test.YtghmnkafpnkojaaGreatDoorLdg5
import Derived.Test.YtghmnkafpnkojaaGreatDoorLod
namespace Go.Proofs.YtghmnkafpnkojaaGreatDoor
open Go.RowKit

theorem whoseGo_here {p : Plan} {s : Str} {n : Nat} {k : Int} (h1 : askTo p k s < 0) (h2 : ¬ ownIx p k s < 0) : whoseGo p s (n + 1) k = (⟨k, s⟩, 1) := by rw [whoseGo, if_pos h1, if_neg h2]
theorem whoseGo_none {p : Plan} {s : Str} {n : Nat} {k : Int} (h1 : askTo p k s < 0) (h2 : ownIx p k s < 0) : whoseGo p s (n + 1) k = (noRef, 2) := by rw [whoseGo, if_pos h1, if_pos h2]
theorem whoseGo_next {p : Plan} {s : Str} {n : Nat} {k : Int} (h1 : ¬ askTo p k s < 0) : whoseGo p s (n + 1) k = whoseGo p s n (askTo p k s) := by rw [whoseGo, if_neg h1]

set_option maxRecDepth 100000 in
set_option maxHeartbeats 4000000 in
theorem s_whose (X : Nat → Prop) (p : Plan) (v : Value) (k0 : Nat) (s : Str) (w : World) (hp : lodB p = true) (h : Sl X w 2 (KprC X w) v p.keepers) (hk0 : k0 < p.keepers.length) (hs : s.size ≤ maxLen) :
    Calls Tryz.prog 58 #[.agg #[v], .int .i64 k0, .string s] w (Gives (refV (whose p k0 s)) w) := by
  obtain ⟨A, cap, rfl, hcap, hlen⟩ := h.form
  have hlen' := hlen
  unfold maxLen at hlen'
  have h3 := (lodB_len hp).2
  have hB := (Bx.new w 34 #[.slice A p.keepers.length cap]).alloc (.cells #[.int .i64 0, .string ⟨#[]⟩] 27)
  have hZ : Bx ((w.alloc (.cells #[.slice A p.keepers.length cap] 34)).alloc (.cells #[.int .i64 0, .string ⟨#[]⟩] 27)) (w.heap.size + 1) 27 #[.int .i64 0, .string ⟨#[]⟩] := Bx.new_ (by simp)
  have hw0 : Fr No w ((w.alloc (.cells #[.slice A p.keepers.length cap] 34)).alloc (.cells #[.int .i64 0, .string ⟨#[]⟩] 27)) := ((Fr.refl No w).alloc _).alloc _
  obtain ⟨V, hV⟩ : ∃ V, V = whose p k0 s := ⟨_, rfl⟩
  rw [← hV]
  have hV0 : Hid (V = whoseGo p s (4 - 0) k0) := hV
  clear hV
  unfold refV
  go_enter Tryz.func58, Tryz.ntmps58
  go_wp2
  go_loopw [9, 8, 7] (fun i u r wr => ∃ (n kc : Nat), n ≤ 4 ∧ i = .int .i64 n ∧ u = .int .i64 kc ∧ r = .int .i64 0 ∧ kc < p.keepers.length ∧ Hid (V = whoseGo p s (4 - n) kc) ∧
    Bx wr w.heap.size 34 #[.slice A p.keepers.length cap] ∧ Bx wr (w.heap.size + 1) 27 #[.int .i64 0, .string ⟨#[]⟩] ∧ Fr No w wr) (fun i _ _ _ => 4 - (intOf i).toNat)
  case atStart => exact ⟨0, k0, by omega, rfl, rfl, rfl, hk0, hV0, hB, hZ, hw0⟩
  case round =>
    clear hB hZ hw0 hV0 hk0
    obtain ⟨n, kc, hn, rfl, rfl, rfl, hkc, hd, hB, hZ, hw⟩ := hrel
    have b0 := hB.c1
    obtain ⟨z0, z1⟩ := hZ.c2
    have hBl := hB.lt
    have hZl := hZ.lt
    have zf := fun j => hZ.frozen j
    by_cases hlt : n < 4
    · obtain ⟨b, off, Ao, co, Aa, ca, rfl, hX, c0, c1, hown, hask, hoc, hom, hac, ham⟩ := (h.keep hw (fun _ h => h.elim) (fun _ _ _ h => h.keep hw (fun _ h => h.elim))).kpr hkc
      have hbl := lt_of_cell c0
      have HA := fun W (h : Fr No wr W) => s_asks X _ (.slice Ao p.keepers[kc].owns.length co) p.keepers[kc].asks s W (hask.keep h (fun _ h => h.elim) (fun _ _ _ h => h)) hs
      have HO := fun W (h : Fr No wr W) => s_own X _ (.slice Aa p.keepers[kc].asks.length ca) p.keepers[kc].owns s W (hown.keep h (fun _ h => h.elim) (fun _ _ _ h9 => h9.keep h (fun _ h => h.elim))) hs
      obtain ⟨m, hm⟩ : ∃ m, 4 - n = m + 1 := ⟨3 - n, by omega⟩
      have hm' : 4 - (n + 1) = m := by omega
      rw [hm] at hd
      have e1 : askTo p kc s = (askOpt p.keepers[kc].asks s).getD (-1) := by unfold askTo; rw [kprAt_nat hkc]
      have e2 : ownIx p kc s = ixOf (clsIs s) p.keepers[kc].owns := by unfold ownIx; rw [kprAt_nat hkc]
      have hrg := fun v => @ask_range p hp (kc : Int) (by omega) (by omega) s v
      rw [kprAt_nat hkc] at hrg
      have hkk : (kc : Int).toNat = kc := by omega
      clear h hown hask
      generalize p.keepers[kc] = y at *
      cases hnx : askOpt y.asks s with
      | none =>
        rw [hnx] at HA e1
        dsimp only [Option.getD_none] at HA e1
        by_cases ho : ixOf (clsIs s) y.owns < 0
        · have HV : Hid (V = (noRef, 2)) := hd.out.trans (whoseGo_none (by omega) (by omega))
          have hlo : ixOf (clsIs s) y.owns = -1 := by have := ixOf_range (clsIs s) y.owns; omega
          rw [hlo] at HO
          clear hd hrg hnx ho hlo e1 e2
          go_wp2_with (first
            | (go_at_call 54; refine (HA _ (by exact frc)).mono ?_; rintro e w1 ⟨rfl, hf1⟩; have hB1 := hB.keep hf1; have hZ1 := hZ.keep hf1; have c0' := hf1.keep0 c0; have c1' := hf1.keep0 c1; have b0' := hB1.c1; obtain ⟨z0', z1'⟩ := hZ1.c2; have hBl1 := hB1.lt; have hZl1 := hZ1.lt; have zf1 := (fun j => hZ1.frozen j); clear b0 z0 z1 c0 c1 zf)
            | (go_at_call 53; refine (HO _ (by exact frc)).mono ?_; rintro e w2 ⟨rfl, hf2⟩; have hZ2 := hZ1.keep hf2; obtain ⟨z0'', z1''⟩ := hZ2.c2; have hZl2 := hZ2.lt; have zf2 := (fun j => hZ2.frozen j); clear z0' z1' zf1))
          refine bodyPost_ret (v := .tuple #[.agg #[.int .i64 0, .string ⟨#[]⟩], .int .i64 2]) (by simp [results, Tryz.results58, go_sem, *]) rfl ?_
          exact .mk (by rw [HV.out]; rfl) (by exact frc)
        · have HV : Hid (V = (⟨kc, s⟩, 1)) := hd.out.trans (whoseGo_here (by omega) (by omega))
          have hlo : ∃ j : Nat, ixOf (clsIs s) y.owns = j := ⟨(ixOf (clsIs s) y.owns).toNat, by omega⟩
          obtain ⟨j, hj⟩ := hlo
          rw [hj] at HO
          clear hd hrg hnx ho hj e1 e2
          go_wp2_with (first
            | (go_at_call 54; refine (HA _ (by exact frc)).mono ?_; rintro e w1 ⟨rfl, hf1⟩; have hB1 := hB.keep hf1; have hZ1 := hZ.keep hf1; have c0' := hf1.keep0 c0; have c1' := hf1.keep0 c1; have b0' := hB1.c1; obtain ⟨z0', z1'⟩ := hZ1.c2; have hBl1 := hB1.lt; have hZl1 := hZ1.lt; have zf1 := (fun j => hZ1.frozen j); clear b0 z0 z1 c0 c1 zf)
            | (go_at_call 53; refine (HO _ (by exact frc)).mono ?_; rintro e w2 ⟨rfl, hf2⟩; have hZ2 := hZ1.keep hf2; obtain ⟨z0'', z1''⟩ := hZ2.c2; have hZl2 := hZ2.lt; have zf2 := (fun j => hZ2.frozen j); clear z0' z1' zf1))
          refine bodyPost_ret (v := .tuple #[.agg #[.int .i64 kc, .string s], .int .i64 1]) (by simp [results, Tryz.results58, go_sem, *]) rfl ?_
          exact .mk (by rw [HV.out]) (by exact frc)
      | some nx =>
        rw [hnx] at HA e1
        dsimp only [Option.getD_some] at HA e1
        obtain ⟨h0, h1⟩ := hrg nx hnx
        obtain ⟨nx, rfl⟩ := Int.eq_ofNat_of_zero_le h0
        have h1 : nx < p.keepers.length := by omega
        have HV : Hid (V = whoseGo p s (4 - (n + 1)) nx) := by
          show V = _
          rw [hm', hd.out, whoseGo_next (by omega), e1]
        clear hd hrg hnx e1 e2 HO
        go_wp2_with (go_at_call 54; refine (HA _ (by exact frc)).mono ?_; rintro e w1 ⟨rfl, hf1⟩)
        go_roundw
        case rel => exact ⟨n + 1, nx, by omega, by go_num, rfl, rfl, h1, HV, hB.keep hf1, hZ.keep hf1, by exact frc⟩
        case measure => simp [intOf]; omega
    · have hn4 : n = 4 := by omega
      subst hn4
      have HV : Hid (V = (noRef, 3)) := hd.out
      clear h hd
      go_wp2
      refine bodyPost_ret (v := .tuple #[.agg #[.int .i64 0, .string ⟨#[]⟩], .int .i64 3]) (by simp [results, Tryz.results58, go_sem, *]) rfl ?_
      exact .mk (by rw [HV.out]; rfl) (by exact frc)
end Go.Proofs.YtghmnkafpnkojaaGreatDoor
