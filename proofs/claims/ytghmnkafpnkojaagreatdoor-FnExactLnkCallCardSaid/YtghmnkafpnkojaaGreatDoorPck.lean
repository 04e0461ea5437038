/- The method of a name that a thing does: the program's own pick; LnkPick. -/
import Derived.Test.YtghmnkafpnkojaaGreatDoorLay
namespace Go.Proofs.YtghmnkafpnkojaaGreatDoor
open Go.RowKit

theorem Lg.lt {w : World} {l bl n : Nat} {p : Plan} (h : Lg w l bl n p) : bl < w.heap.size := by
  obtain ⟨g, ⟨_, A, cap, bo, ba, _, _, _, _, _, _, _, hM⟩, _⟩ := h
  exact hM.lt
/-- A class that is there, in memory, and the program's call for it. -/
theorem here_class {l bl n : Nat} {p : Plan} {g : Int → Str → Option Int} {k i : Nat} {s : Str} {w : World} (h : Lodge w l bl n p g) (hh : Here p ⟨k, s⟩ k i) (hs : s.size ≤ maxLen) :
    ∃ Af cf Am cm, ClsC (fun b => b = bl) w [.string (clsAt p ⟨k, s⟩).name, .string (clsAt p ⟨k, s⟩).super, .slice Af (clsAt p ⟨k, s⟩).fields.length cf, .slice Am (clsAt p ⟨k, s⟩).methods.length cm] (clsAt p ⟨k, s⟩) ∧
      ∀ W, Fr No w W → Calls Tryz.prog 48 #[.pointer (some ⟨l, 0, none⟩), .agg #[.int .i64 k, .string s]] W (Gives (.agg #[.string (clsAt p ⟨k, s⟩).name, .string (clsAt p ⟨k, s⟩).super, .slice Af (clsAt p ⟨k, s⟩).fields.length cf, .slice Am (clsAt p ⟨k, s⟩).methods.length cm]) W) := by
  obtain ⟨Af, cf, Am, cm, hR, HC⟩ := class_val l bl n p g k s i w h hh.2.1 hs (kprAt p k) rfl hh.2.2.1 hh.2.2.2
  rw [← hh.cls] at hR HC
  exact ⟨Af, cf, Am, cm, hR, HC⟩
def PickPost (o : Option (Ref × Int)) (p : Plan) (l bl n : Nat) (w : World) (e : Ending) (w' : World) : Prop :=
  e = .returned (pickV o) ∧ Fr (fun b => b = bl) w w' ∧ Lg w' l bl n p
theorem PickPost.mk {o : Option (Ref × Int)} {p : Plan} {l bl n : Nat} {w w' : World} {v : Value} (hv : pickV o = v) (hf : Fr (fun b => b = bl) w w') (hl : Lg w' l bl n p) : PickPost o p l bl n w (.returned v) w' := ⟨by rw [hv], hf, hl⟩

set_option maxRecDepth 100000 in
set_option maxHeartbeats 4000000 in
theorem pick_ok (l bl n : Nat) (p : Plan) (r : Ref) (s : Str) (w : World) (h : Lg w l bl n p) (hr : r.name.size ≤ maxLen) (_hs : s.size ≤ maxLen) (wk : (Lit.int .i64 r.keeper).wf = true) (hn : n < 1000000) :
    Calls Tryz.prog 38 #[.pointer (some ⟨l, 0, none⟩), .agg #[.int .i64 r.keeper, .string r.name], .string s] w (PickPost (pickB p r s) p l bl (n + 1) w) := by
  obtain ⟨rk, rn⟩ := r
  dsimp only at hr wk
  have hlt := h.lt
  have h0 := h
  obtain ⟨wA, hwA⟩ : ∃ wA, wA = ((w.alloc (.cells #[.int .i64 rk, .string rn] 27)).alloc (.cells #[.int .i64 0, .string ⟨#[]⟩, .int .i64 0] 29)) := ⟨_, rfl⟩
  have hfA : Fr No w wA := hwA ▸ frc
  have B0 : Bx wA w.heap.size 27 #[.int .i64 rk, .string rn] := hwA ▸ bxc
  have B1 : Bx wA (w.heap.size + 1) 29 #[.int .i64 0, .string ⟨#[]⟩, .int .i64 0] := hwA ▸ bxc
  have HC := fun W (hW : Fr No wA W) => canLay_ok l bl n p ⟨rk, rn⟩ W ((h.keep hfA).keep hW) hr wk hn
  have hp := h.ok
  have hpick : pickB p ⟨rk, rn⟩ s = if canB p ⟨rk, rn⟩ then pickGo p s (chainK p ⟨rk, rn⟩) else none := rfl
  have hall := chainK_here hp ⟨rk, rn⟩
  generalize pickB p ⟨rk, rn⟩ s = o at *
  unfold CanPost at HC
  have A0 := B0.c2
  have A1 := B1.c3
  have L0 := B0.lt
  have L1 := B1.lt
  clear h
  cases hc : canB p ⟨rk, rn⟩
  · rw [hc] at HC hpick
    simp only [Bool.false_eq_true, if_false] at hpick
    subst hpick
    clear hc hall
    go_enter Tryz.func38, Tryz.ntmps38
    go_wp2_with fail
    rw [← hwA]
    replace hwA := Lib.hid hwA
    refine (HC _ (Fr.refl _ _)).mono ?_
    rintro e w1 ⟨rfl, hf1, hL1⟩
    have hw1 : Fr (fun b => b = bl) w w1 := hfA.of0.same hf1
    obtain ⟨z0, z1, z2⟩ := (B1.keepX hf1 (by omega)).c3
    have zf := fun j => (B1.keepX hf1 (by omega)).frozen j
    have zl := (B1.keepX hf1 (by omega)).lt
    clear A0 A1 HC
    go_wp2
    refine bodyPost_ret (v := .tuple #[.agg #[.int .i64 0, .string ⟨#[]⟩, .int .i64 0], .bool false]) (by simp [results, Tryz.results38, go_sem, *]) rfl ?_
    exact .mk rfl frc (h0.over hL1 hw1 frx)
  · rw [hc] at HC hpick
    simp only [if_true] at hpick
    have hlen : (chainK p ⟨rk, rn⟩).length ≤ 6 := chainK_len hp _
    have HCH := fun (g : Int → Str → Option Int) W (hW : Lodge W l bl (n + 1) p g) => chain_ok l bl (n + 1) p g ⟨rk, rn⟩ W hW hr
    generalize chainK p ⟨rk, rn⟩ = xs at *
    replace hpick := Lib.hid hpick
    clear hc
    go_enter Tryz.func38, Tryz.ntmps38
    go_wp2_with fail
    rw [← hwA]
    replace hwA := Lib.hid hwA
    refine (HC _ (Fr.refl _ _)).mono ?_
    rintro e w1 ⟨rfl, hf1, hL1⟩
    have hw1 : Fr (fun b => b = bl) w w1 := hfA.of0.same hf1
    have hB1 := B1.keepX hf1 (by omega)
    have hB0 := B0.keepX hf1 (by omega)
    obtain ⟨g, hLo, hg⟩ := hL1
    obtain ⟨z0, z1⟩ := hB0.c2
    have zl := hB0.lt
    clear A0 A1 HC B0 B1 L0 L1
    go_wp2_with (go_at_call 67; refine (HCH g _ (hLo.keep frc)).mono ?_; rintro e w2 ⟨v2, rfl, hsl, hf2⟩; obtain ⟨A2, c2, rfl, _, _⟩ := hsl.form)
    have hw2 : Fr (fun b => b = bl) w w2 := frc
    have hL2 := hLo.keep (show Fr No w1 w2 from frc)
    have R0 := (hB0.keep (show Fr No w1 w2 from frc)).r2
    have R1 := (hB1.keep (show Fr No w1 w2 from frc)).r3
    have hlim : w.heap.size + 1 < w2.heap.size := (hB1.keep (show Fr No w1 w2 from frc)).lt
    clear HCH hB0 hB1 z0 z1 zl hf1 hf2 hw1
    clear hLo
    go_loopw [20] (fun i wr => ∃ k : Nat, k ≤ xs.length ∧ i = .int .i64 k ∧ Hid (o = pickGo p s (xs.drop k)) ∧ Fr No w2 wr) (fun i _ => xs.length - (intOf i).toNat)
    case atStart => exact ⟨0, Nat.zero_le _, rfl, hpick, Fr.refl _ _⟩
    case round =>
      clear hpick
      obtain ⟨k, hk, rfl, hd, hf⟩ := hrel
      by_cases hlt2 : k < xs.length
      · obtain ⟨b, off, rfl, _, c0, c1, hsr⟩ := (hsl.keep (R' := RefC) hf (fun _ h => h.elim) (fun _ _ _ h => h)).ref hlt2
        have hbl := lt_of_cell c0
        obtain ⟨_, kr, ir, hhr⟩ := hall _ (List.getElem_mem hlt2)
        rw [List.drop_eq_getElem_cons hlt2, pickGo] at hd
        have hd := Lib.hid hd
        clear hsl hall
        generalize xs[k] = r at *
        obtain ⟨rk', s1⟩ := r
        obtain rfl : rk' = (kr : Int) := hhr.1
        dsimp only at c0 c1 hsr
        obtain ⟨Af, cf, Am, cm, hR, HCl⟩ := here_class (hL2.keep hf) hhr hsr
        have hrg := ixOf_range (mthIs s) (clsAt p ⟨kr, s1⟩).methods
        generalize clsAt p ⟨kr, s1⟩ = c at *
        have HM := fun W (hW : Fr No wr W) => methodAt_ok _ c _ s W (hR.keep hW (fun _ h => h.elim))
        clear hR hhr
        generalize ixOf (mthIs s) c.methods = ix at *
        have KR := (Bx.new wr 27 #[.int .i64 kr, .string s1]).r2
        by_cases hix : ix < 0
        · have HS : Hid (o = pickGo p s (xs.drop (k + 1))) := hd.out.out.trans (if_pos hix)
          clear hd
          go_wp2_with (first
            | (go_at_call 48; refine (HCl _ frc).mono ?_; rintro e w3 ⟨rfl, hf3⟩; have q3 : Fr No wr w3 := frc)
            | (go_at_call 68; refine (HM _ frc).mono ?_; rintro e w4 ⟨rfl, hf4⟩; have q4 : Fr No wr w4 := frc))
          go_roundw
          case rel => exact ⟨k + 1, by omega, by go_num, HS, frc⟩
          case measure => simp [intOf]; omega
        · obtain ⟨ix, rfl⟩ := Int.eq_ofNat_of_zero_le (show 0 ≤ ix by omega)
          have HS : Hid (o = some (⟨kr, s1⟩, (ix : Int))) := hd.out.out.trans (if_neg hix)
          clear hd
          go_wp2_with (first
            | (go_at_call 48; refine (HCl _ frc).mono ?_; rintro e w3 ⟨rfl, hf3⟩; have q3 : Fr No wr w3 := frc)
            | (go_at_call 68; refine (HM _ frc).mono ?_; rintro e w4 ⟨rfl, hf4⟩; have k4 := KR w4 frc; obtain ⟨q4, p4⟩ : Fr No wr w4 ∧ Fr No w2 w4 := ⟨frc, frc⟩))
          refine bodyPost_ret (v := .tuple #[.agg #[.int .i64 kr, .string s1, .int .i64 ix], .bool true]) (by simp [results, Tryz.results38, go_sem, *]) rfl ?_
          exact .mk (by rw [HS.out]; rfl) frc (h0.over ⟨g, hL2.keep p4, hg⟩ (hw2.trans0 p4) frx)
      · have HS : Hid (o = none) := hd.out.trans (by rw [List.drop_eq_nil_of_le (by omega)]; rfl)
        clear hd hsl hall
        go_wp2
        refine bodyPost_ret (v := .tuple #[.agg #[.int .i64 0, .string ⟨#[]⟩, .int .i64 0], .bool false]) (by simp [results, Tryz.results38, go_sem, *]) rfl ?_
        exact .mk (by rw [HS.out]; rfl) frc (h0.over ⟨g, hL2.keep hf, hg⟩ (hw2.trans0 hf) frx)
end Go.Proofs.YtghmnkafpnkojaaGreatDoor
