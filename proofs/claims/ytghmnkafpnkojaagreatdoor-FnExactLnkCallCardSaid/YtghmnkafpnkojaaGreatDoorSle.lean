/- The reference's chain of a class. -/
import Derived.Test.YtghmnkafpnkojaaGreatDoorSld
import Derived.Test.YtghmnkafpnkojaaGreatDoorClm2
import Derived.Test.YtghmnkafpnkojaaGreatDoorAgr3
import Derived.OwnWalk
namespace Go.Proofs.YtghmnkafpnkojaaGreatDoor
open Go.RowKit

def SChainPost (o : Option (List Ref)) (w : World) (e : Ending) (w' : World) : Prop :=
  ∃ v, e = .returned (.tuple #[v, .bool o.isSome]) ∧ Sl No w' 2 RefC v (o.getD []) ∧ Fr No w w'
theorem Sl.none_ {α : Type} {X : Nat → Prop} {w : World} {sz : Nat} {R : List Value → α → Prop} (A : Option Addr) (c : Nat) : Sl X w sz R (.slice A 0 c) [] :=
  ⟨A, c, rfl, Nat.zero_le _, Nat.zero_le _, fun h => absurd h (by simp)⟩
theorem SChainPost.no {o : Option (List Ref)} {w w' : World} {A : Option Addr} {c : Nat} (h : o = none) (hf : Fr No w w') : SChainPost o w (.returned (.tuple #[.slice A 0 c, .bool false])) w' := by
  subst h; exact ⟨_, rfl, Sl.none_ A c, hf⟩
theorem SChainPost.yes {o : Option (List Ref)} {w w' : World} {v : Value} {xs : List Ref} (h : o = some xs) (hs : Sl No w' 2 RefC v xs) (hf : Fr No w w') : SChainPost o w (.returned (.tuple #[v, .bool true])) w' := by
  subst h; exact ⟨_, rfl, hs, hf⟩
theorem ownsRow_keepG {w w' : World} {X : Nat → Prop} {base sz n g cap : Nat} {e : TypeId} {xs : List Value} (h : w.ownsRow base e sz (.slice (some ⟨g, 0, none⟩) n cap) n xs) (hf : Fr X w w') (hX : ¬ X g) : w'.ownsRow base e sz (.slice (some ⟨g, 0, none⟩) n cap) n xs := by
  obtain ⟨hl, h | ⟨g', cap', cur, he, hg, hb, h1, h2, h3, h4⟩⟩ := h
  · exact absurd h.1 (by simp)
  · simp only [Value.slice.injEq, Option.some.injEq, Addr.mk.injEq, and_true, true_and] at he
    obtain ⟨rfl, rfl⟩ := he
    have hb' : Bx w g e cur := hb
    exact ⟨hl, .inr ⟨g, cap, cur, rfl, hg, hb'.keepX hf hX, h1, h2, h3, h4⟩⟩
theorem ownsRow_lt {w : World} {base sz n g cap : Nat} {e : TypeId} {xs : List Value} (h : w.ownsRow base e sz (.slice (some ⟨g, 0, none⟩) n cap) n xs) : base ≤ g ∧ g < w.heap.size ∧ n ≤ cap := by
  obtain ⟨hl, h | ⟨g', cap', cur, he, hg, hb, h1, h2, h3, h4⟩⟩ := h
  · exact absurd h.1 (by simp)
  · simp only [Value.slice.injEq, Option.some.injEq, Addr.mk.injEq, and_true, true_and] at he
    obtain ⟨rfl, rfl⟩ := he
    have hb' : Bx w g e cur := hb
    exact ⟨hg, hb'.lt, h1⟩
/-- A row of two or more that grew is not a box of one. -/
theorem row_ne {w : World} {base n g cap b : Nat} {e t : TypeId} {xs : List Value} {x y : Value} (h : w.ownsRow base e 2 (.slice (some ⟨g, 0, none⟩) n cap) n xs) (hb : Bx w b t #[x, y]) (hn : 2 ≤ n) : g ≠ b := by
  obtain ⟨hl, h | ⟨g', cap', cur, he, hg, hc, h1, h2, h3, h4⟩⟩ := h
  · exact absurd h.1 (by simp)
  · simp only [Value.slice.injEq, Option.some.injEq, Addr.mk.injEq, and_true, true_and] at he
    obtain ⟨rfl, rfl⟩ := he
    rintro rfl
    have hc' : Bx w g e cur := hc
    unfold Bx at hc' hb
    rw [hb] at hc'
    simp only [Option.some.injEq, Obj.cells.injEq] at hc'
    have : cur.toList.length = 2 := by rw [← hc'.1]; rfl
    have h5 := congrArg List.length h4
    rw [List.length_take, this] at h5
    omega

theorem names_snoc {pre : List Ref} {k : Int} {s : Str} (h : ∀ x ∈ pre, x.name.size ≤ maxLen) (hs : s.size ≤ maxLen) : Hid (∀ x ∈ pre ++ [(⟨k, s⟩ : Ref)], x.name.size ≤ maxLen) := fun x hx => by
  rcases List.mem_append.1 hx with hx | hx
  · exact h x hx
  · rw [List.mem_singleton] at hx; subst hx; exact hs
theorem ownsRow_form {w : World} {base sz n : Nat} {e : TypeId} {v : Value} {xs : List Value} (h : w.ownsRow base e sz v (n + 1) xs) : ∃ g cap, v = .slice (some ⟨g, 0, none⟩) (n + 1) cap := by
  obtain ⟨hl, h | ⟨g', cap', cur, he, _⟩⟩ := h
  · exact absurd h.2 (by omega)
  · exact ⟨g', cap', he⟩

set_option maxRecDepth 100000 in
set_option maxHeartbeats 8000000 in
theorem s_chain (X : Nat → Prop) (p : Plan) (v : Value) (k0 : Nat) (s0 : Str) (i0 : Nat) (w : World) (hp : lodB p = true) (h : Sl X w 2 (KprC X w) v p.keepers) (hh0 : Here p ⟨k0, s0⟩ k0 i0) (hs0 : s0.size ≤ maxLen) :
    Calls Tryz.prog 31 #[.agg #[v], .agg #[.int .i64 k0, .string s0]] w (SChainPost (chainOf p ⟨k0, s0⟩) w) := by
  obtain ⟨A, cap, rfl, hcap, hlen⟩ := h.form
  have hlen' := hlen
  unfold maxLen at hlen'
  obtain ⟨j0, hi, hz0, hz1, hz2⟩ := info_parts info_ref
  have hU0 : Hid (Up p ⟨k0, s0⟩ [] ⟨k0, s0⟩) := Up.start p _
  replace hh0 := Lib.hid hh0
  replace hi := Lib.hid hi
  replace hz0 := Lib.hid hz0
  replace hz1 := Lib.hid hz1
  replace hz2 := Lib.hid hz2
  go_enter Tryz.func31, Tryz.ntmps31
  go_wp2
  have hB4 : Bx ((((w.alloc (.cells #[.slice A p.keepers.length cap] 34)).alloc (.cells #[.int .i64 k0, .string s0] 27)).alloc (.cells #[.int .i64 k0, .string s0] 27)).alloc (.cells #[.int .i64 k0, .string s0] 27)) w.heap.size 34 #[.slice A p.keepers.length cap] := by exact bxc
  have hQ4 : Bx ((((w.alloc (.cells #[.slice A p.keepers.length cap] 34)).alloc (.cells #[.int .i64 k0, .string s0] 27)).alloc (.cells #[.int .i64 k0, .string s0] 27)).alloc (.cells #[.int .i64 k0, .string s0] 27)) (w.heap.size + 1 + 1 + 1) 27 #[.int .i64 k0, .string s0] := by exact bxc
  have hw4 : Fr No w ((((w.alloc (.cells #[.slice A p.keepers.length cap] 34)).alloc (.cells #[.int .i64 k0, .string s0] 27)).alloc (.cells #[.int .i64 k0, .string s0] 27)).alloc (.cells #[.int .i64 k0, .string s0] 27)) := ((((Fr.refl No w).alloc _).alloc _).alloc _).alloc _
  have hC4 : Bx ((((w.alloc (.cells #[.slice A p.keepers.length cap] 34)).alloc (.cells #[.int .i64 k0, .string s0] 27)).alloc (.cells #[.int .i64 k0, .string s0] 27)).alloc (.cells #[.int .i64 k0, .string s0] 27)) (w.heap.size + 1 + 1) 27 #[.int .i64 k0, .string s0] := by exact bxc
  have hrow4 : ((((w.alloc (.cells #[.slice A p.keepers.length cap] 34)).alloc (.cells #[.int .i64 k0, .string s0] 27)).alloc (.cells #[.int .i64 k0, .string s0] 27)).alloc (.cells #[.int .i64 k0, .string s0] 27)).ownsRow (w.heap.size + 1 + 1) 27 2 (.slice (some ⟨w.heap.size + 1 + 1, 0, none⟩) 1 1) 1 (([] ++ [(⟨k0, s0⟩ : Ref)]).flatMap refCells) :=
    ⟨rfl, .inr ⟨_, 1, _, rfl, Nat.le_refl _, by exact hC4, Nat.le_refl _, by unfold maxLen; omega, rfl, rfl⟩⟩
  replace hrow4 := Lib.hid hrow4
  clear hC4
  generalize ((((w.alloc (.cells #[.slice A p.keepers.length cap] 34)).alloc (.cells #[.int .i64 k0, .string s0] 27)).alloc (.cells #[.int .i64 k0, .string s0] 27)).alloc (.cells #[.int .i64 k0, .string s0] 27)) = W4 at *
  go_loopw [6, 4, 5] (fun o u4 u5 wr => ∃ (pre : List Ref) (kc i : Nat) (sc : Str) (g cp : Nat), o = .slice (some ⟨g, 0, none⟩) (pre.length + 1) cp ∧ u4 = .slice none 0 0 ∧ u5 = .bool false ∧ Hid (Up p ⟨k0, s0⟩ pre ⟨kc, sc⟩) ∧ Hid (Here p ⟨kc, sc⟩ kc i) ∧ sc.size ≤ maxLen ∧ Hid (∀ x ∈ pre, x.name.size ≤ maxLen) ∧
    Hid (wr.ownsRow (w.heap.size + 1 + 1) 27 2 (.slice (some ⟨g, 0, none⟩) (pre.length + 1) cp) (pre.length + 1) ((pre ++ [(⟨kc, sc⟩ : Ref)]).flatMap refCells)) ∧ g ≠ w.heap.size + 1 + 1 + 1 ∧
    Bx wr w.heap.size 34 #[.slice A p.keepers.length cap] ∧ Bx wr (w.heap.size + 1 + 1 + 1) 27 #[.int .i64 kc, .string sc] ∧ Fr No w wr) (fun o _ _ _ => 8 - sliceLen o)
  case atStart => exact ⟨[], k0, i0, s0, w.heap.size + 1 + 1, 1, rfl, rfl, rfl, hU0, hh0, hs0, by simp [Hid], hrow4, by omega, hB4, hQ4, hw4⟩
  case round =>
    clear hB4 hQ4 hw4 hrow4 hU0 hh0 hs0
    obtain ⟨pre, kc, i, sc, g, cp, rfl, rfl, rfl, hU, hh, hsc, hns, hrow, hg3, hB, hQ, hw⟩ := hrel
    have b0 := hB.c1
    obtain ⟨q0, q1⟩ := hQ.c2
    have hBl := hB.lt
    have hQl := hQ.lt
    by_cases hlt : pre.length + 1 ≤ 6
    · have hkc := hh.out.2.1
      have hkw := h.keep hw (fun _ h => h.elim) (fun _ _ _ h => h.keep hw (fun _ h => h.elim))
      obtain ⟨Af, cf, Am, cm, hR, HC⟩ := s_class X p _ kc sc i wr hkw hh.out hsc
      have HT := Lib.hid (fun h1 => hU.out.top (by omega) h1)
      have HL := Lib.hid (fun h1 h2 => hU.out.lost (by omega) h1 h2)
      have HU := Lib.hid (fun h1 h2 => hU.out.step (by omega) h1 h2)
      have HW := fun W (hW : Fr No wr W) => s_whose X p _ kc (clsAt p ⟨kc, sc⟩).super W hp (hkw.keep hW (fun _ h => h.elim) (fun _ _ _ h => h.keep hW (fun _ h => h.elim))) hkc (by obtain ⟨_, _, _, _, h, _⟩ := hR; exact h)
      have hwh : (whose p (kc : Int) (clsAt p ⟨kc, sc⟩).super).2 = 1 → ∃ kn i2 : Nat, (whose p (kc : Int) (clsAt p ⟨kc, sc⟩).super).1 = ⟨kn, (clsAt p ⟨kc, sc⟩).super⟩ ∧ Here p ⟨kn, (clsAt p ⟨kc, sc⟩).super⟩ kn i2 := fun h => whose_here hp 4 (kc : Int) (by omega) (by omega) h
      have hsz : (clsAt p ⟨kc, sc⟩).super.size ≤ maxLen := by obtain ⟨_, _, _, _, h, _⟩ := hR; exact h
      dsimp only at HT HL HU
      replace hwh := Lib.hid hwh
      replace hsz := Lib.hid hsz
      clear hkw hR hU h hkc
      generalize hqq : whose p (kc : Int) (clsAt p ⟨kc, sc⟩).super = q2 at *
      clear hqq
      generalize hcc : clsAt p ⟨kc, sc⟩ = c at *
      clear hcc
      cases hs : c.super.toList.isEmpty
      · obtain ⟨⟨k2, s2⟩, c2⟩ := q2
        unfold refV at HW
        dsimp only at *
        by_cases hc : c2 = 1
        · subst hc
          obtain ⟨kn, i2, he, hh2⟩ := hwh.out rfl
          have he : (⟨k2, s2⟩ : Ref) = ⟨kn, c.super⟩ := he
          rw [Ref.mk.injEq] at he
          obtain ⟨rfl, rfl⟩ := he
          have HS := Lib.hid (HU.out hs rfl)
          have hh2 := Lib.hid hh2
          clear HT HL HU hwh hh
          go_wp2_with (first
            | (go_at_call 57; refine (HC _ (by exact frc)).mono ?_; rintro e w1 ⟨rfl, hf1⟩; have hB1 := hB.keep hf1; have hQ1 := hQ.keep hf1; have b0' := hB1.c1; obtain ⟨q0', q1'⟩ := hQ1.c2; have hBl1 := hB1.lt; have hQl1 := hQ1.lt; clear b0 q0 q1)
            | (go_at_call 58; refine (HW _ (by exact frc)).mono ?_; rintro e w2 ⟨rfl, hf2⟩; have hfr2 : Fr No wr w2 := (by exact frc); have hrow2 := ownsRow_keepG (X := No) hrow.out hfr2 (fun h => h); have hrl := ownsRow_lt hrow2; have hsz2 := Lib.hid hfr2.size; have hws := Lib.hid hw.size; clear hrow HW)
            | (at_builtin; refine wpList_append_own _ rfl _ _ 75 rfl (w.heap.size + 1 + 1) 27 j0 (.agg #[.int .i64 0, .string ⟨#[]⟩]) 2 24 Tryz.underlying75 hi.out hz0.out hz1.out hz2.out rfl (by decide) _ _ _ rfl ((hrow2.alloc _).alloc _) ⟨w2.heap.size + 1, 0, none⟩ 1 1 (refCells ⟨kn, c.super⟩) rfl rfl (fun j u h => by have := news_new (w2.alloc (.cells #[.int .i64 kn, .string c.super] 27)) #[.int .i64 kn, .string c.super] 27 j u h; simpa using this) (by simp [refCells, Value.oneCell']) (by unfold maxLen; omega) (by omega) (by have := hsz2.out; have := hws.out; simp; omega) ?_; intro v' w3 hown' hgrow hnil; obtain ⟨g', cap', rfl⟩ := ownsRow_form hown'; have hfg : Fr (fun b => b = g) wr w3 := ((hfr2.of0.alloc _).alloc _).grown hgrow (fun q e => .inr (by cases e; rfl)); have hQ3 := hQ.keepX hfg (fun h => hg3 h.symm); have hQl3 := hQ3.lt; have hQf3 := (fun j => hQ3.frozen j); obtain ⟨q0'', q1''⟩ := hQ3.c2; have hN3 : Bx w3 w2.heap.size 27 #[.int .i64 kn, .string c.super] := ((Bx.new w2 _ _).alloc _).keepX ((Fr.refl (fun b => b = g) _).grown hgrow (fun q e => .inr (by cases e; rfl))) (fun h => by have := hrl.2.1; omega); obtain ⟨m0, m1⟩ := hN3.c2; have hNl3 := hN3.lt))
          have hb3 := hB.keepX hfg (fun h => by have := hrl.1; have := hws.out; omega)
          have hfs : Fr (fun b => b = w.heap.size + 1 + 1 + 1) w3 ((w3.setCell ⟨w.heap.size + 1 + 1 + 1, 0, none⟩ (.int .i64 kn)).setCell ⟨w.heap.size + 1 + 1 + 1, 1, none⟩ (.string c.super)) := Fr.setCellX (X := fun b => b = w.heap.size + 1 + 1 + 1) (p := ⟨_, 1, none⟩) (Fr.setCellX (X := fun b => b = w.heap.size + 1 + 1 + 1) (p := ⟨_, 0, none⟩) (Fr.refl _ w3) (by rfl) _) (by rfl) _
          have hrow3 : w3.ownsRow (w.heap.size + 1 + 1) 27 2 (.slice (some ⟨g', 0, none⟩) (pre.length + 1 + 1) cap') (pre.length + 1 + 1) (((pre ++ [(⟨kc, sc⟩ : Ref)]) ++ [(⟨kn, c.super⟩ : Ref)]).flatMap refCells) := by
            rw [List.flatMap_append]; exact hown'
          have hg4 : g' ≠ w.heap.size + 1 + 1 + 1 := row_ne hrow3 hQ3 (by omega)
          have hrow4 := Lib.hid (ownsRow_keepG (X := fun b => b = w.heap.size + 1 + 1 + 1) hrow3 hfs hg4)
          have hQ4 := (hQ3.set_ 0 (.int .i64 kn)).set_ 1 (.string c.super)
          have hb4 := hb3.keepX hfs (by omega)
          have hw4 : Fr No w ((w3.setCell ⟨w.heap.size + 1 + 1 + 1, 0, none⟩ (.int .i64 kn)).setCell ⟨w.heap.size + 1 + 1 + 1, 1, none⟩ (.string c.super)) := (hw.trans hfg (fun b hb e => by have := hrl.1; omega)).trans hfs (fun b hb e => by omega)
          go_roundw
          case rel => exact ⟨pre ++ [(⟨kc, sc⟩ : Ref)], kn, i2, c.super, g', cap', by simp, rfl, rfl, HS, hh2, hsz.out, names_snoc (k := kc) hns.out hsc, by rw [List.length_append]; exact hrow4, hg4, hb4, hQ4, hw4⟩
          case measure => simp [sliceLen]; omega
        · have hc' : (c2 != 1) = true := by simpa using hc
          have HS : Hid (chainOf p ⟨k0, s0⟩ = none) := HL.out hs hc
          clear HT HL HU hwh hc
          go_wp2_with (first
            | (go_at_call 57; refine (HC _ (by exact frc)).mono ?_; rintro e w1 ⟨rfl, hf1⟩; have hB1 := hB.keep hf1; have hQ1 := hQ.keep hf1; have b0' := hB1.c1; obtain ⟨q0', q1'⟩ := hQ1.c2; have hBl1 := hB1.lt; have hQl1 := hQ1.lt; clear b0 q0 q1)
            | (go_at_call 58; refine (HW _ (by exact frc)).mono ?_; rintro e w2 ⟨rfl, hf2⟩))
          go_ret2
          exact .no HS.out (by exact frc)
      · have HS := Lib.hid (HT.out hs)
        clear HT HL HU hwh HW
        go_wp2_with (go_at_call 57; refine (HC _ (by exact frc)).mono ?_; rintro e w1 ⟨rfl, hf1⟩)
        go_ret2
        refine .yes HS.out (refs_sl (pre := pre ++ [(⟨kc, sc⟩ : Ref)]) (base := w.heap.size + 1 + 1) ?_ (names_snoc (k := kc) hns.out hsc).out) (by exact frc)
        rw [List.length_append]
        exact ownsRow_keepG (X := No) hrow.out (by exact frc) (fun h => h)
    · have HS : Hid (chainOf p ⟨k0, s0⟩ = none) := hU.out.full (by have := hU.out.1; omega)
      clear h
      go_wp2
      go_ret2
      exact .no HS.out (by exact frc)
end Go.Proofs.YtghmnkafpnkojaaGreatDoor
