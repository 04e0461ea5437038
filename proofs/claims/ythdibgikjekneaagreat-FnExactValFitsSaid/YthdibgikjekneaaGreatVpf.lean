/- The program's checks of what a value is: hasType, fits; ValFits. -/
import Derived.Test.YthdibgikjekneaaGreatVpi
import Derived.Test.YthdibgikjekneaaGreatUnd
import Derived.Test.YthdibgikjekneaaGreatCll
namespace Go.Proofs.YthdibgikjekneaaGreat
open Go.RowKit

set_option maxRecDepth 100000 in
set_option maxHeartbeats 4000000 in
theorem hasType_ok (X : Nat → Prop) (l bl n : Nat) (p : Plan) (g : Int → Str → Option Int) (k : Int) (u : Value) (hs : List Obj) (v : Val) (t : Knd) (w : World) (h : Lodge w l bl n p g) (hh : Sl X w 3 (ObjC X w) u hs) (hn : v.kind = 2 → ∃ i : Nat, v.n = i ∧ i < hs.length) (ht : t.name.size ≤ maxLen) :
    Calls Tryz.prog 114 #[.pointer (some ⟨l, 0, none⟩), .int .i64 k, u, .agg #[.int .i64 v.kind, .int .i64 v.n], .agg #[.int .i64 t.kind, .string t.name]] w (BoolFr (hasB p k hs v t) w) := by
  have HF := fun W (hW : Fr No w W) => find_ok l bl n p g k t.name W (h.keep hW) ht
  have HU := fun (i : Nat) (hi : i < hs.length) (ho : hs[i].of_.name.size ≤ maxLen) W (hW : Fr No w W) => under_ok l bl n p g hs[i].of_ (findK p k t.name).1 W (h.keep hW) ho
  obtain ⟨V, hV⟩ : ∃ V, V = hasB p k hs v t := ⟨_, rfl⟩
  rw [← hV]
  unfold hasB at hV
  obtain ⟨vk, vn⟩ := v
  obtain ⟨tk, tn⟩ := t
  obtain ⟨A, cap, rfl, _, hlen⟩ := hh.form
  unfold maxLen at hlen
  dsimp only at *
  clear h
  by_cases h1 : tk = 1
  · subst h1
    rw [if_pos rfl] at hV
    clear HF HU hh hn
    by_cases h2 : vk = 1
    · have hE : Hid (V = true) := by rw [hV]; simp [Hid, h2]
      clear hV
      subst h2
      go_enter Tryz.func114, Tryz.ntmps114
      go_wp2
      go_ret
      exact .mk hE.out.symm frc
    · have hE : Hid (V = false) := by rw [hV]; simp [Hid, h2]
      clear hV
      go_enter Tryz.func114, Tryz.ntmps114
      go_wp2
      go_ret
      exact .mk (by rw [hE.out]; simp [h2]) frc
  rw [if_neg h1] at hV
  by_cases h3 : vk = 3
  · subst h3
    rw [if_pos rfl] at hV
    replace hV := Lib.hid hV
    clear HF HU hh hn
    go_enter Tryz.func114, Tryz.ntmps114
    go_wp2
    go_ret
    exact .mk hV.out.symm frc
  rw [if_neg h3] at hV
  by_cases h2 : vk = 2
  · subst h2
    rw [if_pos rfl] at hV
    obtain ⟨i, rfl, hi⟩ := hn rfl
    rw [getD_nat hi] at hV
    obtain ⟨wA, hwA⟩ : ∃ wA, wA = ((w.alloc (.cells #[.int .i64 2, .int .i64 i] 57)).alloc (.cells #[.int .i64 tk, .string tn] 83)) := ⟨_, rfl⟩
    have hfA : Fr No w wA := hwA ▸ frc
    have K0 := (hwA ▸ bxc : Bx wA w.heap.size 57 #[.int .i64 2, .int .i64 i])
    have hkw := fun W (hW : Fr No w W) => hh.keep (R' := ObjC X W) hW (fun _ h => h.elim) (fun _ _ _ h => h.keep hW (fun _ h => h.elim))
    clear hh hn
    unfold refV at HF
    have HU' := HU i hi
    clear HU
    generalize underK p hs[i].of_ (findK p k tn).1 = U at *
    generalize findK p k tn = q at *
    obtain ⟨⟨qk, qn⟩, qc⟩ := q
    dsimp only at *
    by_cases hc : qc = 1
    · subst hc
      have hE : Hid (V = U) := by rw [hV]; simp [Hid]
      clear hV
      go_enter Tryz.func114, Tryz.ntmps114
      go_wp2_with fail
      rw [← hwA]
      replace hwA := Lib.hid hwA
      refine (HF _ hfA).mono ?_
      rintro e w1 ⟨rfl, hf1⟩
      go_wp2_with fail
      obtain ⟨w2, hw2⟩ : ∃ w2, w2 = w1.alloc (.cells #[.int .i64 qk, .string qn] 34) := ⟨_, rfl⟩
      rw [← hw2]
      have hf2 : Fr No w1 w2 := hw2 ▸ frc
      have q2 : Fr No w w2 := (hfA.trans0 hf1).trans0 hf2
      have B2 : Bx w2 w1.heap.size 34 #[.int .i64 qk, .string qn] := hw2 ▸ bxc
      obtain ⟨b, bf, Af, cf, rfl, _, c0, c1, _, z0, _, _, _⟩ := (hkw _ q2).obj hi
      have K2 := (K0.keep (hf1.trans0 hf2)).r2
      have R2 := B2.r2
      have HU2 := fun W (hW : Fr No w2 W) => HU' z0 W (q2.trans0 hW)
      have c0 := fun W (h : Fr No w2 W) => h.keep0 c0
      have c1 := fun W (h : Fr No w2 W) => h.keep0 c1
      clear hw2 hkw HU' HF K0 B2 hf1 hf2
      generalize hs[i] = o at *
      obtain ⟨⟨ok, on⟩, fs⟩ := o
      dsimp only at *
      (refine wp_region_fr (X := No) (by kernel_rfl) (by kernel_rfl) ?_)
      (repeat (first | (go_big_quiet_skip; (try simp only [Act.put, List.setIfInBounds_toArray, List.set_cons_zero, List.set_cons_succ])) | (go_big_quiet_want; (apply Exists.intro; refine ⟨fun W hW => ?_, ?_⟩); (focus (go_simp; (try simp only [↓IntWalk.iteOmega]); (try simp only [reduceIte]); first | done | exact rfl | exact ⟨trivial, rfl⟩ | exact ⟨rfl, rfl⟩ | (go_at_call 169; exact (HU2 W hW).mono (fun _ _ h => ⟨h.1, hW.trans0 h.2⟩)))); go_big_quiet_on; (try simp only [Act.put, List.setIfInBounds_toArray, List.set_cons_zero, List.set_cons_succ])))); refine wpQuiet_nil ?_
      intro w9 hf9
      clear c0 c1 K2 R2 HU2
      go_wp2
      go_ret
      exact .mk hE.out.symm (q2.trans0 hf9)
    · have hE : Hid (V = false) := by rw [hV]; simp [Hid, hc]
      clear hV HU' hkw
      go_enter Tryz.func114, Tryz.ntmps114
      go_wp2_with fail
      rw [← hwA]
      replace hwA := Lib.hid hwA
      refine (HF _ hfA).mono ?_
      rintro e w1 ⟨rfl, hf1⟩
      have q1 : Fr No w w1 := hfA.trans0 hf1
      clear HF K0
      have hcb : (qc == 1) = false := by simpa using hc
      go_wp2_with fail
      (refine wp_region_fr (X := No) (by kernel_rfl) (by kernel_rfl) ?_)
      (repeat (first | (go_big_quiet_skip; (try simp only [Act.put, List.setIfInBounds_toArray, List.set_cons_zero, List.set_cons_succ])) | (go_big_quiet_want; (apply Exists.intro; refine ⟨fun W hW => ?_, ?_⟩); (focus (go_simp; (try simp only [↓IntWalk.iteOmega]); (try simp only [reduceIte]); first | done | exact rfl | exact ⟨trivial, rfl⟩ | exact ⟨rfl, rfl⟩ | fail)); go_big_quiet_on; (try simp only [Act.put, List.setIfInBounds_toArray, List.set_cons_zero, List.set_cons_succ])))); refine wpQuiet_nil ?_
      intro w9 hf9
      go_wp2
      go_ret
      exact .mk hE.out.symm (q1.trans0 ((Fr.refl _ _).alloc _ |>.trans0 hf9))
  · have hE : Hid (V = false) := by rw [hV, if_neg h2]; rfl
    clear HF HU hh hn hV
    go_enter Tryz.func114, Tryz.ntmps114
    go_wp2
    go_ret
    exact .mk hE.out.symm frc

set_option maxRecDepth 100000 in
set_option maxHeartbeats 4000000 in
theorem fits_ok (X : Nat → Prop) (l bl n : Nat) (p : Plan) (g : Int → Str → Option Int) (k : Int) (u : Value) (hs : List Obj) (v : Val) (t : Tag) (w : World) (h : Lodge w l bl n p g) (hh : Sl X w 3 (ObjC X w) u hs) (hn : v.kind = 2 → ∃ i : Nat, v.n = i ∧ i < hs.length) (ht : t.name.size ≤ maxLen) :
    Calls Tryz.prog 64 #[.pointer (some ⟨l, 0, none⟩), .int .i64 k, u, .agg #[.int .i64 v.kind, .int .i64 v.n], .agg #[.int .i64 t.kind, .string t.name]] w (BoolFr (fitsB p k hs v t) w) := by
  obtain ⟨A, cap, rfl, _, hlen⟩ := hh.form
  have HT := fun W (hW : Fr No w W) => hasType_ok X l bl n p g k _ hs v ⟨t.kind, t.name⟩ W (h.keep hW) (hh.keep hW (fun _ h => h.elim) (fun _ _ _ h => h.keep hW (fun _ h => h.elim))) hn ht
  obtain ⟨V, hV⟩ : ∃ V, V = fitsB p k hs v t := ⟨_, rfl⟩
  rw [← hV]
  unfold fitsB at hV
  obtain ⟨vk, vn⟩ := v
  obtain ⟨tk, tn⟩ := t
  dsimp only at *
  clear h hh hn
  have hB0 := (Bx.new w 57 #[.int .i64 vk, .int .i64 vn])
  by_cases h0 : tk = 0
  · subst h0
    rw [if_pos rfl] at hV
    replace hV := Lib.hid hV
    clear HT
    go_enter Tryz.func64, Tryz.ntmps64
    go_wp2
    go_ret
    exact .mk hV.out.symm frc
  rw [if_neg h0] at hV
  by_cases h3 : tk = 3
  · subst h3
    rw [if_pos rfl] at hV
    clear HT
    by_cases h2 : vk = 3
    · have hE : Hid (V = true) := by rw [hV]; simp [Hid, h2]
      clear hV
      subst h2
      go_enter Tryz.func64, Tryz.ntmps64
      go_wp2
      go_ret
      exact .mk hE.out.symm frc
    · have hE : Hid (V = false) := by rw [hV]; simp [Hid, h2]
      clear hV
      go_enter Tryz.func64, Tryz.ntmps64
      go_wp2
      go_ret
      exact .mk (by rw [hE.out]; simp [h2]) frc
  rw [if_neg h3] at hV
  rw [← hV] at HT
  replace hV := Lib.hid hV
  go_enter Tryz.func64, Tryz.ntmps64
  go_wp2_with (go_at_call 114; refine (HT _ frc).mono ?_; rintro e w1 ⟨rfl, hf1⟩)
  go_ret
  exact .mk rfl frc
end Go.Proofs.YthdibgikjekneaaGreat

/- The program's ValFits. -/
namespace Go.Proofs.YthdibgikjekneaaGreat
open Go.RowKit

set_option maxRecDepth 100000 in
set_option maxHeartbeats 4000000 in
theorem valFits_ok (p : Plan) (k : Int) (u : Value) (hs : List Obj) (v : Val) (t : Tag) (pv : Value) (w : World) (h : Sl No w 2 (KprC No w) pv p.keepers) (hh : Sl No w 3 (ObjC No w) u hs) (hwf : ∀ o ∈ hs, (Lit.int .i64 o.of_.keeper).wf = true) (ht : t.name.size ≤ maxLen) :
    Calls Tryz.prog 29 #[.agg #[pv], .int .i64 k, u, .agg #[.int .i64 v.kind, .int .i64 v.n], .agg #[.int .i64 t.kind, .string t.name]] w (BoolFr (valFitsS p k hs v t) w) := by
  obtain ⟨A, cap, rfl, _, _⟩ := h.form
  obtain ⟨Au, cu, rfl, _, hul⟩ := hh.form
  unfold maxLen at hul
  obtain ⟨wA, hwA⟩ : ∃ wA, wA = (((w.alloc (.cells #[.slice A p.keepers.length cap] 32)).alloc (.cells #[.int .i64 v.kind, .int .i64 v.n] 57)).alloc (.cells #[.int .i64 t.kind, .string t.name] 59)) := ⟨_, rfl⟩
  have hfA : Fr No w wA := hwA ▸ frc
  have B0 : Bx wA w.heap.size 32 #[.slice A p.keepers.length cap] := hwA ▸ bxc
  have B1 : Bx wA (w.heap.size + 1) 57 #[.int .i64 v.kind, .int .i64 v.n] := hwA ▸ bxc
  have B2 : Bx wA (w.heap.size + 2) 59 #[.int .i64 t.kind, .string t.name] := hwA ▸ bxc
  have HN := newLodge_ok p _ wA (h.keep hfA (fun _ h => h.elim) (fun _ _ _ h => h.keep hfA (fun _ h => h.elim)))
  obtain ⟨V, hV⟩ : ∃ V, V = valFitsS p k hs v t := ⟨_, rfl⟩
  rw [← hV]
  unfold valFitsS at hV
  unfold NewPost at HN
  have q0 := B0.c1
  have l0 := B0.lt
  have l1 := B1.lt
  have l2 := B2.lt
  have hsA := hfA.size
  clear h
  cases hp : lodB p
  · rw [hp] at HN hV
    have hE : Hid (V = false) := by rw [hV]; rfl
    clear hV hh
    go_enter Tryz.func29, Tryz.ntmps29
    go_wp2_with fail
    rw [← hwA]
    replace hwA := Lib.hid hwA
    refine HN.mono ?_
    rintro e w1 ⟨hf1, ⟨_, rfl⟩ | ⟨hno, _⟩⟩
    · clear q0 l0 l1 l2 HN
      go_wp2
      go_ret
      exact .mk hE.out.symm (hfA.trans0 hf1)
    · cases hno
  · rw [hp, Bool.true_and] at hV
    rw [hp] at HN
    unfold valFitsB at hV
    go_enter Tryz.func29, Tryz.ntmps29
    go_wp2_with fail
    rw [← hwA]
    replace hwA := Lib.hid hwA
    refine HN.mono ?_
    rintro e w1 ⟨hf1, ⟨hno, _⟩ | ⟨_, l, bl, rfl, hll, hbl, hLo⟩⟩
    · cases hno
    have hLg : Lg w1 l bl 0 p := ⟨_, hLo, fun _ _ _ h => by cases h⟩
    have hw1 : Fr No w w1 := hfA.trans0 hf1
    have B1' := B1.keep hf1
    have B2' := B2.keep hf1
    have hs1 := hf1.size
    have HH := fun W (hW : Fr No w1 W) => lg_has (hLg.keep hW) k
    have HT := fun W => tag_ok t W ht
    clear HN hLo q0 B0 B1 B2
    replace l1 := Lib.hid l1
    replace l2 := Lib.hid l2
    obtain ⟨y0, y1⟩ := B1'.c2
    obtain ⟨z0, z1⟩ := B2'.c2
    have yl := B1'.lt
    have zl := B2'.lt
    have hcase : hasK p k = false ∨ (hasK p k = true ∧ tagB t = false) ∨ (hasK p k = true ∧ tagB t = true) := by
      cases hasK p k <;> cases tagB t <;> simp
    rcases hcase with g1 | ⟨g1, g2⟩ | ⟨g1, g2⟩
    · rw [g1] at HH hV
      have hE : Hid (V = false) := by rw [hV]; rfl
      clear hV g1 hh
      go_wp2_with (go_at_call 60; refine (HH _ frc).mono ?_; rintro e w' ⟨rfl, rfl⟩)
      go_ret
      exact .mk hE.out.symm frc
    · rw [g1] at HH
      rw [g1, g2] at hV
      rw [g2] at HT
      have hE : Hid (V = false) := by rw [hV]; rfl
      clear hV g1 g2 hh
      go_wp2_with (first
        | (go_at_call 60; refine (HH _ frc).mono ?_; rintro e w' ⟨rfl, rfl⟩)
        | (go_at_call 61; refine (HT _).mono ?_; rintro e w2 ⟨rfl, hf2⟩))
      go_ret
      exact .mk hE.out.symm frc
    · rw [g1] at HH
      rw [g1, g2, Bool.true_and, Bool.true_and] at hV
      rw [g2] at HT
      clear g1 g2
      have hhX : Sl (fun b => w.heap.size ≤ b) w 3 (ObjC (fun b => w.heap.size ≤ b) w) (.slice Au hs.length cu) hs := hh.old (by decide) (fun _ _ _ h => h.old)
      have HHp := fun W (hW : Fr No w1 W) => heap_ok (fun b => w.heap.size ≤ b) l bl 0 p _ hs W (hLg.keep hW) ((hhX.keep (R' := ObjC (fun b => w.heap.size ≤ b) w1) hw1 (fun _ h => h.elim) (fun _ _ _ h => h.keep hw1 (fun _ h => h.elim))).keep hW (fun _ h => h.elim) (fun _ _ _ h => h.keep hW (fun _ h => h.elim))) (by omega) hwf (by omega)
      unfold LgPost at HHp
      cases g3 : heapB p hs
      · rw [g3] at HHp hV
        have hE : Hid (V = false) := by rw [hV]; rfl
        clear hV g3 hh hhX
        go_wp2_with (first
          | (go_at_call 60; refine (HH _ frc).mono ?_; rintro e w' ⟨rfl, rfl⟩)
          | (go_at_call 61; refine (HT _).mono ?_; rintro e w2 ⟨rfl, hf2⟩)
          | (go_at_call 62; refine (HHp _ frc).mono ?_; rintro e w3 ⟨rfl, hf3, hL3⟩))
        go_ret
        exact .mk hE.out.symm ((hw1.trans0 hf2).trans hf3 (fun b hb h => absurd h (by omega)))
      · rw [g3] at HHp
        rw [g3, Bool.true_and] at hV
        go_wp2_with (first
          | (go_at_call 60; refine (HH _ frc).mono ?_; rintro e w' ⟨rfl, rfl⟩)
          | (go_at_call 61; refine (HT _).mono ?_; rintro e w2 ⟨rfl, hf2⟩))
        refine (HHp _ frc).mono ?_
        rintro e w3 ⟨rfl, hf3, hL3⟩
        have hw3 : Fr No w w3 := (hw1.trans0 hf2).trans hf3 (fun b hb h => absurd h (by omega))
        have B13 := (B1'.keep hf2).keepX hf3 (by have := l1.out; omega)
        have B23 := (B2'.keep hf2).keepX hf3 (by have := l2.out; omega)
        have hh3 := hh.keep (R' := ObjC No w3) hw3 (fun _ h => h.elim) (fun _ _ _ h => h.keep hw3 (fun _ h => h.elim))
        have HV := fun W => value_ok v (hs.length : Int) W
        clear y0 y1 z0 z1 yl zl HHp HH HT hh hhX
        obtain ⟨y0, y1⟩ := B13.c2
        obtain ⟨z0, z1⟩ := B23.c2
        have yl := B13.lt
        have zl := B23.lt
        cases g4 : valB hs.length v
        · rw [g4] at HV hV
          have hE : Hid (V = false) := by rw [hV]; rfl
          clear hV g4 g3
          go_wp2_with (go_at_call 63; refine (HV _).mono ?_; rintro e w4 ⟨rfl, hf4⟩)
          go_ret
          exact .mk hE.out.symm (hw3.trans0 hf4)
        · rw [g4] at HV
          rw [g4, Bool.true_and] at hV
          obtain ⟨g, hLo3, _⟩ := hL3
          have HF := fun W (hW : Fr No w3 W) => fits_ok No l bl (0 + 24) p g k _ hs v t W (hLo3.keep hW) (hh3.keep hW (fun _ h => h.elim) (fun _ _ _ h => h.keep hW (fun _ h => h.elim))) (fun hk => valB_ref g4 hk) ht
          rw [← hV] at HF
          replace hV := Lib.hid hV
          have K13 := B13.r2
          have K23 := B23.r2
          clear g4 g3 hh3 hLo3
          go_wp2_with (first
            | (go_at_call 63; refine (HV _).mono ?_; rintro e w4 ⟨rfl, hf4⟩; obtain ⟨y0, y1, _, yl⟩ := K13 _ hf4; obtain ⟨z0, z1, _, zl⟩ := K23 _ hf4)
            | (go_at_call 64; refine (HF _ (by exact frc)).mono ?_; rintro e w5 ⟨rfl, hf5⟩))
          go_ret
          exact .mk rfl ((hw3.trans0 hf4).trans0 hf5)
end Go.Proofs.YthdibgikjekneaaGreat
