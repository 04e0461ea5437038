/- The reference's link of a method: l4Class, l4Method. -/
import Derived.Test.YthdibgikjekneaaGreatCll
namespace Go.Proofs.YthdibgikjekneaaGreat
open Go.RowKit

theorem whose_end {p : Plan} {s : Str} : ∀ (n : Nat) (k : Int) {r : Ref}, whoseGo p s n k = (r, 1) → askTo p r.keeper s < 0 ∧ ¬ ownIx p r.keeper s < 0 ∧ r.name = s
  | 0, _, _, h => absurd (Prod.mk.inj h).2 (by decide)
  | n + 1, k, r, h => by
    rw [whoseGo] at h
    by_cases ha : askTo p k s < 0
    · rw [if_pos ha] at h
      by_cases ho : ownIx p k s < 0
      · rw [if_pos ho] at h
        exact absurd (Prod.mk.inj h).2 (by decide)
      · rw [if_neg ho] at h
        obtain rfl := (Prod.mk.inj h).1
        exact ⟨ha, ho, rfl⟩
    · rw [if_neg ha] at h
      exact whose_end n _ h
theorem upGo_ne {p : Plan} {n : Nat} {r : Ref} {rs : List Ref} (h : upGo p n r = some rs) : rs ≠ [] := by
  cases n with
  | zero => cases h
  | succ n =>
    rw [upGo] at h
    split at h
    · cases h; simp
    · split at h
      · obtain ⟨_, _, rfl⟩ := Option.map_eq_some_iff.1 h
        simp
      · cases h
/-- What is found is found by its own keeper, too. -/
theorem findK_self {p : Plan} {k : Int} {kc i : Nat} {s : Str} {pre : List Ref} (h : findK p k s = (⟨kc, s⟩, 1)) (hh : Here p ⟨kc, s⟩ kc i) (hc : chainOf p ⟨kc, s⟩ = some pre) : findK p kc s = (⟨kc, s⟩, 1) := by
  have h1 : whoseK p k s = (⟨kc, s⟩, 1) := by
    unfold findK at h
    by_cases h2 : (whoseK p k s).2 = 1
    · rw [if_pos h2] at h
      split at h
      · rw [← (Prod.mk.inj h).1, ← h2]
      · exact absurd (Prod.mk.inj h).2 (by decide)
    · rw [if_neg h2] at h
      exact absurd (Prod.mk.inj h).2 h2
  have h3 : whose p k s = (⟨kc, s⟩, 1) := by
    unfold whoseK at h1
    split at h1
    · exact h1
    · exact absurd (Prod.mk.inj h1).2 (by decide)
  obtain ⟨h4, h5, _⟩ := whose_end 4 k h3
  refine findK_some (pre := pre) ?_ hc
  rw [whoseK_nat hh.2.1]
  show whoseGo p s 4 kc = _
  rw [whoseGo, if_pos h4, if_neg h5]
theorem chainK_self {p : Plan} {k : Int} {kc i : Nat} {s : Str} {pre : List Ref} (h : findK p k s = (⟨kc, s⟩, 1)) (hh : Here p ⟨kc, s⟩ kc i) (hc : chainOf p ⟨kc, s⟩ = some pre) : chainK p ⟨kc, s⟩ = pre ∧ canB p ⟨kc, s⟩ = laidL p pre := by
  have h1 : chainK p ⟨kc, s⟩ = pre := by
    unfold chainK
    dsimp only
    rw [findK_self h hh hc, if_pos ⟨rfl, rfl⟩, hc]
    rfl
  refine ⟨h1, ?_⟩
  unfold canB
  rw [h1]
  cases pre with
  | nil => exact absurd rfl (upGo_ne hc)
  | cons a b => rfl

set_option maxRecDepth 100000 in
set_option maxHeartbeats 4000000 in
theorem s_l4class (X : Nat → Prop) (p : Plan) (v : Value) (k0 : Nat) (s : Str) (w : World) (hp : lodB p = true) (h : Sl X w 2 (KprC X w) v p.keepers) (hk0 : k0 < p.keepers.length) (hs : s.size ≤ maxLen) :
    Calls Tryz.prog 215 #[.agg #[v], .int .i64 k0, .string s] w (Gives (refV (classB p k0 s)) w) := by
  obtain ⟨A, cap, rfl, _, _⟩ := h.form
  have hkw := fun W (hW : Fr No w W) => h.keep (R' := KprC X W) hW (fun _ h => h.elim) (fun _ _ _ h => h.keep hW (fun _ h => h.elim))
  have HF := fun W (hW : Fr No w W) => s_find X p _ k0 s W hp (hkw W hW) hk0 hs
  have B0 : Bx ((w.alloc (.cells #[.slice A p.keepers.length cap] 32)).alloc (.cells #[.int .i64 0, .string ⟨#[]⟩] 34)) w.heap.size 32 #[.slice A p.keepers.length cap] := bxc
  have B1 : Bx ((w.alloc (.cells #[.slice A p.keepers.length cap] 32)).alloc (.cells #[.int .i64 0, .string ⟨#[]⟩] 34)) (w.heap.size + 1) 34 #[.int .i64 0, .string ⟨#[]⟩] := bxc
  by_cases hc : (findK p k0 s).2 = 1
  · obtain ⟨kc, i, pre, hq, hh, hch⟩ := findK_here hp hc
    have HL := fun W (hW : Fr No w W) => s_laid X p _ kc s i W hp (hkw W hW) hh hs
    rw [hch] at HL
    dsimp only [Option.getD_some] at HL
    rw [← (chainK_self hq hh hch).2] at HL
    have hV : classB p k0 s = if canB p ⟨kc, s⟩ then (⟨kc, s⟩, 1) else (noRef, 4) := by
      unfold classB
      rw [if_pos hc, hq]
    rw [hq] at HF
    unfold refV at HF ⊢
    replace hV := Lib.hid hV
    generalize classB p k0 s = V at *
    generalize canB p ⟨kc, s⟩ = cb at *
    dsimp only at HF
    clear hc hq hh hch h hkw
    go_enter Tryz.func215, Tryz.ntmps215
    go_wp2_with (go_at_call 107; refine (HF _ frc).mono ?_; rintro e w1 ⟨rfl, hf1⟩; have q1 : Fr No w w1 := frc; have C0 := B0.keep hf1; have C1 := B1.keep hf1; have b0 := C0.c1; have l0 := C0.lt; have l1 := C1.lt)
    refine calls_world (fun W => Bx W (w.heap.size + 1) 34 #[.int .i64 0, .string ⟨#[]⟩] ∧ Bx W w1.heap.size 34 #[.int .i64 kc, .string s] ∧ Fr No w W) ⟨bxc, bxc, frc⟩ ?_
    rintro Wz ⟨hB, hR, hwz⟩
    refine (HL Wz hwz).mono ?_
    rintro e w2 ⟨rfl, hf2⟩
    obtain ⟨z0, z1⟩ := (hB.keep hf2).c2
    have zf := fun j => (hB.keep hf2).frozen j
    have zl := (hB.keep hf2).lt
    obtain ⟨y0, y1⟩ := (hR.keep hf2).c2
    have yl := (hR.keep hf2).lt
    have q2 : Fr No w w2 := hwz.trans0 hf2
    clear hf1 q1 B0 B1 HF HL hB hR hwz C0 C1 b0 l0 l1 hf2
    cases cb
    · go_wp2
      refine bodyPost_ret (v := .tuple #[.agg #[.int .i64 0, .string ⟨#[]⟩], .int .i64 4]) (by simp [results, Tryz.results215, go_sem, *]) rfl ?_
      exact .mk1 (by rw [hV.out]; rfl) frc
    · go_wp2
      refine bodyPost_ret (v := .tuple #[.agg #[.int .i64 kc, .string s], .int .i64 1]) (by simp [results, Tryz.results215, go_sem, *]) rfl ?_
      exact .mk1 (by rw [hV.out]; rfl) frc
  · have HS : classB p k0 s = (noRef, 2) := by
      unfold classB
      rw [if_neg hc]
    rw [HS]
    unfold refV at HF ⊢
    have hc' : ((findK p k0 s).2 != 1) = true := by simpa using hc
    generalize findK p k0 s = q at *
    obtain ⟨⟨kc, nm⟩, c⟩ := q
    dsimp only at *
    clear hc HS h hkw
    go_enter Tryz.func215, Tryz.ntmps215
    go_wp2_with (go_at_call 107; refine (HF _ frc).mono ?_; rintro e w1 ⟨rfl, hf1⟩; have q1 : Fr No w w1 := frc; have C1 := B1.keep hf1; have ⟨z0, z1⟩ := C1.c2; have zf := (fun j => C1.frozen j); have zl := C1.lt)
    refine bodyPost_ret (v := .tuple #[.agg #[.int .i64 0, .string ⟨#[]⟩], .int .i64 2]) (by simp [results, Tryz.results215, go_sem, *]) rfl ?_
    exact .mk1 rfl frc

set_option maxRecDepth 100000 in
set_option maxHeartbeats 4000000 in
/-- A method that is there, and the reference's call for it. -/
theorem s_l4method (X : Nat → Prop) (p : Plan) (v : Value) {k i a : Nat} {s : Str} (w : World) (h : Sl X w 2 (KprC X w) v p.keepers) (hh : Here p ⟨k, s⟩ k i) (hs : s.size ≤ maxLen) (ha : a < (clsAt p ⟨k, s⟩).methods.length) :
    ∃ cs : List Value, MthC X w cs (clsAt p ⟨k, s⟩).methods[a] ∧ ∀ W, Fr No w W → Calls Tryz.prog 118 #[.agg #[v], .agg #[.int .i64 k, .string s, .int .i64 a]] W (Gives (.agg cs.toArray) W) := by
  obtain ⟨A, cap, rfl, _, _⟩ := h.form
  obtain ⟨Af, cf, Am, cm, hR, HC⟩ := s_class X p _ k s i w h hh hs
  clear h
  generalize clsAt p ⟨k, s⟩ = c at *
  obtain ⟨vf, vm, he, _, _, _, hm⟩ := hR
  simp only [List.cons.injEq, true_and, and_true] at he
  obtain ⟨rfl, rfl⟩ := he
  have hml := hm.at_.2.2.1
  unfold maxLen at hml
  obtain ⟨bm, om, Aa, ca, Ac, cc, Ax, cx, rfl, _, d0, d1, d2, d3, d4, d5, d6, d7, hr1, hr2, hr3, hr4, hr5, _, _, _, _, _, _⟩ := hm.mth ha
  refine ⟨[.string c.methods[a].name, .slice Aa c.methods[a].args.length ca, .int .i64 c.methods[a].ret.kind, .string c.methods[a].ret.name, .int .i64 c.methods[a].locals, .int .i64 c.methods[a].stack, .slice Ac c.methods[a].code.length cc, .slice Ax c.methods[a].maps.length cx], ⟨_, _, _, rfl, hr1, hr2, hr3, hr4, hr5⟩, fun w0 hW => ?_⟩
  clear hm hr1 hr2 hr3 hr4 hr5
  generalize c.methods[a] = m at *
  replace d0 := hW.keep0 d0
  replace d1 := hW.keep0 d1
  replace d2 := hW.keep0 d2
  replace d3 := hW.keep0 d3
  replace d4 := hW.keep0 d4
  replace d5 := hW.keep0 d5
  replace d6 := hW.keep0 d6
  replace d7 := hW.keep0 d7
  replace HC := fun W' (h : Fr No w0 W') => HC W' (hW.trans0 h)
  have hk0 : (0 : Int) ≤ (a : Int) := by omega
  have hka : (a : Int) < (c.methods.length : Int) := by omega
  clear hW hh
  obtain ⟨wA, hwA⟩ : ∃ wA, wA = (((w0.alloc (.cells #[.slice A p.keepers.length cap] 32)).alloc (.cells #[.int .i64 k, .string s, .int .i64 a] 98)).alloc (.cells #[.string ⟨#[]⟩, .slice none 0 0, .int .i64 0, .string ⟨#[]⟩, .int .i64 0, .int .i64 0, .slice none 0 0, .slice none 0 0] 87)) := ⟨_, rfl⟩
  have hfA : Fr No w0 wA := hwA ▸ frc
  have BP : Bx wA w0.heap.size 32 #[.slice A p.keepers.length cap] := hwA ▸ bxc
  have B0 : Bx wA (w0.heap.size + 1) 98 #[.int .i64 k, .string s, .int .i64 a] := hwA ▸ bxc
  have B1 : Bx wA (w0.heap.size + 1 + 1) 87 #[.string ⟨#[]⟩, .slice none 0 0, .int .i64 0, .string ⟨#[]⟩, .int .i64 0, .int .i64 0, .slice none 0 0, .slice none 0 0] := hwA ▸ bxc
  replace d0 := cr (hfA.keep0 d0)
  replace d1 := cr (hfA.keep0 d1)
  replace d2 := cr (hfA.keep0 d2)
  replace d3 := cr (hfA.keep0 d3)
  replace d4 := cr (hfA.keep0 d4)
  replace d5 := cr (hfA.keep0 d5)
  replace d6 := cr (hfA.keep0 d6)
  replace d7 := cr (hfA.keep0 d7)
  have K0 := B0.r3
  have KP := BP.r1
  go_enter Tryz.func118, Tryz.ntmps118
  go_wp2_with fail
  rw [← hwA]
  clear hwA
  refine wp_region_monL 9 [isV (.agg #[.slice A p.keepers.length cap]), isV (.pointer (some ⟨w0.heap.size + 1, 0, none⟩)), isV (.agg #[.int .i64 k, .string s]), isV (.agg #[.string c.name, .string c.super, .slice Af c.fields.length cf, .slice (some ⟨bm, om, none⟩) c.methods.length cm]), isV (.slice (some ⟨bm, om, none⟩) c.methods.length cm), isV (.pointer (some ⟨w0.heap.size + 1, 2, none⟩)), isV (.int .i64 a), isV (.pointer (some ⟨bm, om + a * 8, none⟩)), isV (.agg #[.string m.name, .slice Aa m.args.length ca, .int .i64 m.ret.kind, .string m.ret.name, .int .i64 m.locals, .int .i64 m.stack, .slice Ac m.code.length cc, .slice Ax m.maps.length cx])] [false, false, false, false, false, false, false, false, false] [false, false, false, false, false, false, false, false, false] ?_ (by kernel_rfl) (by kernel_rfl) ?_ ?_ ?_ ?_
  · intro x hx hb v W h
    simp only [List.zip_cons_cons, List.zip_nil_left, List.mem_cons, List.not_mem_nil, or_false] at hx
    rcases hx with rfl | rfl | rfl | rfl | rfl | rfl | rfl | rfl | rfl <;> first | (cases hb; done) | exact atB_bk h
  · intro o ho d hd; simp only [List.take_succ_cons, List.take_zero, List.mem_cons, List.not_mem_nil, or_false] at ho; rcases ho with rfl | rfl | rfl | rfl | rfl | rfl | rfl | rfl | rfl <;> (cases hd; simp)
  · intro x hx
    simp only [List.mem_cons, List.not_mem_nil, or_false] at hx
    rcases hx with rfl | rfl | rfl | rfl | rfl | rfl | rfl | rfl | rfl
    · exact isV_mono _
    · exact isV_mono _
    · exact isV_mono _
    · exact isV_mono _
    · exact isV_mono _
    · exact isV_mono _
    · exact isV_mono _
    · exact isV_mono _
    · exact isV_mono _
  · intro k o ho a' W hW hoff hdep
    have hbs := hW.size
    have H2 := hoff 2 (by simp)
    have H3 := hoff 3 (by simp)
    simp only [Act.eval] at H2 H3
    simp only [List.take_succ_cons, List.take_zero] at ho hdep
    rcases k with _ | _ | _ | _ | _ | _ | _ | _ | _ | k
    all_goals (first | (simp at ho; done) | skip)
    all_goals simp only [List.getElem?_cons_zero, List.getElem?_cons_succ, Option.some.injEq] at ho
    all_goals subst ho
    · refine ⟨fun h => absurd h (by decide), fun _ => ?_⟩
      unfold opGives
      simp [execOp, Act.eval, go_sem, givesUpon, *]
      exact ⟨Fr.refl _ _, rfl⟩
    · refine ⟨fun h => absurd h (by decide), fun _ => ?_⟩
      unfold opGives
      simp [execOp, Act.eval, H3, go_sem, givesUpon]
      exact ⟨Fr.refl _ _, rfl⟩
    · have D6 : a'.eval (.tmp 6) = .pointer (some ⟨w0.heap.size + 1, 0, none⟩) := hdep ⟨1, .data⟩ (by simp) rfl _ 6 rfl rfl
      simp only [Act.eval] at D6
      refine ⟨fun h => absurd h (by decide), fun _ => ?_⟩
      unfold opGives
      simp [execOp, Act.eval, go_sem, givesUpon, *]
      exact ⟨Fr.refl _ _, rfl⟩
    · have D5 : a'.eval (.tmp 5) = .agg #[.slice A p.keepers.length cap] := hdep ⟨0, .data⟩ (by simp) rfl _ 5 rfl rfl
      have D7 : a'.eval (.tmp 7) = .agg #[.int .i64 k, .string s] := hdep ⟨2, .data⟩ (by simp) rfl _ 7 rfl rfl
      simp only [Act.eval] at D5 D7
      refine ⟨fun h => absurd h (by decide), fun _ => ?_⟩
      unfold opGives
      simp [Act.eval, D5, D7, go_sem, givesUpon]
      exact (HC _ (hfA.trans0 hW)).mono fun e w'' h => ⟨_, h.1, h.2, rfl⟩
    · have D8 : a'.eval (.tmp 8) = .agg #[.string c.name, .string c.super, .slice Af c.fields.length cf, .slice (some ⟨bm, om, none⟩) c.methods.length cm] := hdep ⟨3, .data⟩ (by simp) rfl _ 8 rfl rfl
      simp only [Act.eval] at D8
      refine ⟨fun h => absurd h (by decide), fun _ => ?_⟩
      unfold opGives
      simp [execOp, Act.eval, D8, go_sem, givesUpon]
      exact ⟨Fr.refl _ _, rfl⟩
    · refine ⟨fun h => absurd h (by decide), fun _ => ?_⟩
      unfold opGives
      simp [execOp, Act.eval, H3, go_sem, givesUpon]
      exact ⟨Fr.refl _ _, rfl⟩
    · have D10 : a'.eval (.tmp 10) = .pointer (some ⟨w0.heap.size + 1, 2, none⟩) := hdep ⟨5, .data⟩ (by simp) rfl _ 10 rfl rfl
      simp only [Act.eval] at D10
      refine ⟨fun h => absurd h (by decide), fun _ => ?_⟩
      unfold opGives
      simp [execOp, Act.eval, go_sem, givesUpon, *]
      exact ⟨Fr.refl _ _, rfl⟩
    · have D9 : a'.eval (.tmp 9) = .slice (some ⟨bm, om, none⟩) c.methods.length cm := hdep ⟨4, .data⟩ (by simp) rfl _ 9 rfl rfl
      have D11 : a'.eval (.tmp 11) = .int .i64 a := hdep ⟨6, .data⟩ (by simp) rfl _ 11 rfl rfl
      simp only [Act.eval] at D9 D11
      refine ⟨fun h => absurd h (by decide), fun _ => ?_⟩
      unfold opGives
      simp [execOp, Act.eval, go_sem, givesUpon, *]
      exact ⟨Fr.refl _ _, rfl⟩
    · have D12 : a'.eval (.tmp 12) = .pointer (some ⟨bm, om + a * 8, none⟩) := hdep ⟨7, .data⟩ (by simp) rfl _ 12 rfl rfl
      simp only [Act.eval] at D12
      refine ⟨fun h => absurd h (by decide), fun _ => ?_⟩
      unfold opGives
      simp [execOp, Act.eval, go_sem, givesUpon, *]
      exact ⟨Fr.refl _ _, rfl⟩
  intro vs WR hWR hv hne
  have e0 : vs 0 = _ := hv 0 (by omega)
  have e1 : vs 1 = _ := hv 1 (by omega)
  have e2 : vs 2 = _ := hv 2 (by omega)
  have e3 : vs 3 = _ := hv 3 (by omega)
  have e4 : vs 4 = _ := hv 4 (by omega)
  have e5 : vs 5 = _ := hv 5 (by omega)
  have e6 : vs 6 = _ := hv 6 (by omega)
  have e7 : vs 7 = _ := hv 7 (by omega)
  have e8 : vs 8 = _ := hv 8 (by omega)
  simp only [List.take_succ_cons, List.take_zero, List.drop_succ_cons, List.drop_zero, putsL, if_true, Nat.zero_add, Nat.reduceAdd, e0, e1, e2, e3, e4, e5, e6, e7, e8]
  simp only [Act.put, List.setIfInBounds_toArray, List.set_cons_zero, List.set_cons_succ]
  clear e0 e1 e2 e3 e4 e5 e6 e7 e8 hv
  have q1 : Fr No w0 WR := hfA.trans0 hWR
  have B1' := B1.keep hWR
  obtain ⟨z0, z1, z2, z3, z4, z5, z6, z7⟩ := B1'.c8
  have zf := fun j => B1'.frozen j
  have zl := B1'.lt
  go_wp2
  refine bodyPost_ret (v := .agg #[.string m.name, .slice Aa m.args.length ca, .int .i64 m.ret.kind, .string m.ret.name, .int .i64 m.locals, .int .i64 m.stack, .slice Ac m.code.length cc, .slice Ax m.maps.length cx]) (by simp [results, Tryz.results118, go_sem, *]) rfl ?_
  exact .mk1 rfl frc
end Go.Proofs.YthdibgikjekneaaGreat

/- The reference's link of a method: l4Call, LnkCall. -/
namespace Go.Proofs.YthdibgikjekneaaGreat
open Go.RowKit

set_option maxRecDepth 100000 in
set_option maxHeartbeats 8000000 in
theorem s_call (X : Nat → Prop) (p : Plan) (v : Value) (k0 : Nat) (s m : Str) (w : World) (hp : lodB p = true) (h : Sl X w 2 (KprC X w) v p.keepers) (hk0 : k0 < p.keepers.length) (hs : s.size ≤ maxLen) (hm : m.size ≤ maxLen) :
    Calls Tryz.prog 181 #[.agg #[v], .int .i64 k0, .string s, .string m] w (Gives (callV (callG p k0 m (classB p k0 s))) w) := by
  obtain ⟨A, cap, rfl, _, _⟩ := h.form
  have hkw := fun W (hW : Fr No w W) => h.keep (R' := KprC X W) hW (fun _ h => h.elim) (fun _ _ _ h => h.keep hW (fun _ h => h.elim))
  have HK := fun W (hW : Fr No w W) => s_l4class X p _ k0 s W hp (hkw W hW) hk0 hs
  have B0 : Bx ((w.alloc (.cells #[.slice A p.keepers.length cap] 32)).alloc (.cells #[.int .i64 0, .string ⟨#[]⟩, .int .i64 0] 98)) w.heap.size 32 #[.slice A p.keepers.length cap] := bxc
  have B1 : Bx ((w.alloc (.cells #[.slice A p.keepers.length cap] 32)).alloc (.cells #[.int .i64 0, .string ⟨#[]⟩, .int .i64 0] 98)) (w.heap.size + 1) 98 #[.int .i64 0, .string ⟨#[]⟩, .int .i64 0] := bxc
  obtain ⟨q, hq⟩ : ∃ q, q = classB p k0 s := ⟨_, rfl⟩
  rw [← hq] at HK ⊢
  have hV : ∃ V, V = callG p k0 m q := ⟨_, rfl⟩
  obtain ⟨V, hV⟩ := hV
  rw [← hV]
  obtain ⟨⟨rk, rn⟩, c⟩ := q
  unfold refV at HK
  dsimp only at HK
  unfold callG at hV
  dsimp only at hV
  by_cases hc : c = 1
  · subst hc
    rw [if_pos rfl] at hV
    obtain ⟨kc, i, hr, hh, hcb, hfk⟩ := classB_one hp hq.symm
    obtain ⟨kc2, _, pre, hq2, _, hch⟩ := findK_here hp (show (findK p k0 s).2 = 1 by rw [hfk])
    have hkk : kc = kc2 := Int.ofNat.inj (Ref.mk.inj (Prod.mk.inj (hfk.symm.trans hq2)).1).1
    subst hkk
    obtain ⟨rfl, rfl⟩ := Ref.mk.inj hr
    have HC := fun W (hW : Fr No w W) => s_chain X p _ _ rn i W hp (hkw W hW) hh hs
    rw [hch] at HC
    have hpk : pickB p ⟨(kc : Int), rn⟩ m = pickGo p m pre := by
      unfold pickB
      rw [hcb, if_pos rfl, (chainK_self hfk hh hch).1]
    have HW := fun W u (hW : Fr No w W) (hu : Sl No W 2 RefC u pre) => s_which X No p _ u pre m W (hkw W hW) hu (chain_here hp hh hch) hm
    rw [← hpk] at HW
    clear hq hr hh hcb hfk hq2 hch hpk
    cases ho : pickB p ⟨(kc : Int), rn⟩ m with
    | none =>
      rw [ho] at HW hV
      dsimp only at hV
      subst hV
      unfold pickV at HW
      clear ho h hkw
      unfold callV
      go_enter Tryz.func181, Tryz.ntmps181
      go_wp2_with (go_at_call 215; refine (HK _ frc).mono ?_; rintro e w1 ⟨rfl, hf1⟩; have q1 : Fr No w w1 := frc; have C0 := B0.keep hf1; have C1 := B1.keep hf1; have b0 := C0.c1; have l0 := C0.lt; have l1 := C1.lt)
      refine calls_world (fun W => Bx W w.heap.size 32 #[.slice A p.keepers.length cap] ∧ Bx W (w.heap.size + 1) 98 #[.int .i64 0, .string ⟨#[]⟩, .int .i64 0] ∧ Bx W w1.heap.size 34 #[.int .i64 kc, .string rn] ∧ Fr No w W) ⟨bxc, bxc, bxc, frc⟩ ?_
      rintro Wz ⟨hA, hB, hR, hwz⟩
      clear hf1 q1 B0 B1 C0 C1 b0 l0 l1 HK
      refine (HC Wz hwz).mono ?_
      rintro e w2 ⟨v2, rfl, hsl, hf2⟩
      obtain ⟨A2, c2, rfl, _, _⟩ := hsl.form
      have q2 : Fr No w w2 := hwz.trans0 hf2
      replace hA := hA.keep hf2
      replace hB := hB.keep hf2
      obtain b0 := hA.c1
      have l0 := hA.lt
      clear hf2 hwz
      go_wp2_with fail
      refine (HW w2 _ q2 hsl).mono ?_
      rintro e w3 ⟨rfl, hf3⟩
      replace hB := hB.keep hf3
      obtain ⟨z0, z1, z2⟩ := hB.c3
      have zf := fun j => hB.frozen j
      have zl := hB.lt
      clear b0 l0 hA hR
      go_wp2
      refine bodyPost_ret (v := .tuple #[.agg #[.int .i64 0, .string ⟨#[]⟩, .int .i64 0], .int .i64 3]) (by simp [results, Tryz.results181, go_sem, *]) rfl ?_
      exact .mk1 rfl frc
    | some qa =>
      obtain ⟨⟨qk, qn⟩, a'⟩ := qa
      obtain ⟨hqs, kq, ix, a, hh, rfl, ha⟩ := pickB_some hp ho
      obtain rfl : qk = (kq : Int) := hh.1
      have hkq := hh.2.1
      dsimp only at hqs
      rw [ho] at HW hV
      unfold pickV at HW
      dsimp only at HW hV
      have hmt : (clsAt p ⟨(kq : Int), qn⟩).methods.getD ((a : Int)).toNat zeroMth = (clsAt p ⟨(kq : Int), qn⟩).methods[a] := by simp [List.getD, List.getElem?_eq_getElem ha]
      rw [hmt] at hV
      clear ho hmt
      obtain ⟨cs, hM, HMe⟩ := s_l4method X p _ w h hh hqs ha
      have HA := fun W (hW : Fr No w W) => s_shape X X p _ k0 kq _ cs W hp (hkw W hW) hk0 hkq (hM.keep hW (fun _ h => h.elim))
      clear hh h hkw
      generalize (clsAt p ⟨(kq : Int), qn⟩).methods[a] = mt at *
      generalize agreeM p k0 kq mt = ag at *
      clear ha hM
      replace hV := Lib.hid hV
      go_enter Tryz.func181, Tryz.ntmps181
      go_wp2_with (go_at_call 215; refine (HK _ frc).mono ?_; rintro e w1 ⟨rfl, hf1⟩; have q1 : Fr No w w1 := frc; have C0 := B0.keep hf1; have C1 := B1.keep hf1; have b0 := C0.c1; have l0 := C0.lt; have l1 := C1.lt)
      refine calls_world (fun W => Bx W w.heap.size 32 #[.slice A p.keepers.length cap] ∧ Bx W (w.heap.size + 1) 98 #[.int .i64 0, .string ⟨#[]⟩, .int .i64 0] ∧ Bx W w1.heap.size 34 #[.int .i64 kc, .string rn] ∧ Fr No w W) ⟨bxc, bxc, bxc, frc⟩ ?_
      rintro Wz ⟨hA, hB, hR, hwz⟩
      clear hf1 q1 B0 B1 C0 C1 b0 l0 l1 HK
      refine (HC Wz hwz).mono ?_
      rintro e w2 ⟨v2, rfl, hsl, hf2⟩
      obtain ⟨A2, c2, rfl, _, _⟩ := hsl.form
      have q2 : Fr No w w2 := hwz.trans0 hf2
      replace hA := hA.keep hf2
      replace hB := hB.keep hf2
      obtain b0 := hA.c1
      have l0 := hA.lt
      clear hf2 hwz hR
      go_wp2_with fail
      refine (HW w2 _ q2 hsl).mono ?_
      rintro e w3 ⟨rfl, hf3⟩
      have q3 : Fr No w w3 := q2.trans0 hf3
      replace hA := hA.keep hf3
      replace hB := hB.keep hf3
      have hlB := hB.lt
      clear b0 l0 HC HW
      go_wp2_with fail
      refine wp_world (fun W => Bx W w.heap.size 32 #[.slice A p.keepers.length cap] ∧ Bx W (w.heap.size + 1) 98 #[.int .i64 0, .string ⟨#[]⟩, .int .i64 0] ∧ Bx W w3.heap.size 98 #[.int .i64 kq, .string qn, .int .i64 a] ∧ Fr No w W) ⟨bxc, bxc, bxc, frc⟩ ?_
      clear hA hB hlB q3 hf3 q2 hsl
      rintro wA ⟨hA, hB, hR, hwz⟩
      have K0 := hR.r3
      have KP := hA.r1
      refine wp_region_monL 9 [isV (.agg #[.slice A p.keepers.length cap]), isV (.int .i64 k0), isV (.pointer (some ⟨w3.heap.size, 0, none⟩)), isV (.pointer (some ⟨w3.heap.size, 0, none⟩)), isV (.int .i64 kq), isV (.agg #[.slice A p.keepers.length cap]), isV (.agg #[.int .i64 kq, .string qn, .int .i64 a]), isV (.agg cs.toArray), isV (.bool ag)] [false, false, false, false, false, false, false, false, false] [false, false, false, false, false, false, false, false, false] ?_ (by kernel_rfl) (by kernel_rfl) ?_ ?_ ?_ ?_
      · intro x hx hb v W h
        simp only [List.zip_cons_cons, List.zip_nil_left, List.mem_cons, List.not_mem_nil, or_false] at hx
        rcases hx with rfl | rfl | rfl | rfl | rfl | rfl | rfl | rfl | rfl <;> first | (cases hb; done) | exact atB_bk h
      · intro o ho d hd; simp only [List.take_succ_cons, List.take_zero, List.mem_cons, List.not_mem_nil, or_false] at ho; rcases ho with rfl | rfl | rfl | rfl | rfl | rfl | rfl | rfl | rfl <;> (cases hd; simp)
      · intro x hx
        simp only [List.mem_cons, List.not_mem_nil, or_false] at hx
        rcases hx with rfl | rfl | rfl | rfl | rfl | rfl | rfl | rfl | rfl
        · exact isV_mono _
        · exact isV_mono _
        · exact isV_mono _
        · exact isV_mono _
        · exact isV_mono _
        · exact isV_mono _
        · exact isV_mono _
        · exact isV_mono _
        · exact isV_mono _
      · intro k o ho a' W hW hoff hdep
        have hbs := hW.size
        have H4 := hoff 4 (by simp)
        have H1 := hoff 1 (by simp)
        have H14 := hoff 14 (by simp)
        simp only [Act.eval] at H4 H1 H14
        simp only [List.take_succ_cons, List.take_zero] at ho hdep
        rcases k with _ | _ | _ | _ | _ | _ | _ | _ | _ | k
        all_goals (first | (simp at ho; done) | skip)
        all_goals simp only [List.getElem?_cons_zero, List.getElem?_cons_succ, Option.some.injEq] at ho
        all_goals subst ho
        · refine ⟨fun h => absurd h (by decide), fun _ => ?_⟩
          unfold opGives
          simp [execOp, Act.eval, go_sem, givesUpon, *]
          exact ⟨Fr.refl _ _, rfl⟩
        · refine ⟨fun h => absurd h (by decide), fun _ => ?_⟩
          unfold opGives
          simp [execOp, Act.eval, H1, go_sem, givesUpon]
          exact ⟨Fr.refl _ _, rfl⟩
        · refine ⟨fun h => absurd h (by decide), fun _ => ?_⟩
          unfold opGives
          simp [execOp, Act.eval, H14, go_sem, givesUpon]
          exact ⟨Fr.refl _ _, rfl⟩
        · have D45 : a'.eval (.tmp 45) = .pointer (some ⟨w3.heap.size, 0, none⟩) := hdep ⟨2, .data⟩ (by simp) rfl _ 45 rfl rfl
          simp only [Act.eval] at D45
          refine ⟨fun h => absurd h (by decide), fun _ => ?_⟩
          unfold opGives
          simp [execOp, Act.eval, D45, go_sem, givesUpon]
          exact ⟨Fr.refl _ _, rfl⟩
        · have D46 : a'.eval (.tmp 46) = .pointer (some ⟨w3.heap.size, 0, none⟩) := hdep ⟨3, .data⟩ (by simp) rfl _ 46 rfl rfl
          simp only [Act.eval] at D46
          refine ⟨fun h => absurd h (by decide), fun _ => ?_⟩
          unfold opGives
          simp [execOp, Act.eval, go_sem, givesUpon, *]
          exact ⟨Fr.refl _ _, rfl⟩
        · refine ⟨fun h => absurd h (by decide), fun _ => ?_⟩
          unfold opGives
          simp [execOp, Act.eval, go_sem, givesUpon, *]
          exact ⟨Fr.refl _ _, rfl⟩
        · refine ⟨fun h => absurd h (by decide), fun _ => ?_⟩
          unfold opGives
          simp [execOp, Act.eval, go_sem, givesUpon, *]
          exact ⟨Fr.refl _ _, rfl⟩
        · have D48 : a'.eval (.tmp 48) = .agg #[.slice A p.keepers.length cap] := hdep ⟨5, .data⟩ (by simp) rfl _ 48 rfl rfl
          have D49 : a'.eval (.tmp 49) = .agg #[.int .i64 kq, .string qn, .int .i64 a] := hdep ⟨6, .data⟩ (by simp) rfl _ 49 rfl rfl
          simp only [Act.eval] at D48 D49
          refine ⟨fun h => absurd h (by decide), fun _ => ?_⟩
          unfold opGives
          simp [Act.eval, D48, D49, go_sem, givesUpon]
          exact (HMe _ (hwz.trans0 hW)).mono fun e w'' h => ⟨_, h.1, h.2, rfl⟩
        · have D43 : a'.eval (.tmp 43) = .agg #[.slice A p.keepers.length cap] := hdep ⟨0, .data⟩ (by simp) rfl _ 43 rfl rfl
          have D44 : a'.eval (.tmp 44) = .int .i64 k0 := hdep ⟨1, .data⟩ (by simp) rfl _ 44 rfl rfl
          have D47 : a'.eval (.tmp 47) = .int .i64 kq := hdep ⟨4, .data⟩ (by simp) rfl _ 47 rfl rfl
          have D50 : a'.eval (.tmp 50) = .agg cs.toArray := hdep ⟨7, .data⟩ (by simp) rfl _ 50 rfl rfl
          simp only [Act.eval] at D43 D44 D47 D50
          refine ⟨fun h => absurd h (by decide), fun _ => ?_⟩
          unfold opGives
          simp [Act.eval, D43, D44, D47, D50, go_sem, givesUpon]
          exact (HA _ (hwz.trans0 hW)).mono fun e w'' h => ⟨_, h.1, h.2, rfl⟩
      intro vs WR hWR hv hne
      have e0 : vs 0 = _ := hv 0 (by omega)
      have e1 : vs 1 = _ := hv 1 (by omega)
      have e2 : vs 2 = _ := hv 2 (by omega)
      have e3 : vs 3 = _ := hv 3 (by omega)
      have e4 : vs 4 = _ := hv 4 (by omega)
      have e5 : vs 5 = _ := hv 5 (by omega)
      have e6 : vs 6 = _ := hv 6 (by omega)
      have e7 : vs 7 = _ := hv 7 (by omega)
      have e8 : vs 8 = _ := hv 8 (by omega)
      simp only [List.take_succ_cons, List.take_zero, List.drop_succ_cons, List.drop_zero, putsL, if_true, Nat.zero_add, Nat.reduceAdd, e0, e1, e2, e3, e4, e5, e6, e7, e8]
      simp only [Act.put, List.setIfInBounds_toArray, List.set_cons_zero, List.set_cons_succ]
      clear e0 e1 e2 e3 e4 e5 e6 e7 e8 hv
      have BZ := hB.keep hWR
      have BR := hR.keep hWR
      obtain ⟨z0, z1, z2⟩ := BZ.c3
      have zf := fun j => BZ.frozen j
      have zl := BZ.lt
      obtain ⟨y0, y1, y2⟩ := BR.c3
      have yl := BR.lt
      have q4 : Fr No w WR := hwz.trans0 hWR
      clear hA hB hR hwz K0 KP HA HMe
      cases ag
      · go_wp2
        refine bodyPost_ret (v := .tuple #[.agg #[.int .i64 0, .string ⟨#[]⟩, .int .i64 0], .int .i64 4]) (by simp [results, Tryz.results181, go_sem, *]) rfl ?_
        exact .mk1 (by rw [hV.out]; rfl) frc
      · go_wp2
        refine bodyPost_ret (v := .tuple #[.agg #[.int .i64 kq, .string qn, .int .i64 a], .int .i64 1]) (by simp [results, Tryz.results181, go_sem, *]) rfl ?_
        exact .mk1 (by rw [hV.out]; rfl) frc
  · rw [if_neg hc] at hV
    subst hV
    have hc' : (c != 1) = true := by simpa using hc
    unfold callV
    clear hq hc h hkw
    go_enter Tryz.func181, Tryz.ntmps181
    go_wp2_with (go_at_call 215; refine (HK _ frc).mono ?_; rintro e w1 ⟨rfl, hf1⟩; have q1 : Fr No w w1 := frc; have C1 := B1.keep hf1; have ⟨z0, z1, z2⟩ := C1.c3; have zf := (fun j => C1.frozen j); have zl := C1.lt)
    refine bodyPost_ret (v := .tuple #[.agg #[.int .i64 0, .string ⟨#[]⟩, .int .i64 0], .int .i64 c]) (by simp [results, Tryz.results181, go_sem, *]) rfl ?_
    exact .mk1 rfl frc
end Go.Proofs.YthdibgikjekneaaGreat
