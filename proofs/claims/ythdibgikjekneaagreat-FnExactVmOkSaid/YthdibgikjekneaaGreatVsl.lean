/- The reference's checks of values and things; ValFits. -/
import Derived.Test.YthdibgikjekneaaGreatVpi
import Derived.Test.YthdibgikjekneaaGreatSly
import Derived.Test.YthdibgikjekneaaGreatSll
import Derived.Test.YthdibgikjekneaaGreatSmy
namespace Go.Proofs.YthdibgikjekneaaGreat
open Go.RowKit

set_option maxHeartbeats 1000000 in
theorem s_val (v : Val) (many : Nat) (w : World) (hm : many ≤ maxLen) : Calls Tryz.prog 56 #[.agg #[.int .i64 v.kind, .int .i64 v.n], .int .i64 many] w (BoolFr (valB many v) w) := by
  obtain ⟨k, n⟩ := v
  unfold maxLen at hm
  dsimp only
  have HN := fun W => s_l1In n (-9999) 9999 W
  have HM := fun W => s_l1In n 0 ((many : Int) - 1) W
  obtain ⟨V, hV⟩ : ∃ V, V = valB many ⟨k, n⟩ := ⟨_, rfl⟩
  rw [← hV]
  unfold valB numB at hV
  dsimp only at hV
  by_cases h1 : k = 1
  · subst h1
    rw [if_pos rfl] at hV
    rw [← hV] at HN
    replace hV := Lib.hid hV
    clear HM
    go_enter Tryz.func56, Tryz.ntmps56
    go_wp2_with (go_at_call 47; refine (HN _).mono ?_; rintro e w1 ⟨rfl, rfl⟩)
    go_ret
    exact .mk rfl (by exact frc)
  rw [if_neg h1] at hV
  clear HN
  by_cases h2 : k = 2
  · subst h2
    rw [if_pos rfl] at hV
    have h9 : (decide (0 ≤ n) && decide (n ≤ (many : Int) - 1)) = V := by rw [hV]; congr 1; apply decide_eq_decide.2; omega
    rw [h9] at HM
    replace hV := Lib.hid hV
    clear h9
    go_enter Tryz.func56, Tryz.ntmps56
    go_wp2_with (go_at_call 47; refine (HM _).mono ?_; rintro e w1 ⟨rfl, rfl⟩)
    go_ret
    exact .mk rfl (by exact frc)
  rw [if_neg h2] at hV
  clear HM
  by_cases h0 : k = 0
  · subst h0
    by_cases h3 : n = 0
    · have hE : Hid (V = true) := by rw [hV]; simp [Hid, h3]
      clear hV
      subst h3
      go_enter Tryz.func56, Tryz.ntmps56
      go_wp2
      go_ret
      exact .mk hE.out.symm (by exact frc)
    · have hE : Hid (V = false) := by rw [hV]; simp [Hid, h3]
      clear hV
      go_enter Tryz.func56, Tryz.ntmps56
      go_wp2
      go_ret
      exact .mk (by rw [hE.out]; try simp [h3]) (by exact frc)
  by_cases h5 : k = 3
  · subst h5
    by_cases h3 : n = 0
    · have hE : Hid (V = true) := by rw [hV]; simp [Hid, h3]
      clear hV
      subst h3
      go_enter Tryz.func56, Tryz.ntmps56
      go_wp2
      go_ret
      exact .mk hE.out.symm (by exact frc)
    · have hE : Hid (V = false) := by rw [hV]; simp [Hid, h3]
      clear hV
      go_enter Tryz.func56, Tryz.ntmps56
      go_wp2
      go_ret
      exact .mk (by rw [hE.out]; try simp [h3]) (by exact frc)
  have hE : Hid (V = false) := by rw [hV]; simp [Hid, h0, h5]
  clear hV
  go_enter Tryz.func56, Tryz.ntmps56
  go_wp2
  all_goals go_ret
  all_goals exact .mk (by rw [hE.out]; try simp [h0, h5]) (by exact frc)

set_option maxRecDepth 100000 in
set_option maxHeartbeats 2000000 in
theorem s_vals (X : Nat → Prop) (v : Value) (xs : List Val) (many : Nat) (w : World) (h : Sl X w 2 ValC v xs) (hm : many ≤ maxLen) :
    Calls Tryz.prog 105 #[v, .int .i64 many] w (BoolFr (xs.all (valB many)) w) := by
  obtain ⟨A, cap, rfl, _, hlen⟩ := h.form
  unfold maxLen at hlen
  obtain ⟨V, hV⟩ : ∃ V, V = xs.all (valB many) := ⟨_, rfl⟩
  rw [← hV]
  replace hV := Lib.hid hV
  go_enter Tryz.func105, Tryz.ntmps105
  go_wp2
  go_loopw [5] (fun i wr => ∃ j : Nat, j ≤ xs.length ∧ i = .int .i64 j ∧ Hid ((xs.take j).all (valB many) = true) ∧ Fr No w wr) (fun i _ => xs.length - (intOf i).toNat)
  case atStart => exact ⟨0, Nat.zero_le _, rfl, by simp [Hid], Fr.refl _ _⟩
  case round =>
    obtain ⟨j, hj, rfl, hn, hf⟩ := hrel
    by_cases hlt : j < xs.length
    · obtain ⟨b, bf, rfl, _, c0, c1⟩ := (h.keep (R' := ValC) hf (fun _ h => h.elim) (fun _ _ _ h => h)).val hlt
      have HV := fun W => s_val xs[j] many W hm
      have hy := fun h => Lib.hid (allB_step (f := valB many) hlt hn.out h)
      have hno := fun h => Lib.hid (allB_no (f := valB many) hlt h)
      clear h hn
      generalize xs[j] = x at *
      cases hx : valB many x
      all_goals
        simp only [hx] at HV
        go_wp2_with (go_at_call 56; refine (HV _).mono ?_; rintro e w1 ⟨rfl, hf1⟩)
      · go_ret
        exact .mk (by rw [hV.out, (hno hx).out]) (by exact frc)
      · go_roundw
        case rel => exact ⟨j + 1, by omega, by go_num, hy hx, by exact frc⟩
        case measure => simp [intOf]; omega
    · clear h
      have hV : V = true := by rw [hV.out]; exact allB_yes (by omega) hn.out
      clear hn
      go_wp2
      go_ret
      exact .mk hV.symm (by exact frc)

set_option maxRecDepth 100000 in
set_option maxHeartbeats 8000000 in
theorem s_heap (X Y : Nat → Prop) (p : Plan) (pv v : Value) (xs : List Obj) (w : World) (hp : lodB p = true) (h : Sl Y w 2 (KprC Y w) pv p.keepers) (hv : Sl X w 3 (ObjC X w) v xs) :
    Calls Tryz.prog 55 #[.agg #[pv], v] w (BoolFr (heapB p xs) w) := by
  obtain ⟨A, cap, rfl, _, hlen⟩ := hv.form
  obtain ⟨Ap, cp, rfl, _, _⟩ := h.form
  have hlm := Lib.hid hlen
  unfold maxLen at hlen
  obtain ⟨V, hV⟩ : ∃ V, V = heapB p xs := ⟨_, rfl⟩
  rw [← hV]
  by_cases hbig : 12 < xs.length
  · have hE : Hid (V = false) := by rw [hV]; unfold heapB; rw [decide_eq_false (by omega)]; rfl
    clear hV h hv
    go_enter Tryz.func55, Tryz.ntmps55
    go_wp2
    go_ret
    exact .mk hE.out.symm frc
  have hE : Hid (V = xs.all (objB p xs.length)) := by rw [hV]; unfold heapB; rw [decide_eq_true (by omega)]; rfl
  clear hV
  obtain ⟨wA, hwA⟩ : ∃ wA, wA = w.alloc (.cells #[.slice Ap p.keepers.length cp] 32) := ⟨_, rfl⟩
  have hfA : Fr No w wA := hwA ▸ frc
  have B0 := (hwA ▸ bxc : Bx wA w.heap.size 32 #[.slice Ap p.keepers.length cp])
  go_enter Tryz.func55, Tryz.ntmps55
  go_wp2
  rw [← hwA]
  replace hwA := Lib.hid hwA
  go_loopw [5] (fun i wr => ∃ j : Nat, j ≤ xs.length ∧ i = .int .i64 j ∧ Hid ((xs.take j).all (objB p xs.length) = true) ∧ Fr No wA wr) (fun i _ => xs.length - (intOf i).toNat)
  case atStart => exact ⟨0, Nat.zero_le _, rfl, by simp [Hid], Fr.refl _ _⟩
  case round =>
    obtain ⟨j, hj, rfl, hn', hf⟩ := hrel
    have q0 : Fr No w wr := hfA.trans0 hf
    by_cases hlt2 : j < xs.length
    · have hvr := hv.keep (R' := ObjC X wr) q0 (fun _ h => h.elim) (fun _ _ _ h => h.keep q0 (fun _ h => h.elim))
      have hkw := fun W (hW : Fr No wr W) => h.keep (R' := KprC Y W) (q0.trans0 hW) (fun _ h => h.elim) (fun _ _ _ h => h.keep (q0.trans0 hW) (fun _ h => h.elim))
      obtain ⟨b, bf, Af, cf, rfl, hXb, c0, c1, c2, z0, hvf, _, hfl⟩ := hvr.obj hlt2
      have hy := fun h => Lib.hid (allB_step (f := objB p xs.length) hlt2 hn'.out h)
      have hno := fun h => Lib.hid (allB_no (f := objB p xs.length) hlt2 h)
      have hob : objB p xs.length xs[j] = (canB p xs[j].of_ && decide (xs[j].fields.length = (layK p xs[j].of_).length) && xs[j].fields.all (valB xs.length)) := rfl
      clear hv hvr hn' h
      generalize xs[j] = o at *
      obtain ⟨⟨ok, on⟩, fs⟩ := o
      dsimp only at c0 c1 c2 z0 hvf hfl hob
      unfold maxLen at hfl
      have HC := fun W (hW : Fr No wr W) => s_lnklaid Y p _ ⟨ok, on⟩ W (hkw W hW) z0
      have hcan : canS p ⟨ok, on⟩ = canB p ⟨ok, on⟩ := by unfold canS; rw [hp]; rfl
      have hcc := fun h => canS_chain (p := p) (r := ⟨ok, on⟩) h
      rw [hcan] at HC hcc
      have HV := fun W (hW : Fr No wr W) => s_vals X _ fs xs.length W (hvf.keep (R' := ValC) hW (fun _ h => h.elim) (fun _ _ _ h => h)) hlm.out
      have hG : ∀ (m : Nat) W, (fun (_ : Nat) W => Fr No wr W) m W → Fr No wr W := fun _ _ h => h
      have hGs : ∀ W, Fr No wr W → wr.heap.size ≤ W.heap.size := fun _ h => h.size
      have K0 := (B0.keep hf).r1
      have c0 := cr c0
      have c1 := cr c1
      have c2 := cr c2
      clear hvf hcan B0
      cases hc : canB p ⟨ok, on⟩
      · have hE2 : Hid (V = false) := hE.out.trans (hno (by rw [hob, hc]; rfl)).out
        rw [hc] at HC
        replace hc := Lib.hid hc
        clear hob hy hno hcc HV hkw
        go_wp2_with fail
        refine wp_region_allL [isV (.agg #[.slice Ap p.keepers.length cp]), isV (.slice (some ⟨b, bf, none⟩) xs.length cap), isV (.int .i64 j), isV (.pointer (some ⟨b, bf + j * 3, none⟩)), isV (.pointer (some ⟨b, bf + j * 3, none⟩)), isV (.agg #[.int .i64 ok, .string on]), isV (.bool false), isV (.bool true), isV (.bool true), isV undef, isV undef, isV undef, isV undef, isV undef, isV undef, isV undef, isV undef, isV undef, isV undef, isV undef, isV undef, isV undef, isV undef, isV undef, isV (.bool true), isV (.bool true), isV undef, isV undef, isV undef, isV undef, isV undef, isV undef, isV undef, isV undef, isV undef, isV (.bool true)] [false, false, false, false, false, false, false, false, false, false, false, false, false, false, false, false, false, false, false, false, false, false, false, false, false, false, false, false, false, false, false, false, false, false, false, false] [true, true, true, true, true, true, true, true, true, false, false, false, false, false, false, false, false, false, false, false, false, false, false, false, true, true, false, false, false, false, false, false, false, false, false, true] 0 (fun _ W => Fr No wr W) (fun _ _ => False) (by kernel_rfl) (by kernel_rfl) ?_ ?_ ?_ ?_ ?_ (by decide) ?_ ?_ ?_ ?_ ?_
        · intro o ho d hd; simp only [List.mem_cons, List.not_mem_nil, or_false] at ho; rcases ho with rfl | rfl | rfl | rfl | rfl | rfl | rfl | rfl | rfl | rfl | rfl | rfl | rfl | rfl | rfl | rfl | rfl | rfl | rfl | rfl | rfl | rfl | rfl | rfl | rfl | rfl | rfl | rfl | rfl | rfl | rfl | rfl | rfl | rfl | rfl | rfl <;> (cases hd <;> simp)
        · intro x hx
          simp only [List.mem_cons, List.not_mem_nil, or_false] at hx
          rcases hx with rfl | rfl | rfl | rfl | rfl | rfl | rfl | rfl | rfl | rfl | rfl | rfl | rfl | rfl | rfl | rfl | rfl | rfl | rfl | rfl | rfl | rfl | rfl | rfl | rfl | rfl | rfl | rfl | rfl | rfl | rfl | rfl | rfl | rfl | rfl | rfl
          · exact isV_mono _
          · exact isV_mono _
          · exact isV_mono _
          · exact isV_mono _
          · exact isV_mono _
          · exact isV_mono _
          · exact isV_mono _
          · exact isV_mono _
          · exact isV_mono _
          · exact isV_mono _
          · exact isV_mono _
          · exact isV_mono _
          · exact isV_mono _
          · exact isV_mono _
          · exact isV_mono _
          · exact isV_mono _
          · exact isV_mono _
          · exact isV_mono _
          · exact isV_mono _
          · exact isV_mono _
          · exact isV_mono _
          · exact isV_mono _
          · exact isV_mono _
          · exact isV_mono _
          · exact isV_mono _
          · exact isV_mono _
          · exact isV_mono _
          · exact isV_mono _
          · exact isV_mono _
          · exact isV_mono _
          · exact isV_mono _
          · exact isV_mono _
          · exact isV_mono _
          · exact isV_mono _
          · exact isV_mono _
          · exact isV_mono _
        · intro x hx v W W' h hs
          simp only [List.mem_cons, List.not_mem_nil, or_false] at hx
          rcases hx with rfl | rfl | rfl | rfl | rfl | rfl | rfl | rfl | rfl | rfl | rfl | rfl | rfl | rfl | rfl | rfl | rfl | rfl | rfl | rfl | rfl | rfl | rfl | rfl | rfl | rfl | rfl | rfl | rfl | rfl | rfl | rfl | rfl | rfl | rfl | rfl
          · exact h
          · exact h
          · exact h
          · exact h
          · exact h
          · exact h
          · exact h
          · exact h
          · exact h
          · exact h
          · exact h
          · exact h
          · exact h
          · exact h
          · exact h
          · exact h
          · exact h
          · exact h
          · exact h
          · exact h
          · exact h
          · exact h
          · exact h
          · exact h
          · exact h
          · exact h
          · exact h
          · exact h
          · exact h
          · exact h
          · exact h
          · exact h
          · exact h
          · exact h
          · exact h
          · exact h
        · exact fun _ _ _ h hf => h.trans0 hf
        · intro k o ho
          rcases k with _ | _ | _ | _ | _ | _ | _ | _ | _ | _ | _ | _ | _ | _ | _ | _ | _ | _ | _ | _ | _ | _ | _ | _ | _ | _ | _ | _ | _ | _ | _ | _ | _ | _ | _ | _ | k
          all_goals (first | (simp at ho; done) | skip)
          all_goals simp only [List.getElem?_cons_zero, List.getElem?_cons_succ, Option.some.injEq] at ho
          all_goals subst ho
          all_goals refine ⟨fun h => ?_, fun g b h v W hv => ?_⟩
          all_goals first | rfl | (cases h; done) | (cases h; obtain rfl : v = Value.bool _ := hv; rfl)
        · intro k hk h W
          rcases k with _ | _ | _ | _ | _ | _ | _ | _ | _ | _ | _ | _ | _ | _ | _ | _ | _ | _ | _ | _ | _ | _ | _ | _ | _ | _ | _ | _ | _ | _ | _ | _ | _ | _ | _ | _ | k
          all_goals first | (exact rfl) | (cases h; done) | (simp at hk; done) | (simp at hk; omega)
        · exact (Fr.refl _ _).drew
        · intro k o ho hu hg a' W jc hjc hW0 hoff hdep
          have hW := hG jc _ hW0
          have hbs := hGs _ hW
          have H2 := hoff 2 (by simp)
          have H1 := hoff 1 (by simp)
          have H5 := hoff 5 (by simp)
          simp only [Act.eval] at H2 H1 H5
          rcases k with _ | _ | _ | _ | _ | _ | _ | _ | _ | _ | _ | _ | _ | _ | _ | _ | _ | _ | _ | _ | _ | _ | _ | _ | _ | _ | _ | _ | _ | _ | _ | _ | _ | _ | _ | _ | k
          all_goals (first | (simp at ho; done) | skip)
          all_goals (first | (exact absurd hu (by decide)) | skip)
          all_goals (first | (exact absurd hg (by decide)) | skip)
          all_goals simp only [List.getElem?_cons_zero, List.getElem?_cons_succ, Option.some.injEq] at ho
          all_goals subst ho
          · unfold opGives
            simp [execOp, Act.eval, go_sem, givesUpon, *]
            exact ⟨Fr.refl _ _, rfl⟩
          · unfold opGives
            simp [execOp, Act.eval, H1, go_sem, givesUpon]
            exact ⟨Fr.refl _ _, rfl⟩
          · unfold opGives
            simp [execOp, Act.eval, H5, go_sem, givesUpon]
            exact ⟨Fr.refl _ _, rfl⟩
          · have D16 : a'.eval (.tmp 16) = .slice (some ⟨b, bf, none⟩) xs.length cap := hdep ⟨1, .data⟩ (by simp) rfl _ 16 rfl rfl
            have D17 : a'.eval (.tmp 17) = .int .i64 j := hdep ⟨2, .data⟩ (by simp) rfl _ 17 rfl rfl
            simp only [Act.eval] at D16 D17
            unfold opGives
            simp [execOp, Act.eval, go_sem, givesUpon, *]
            exact ⟨Fr.refl _ _, rfl⟩
          · have D18 : a'.eval (.tmp 18) = .pointer (some ⟨b, bf + j * 3, none⟩) := hdep ⟨3, .data⟩ (by simp) rfl _ 18 rfl rfl
            simp only [Act.eval] at D18
            unfold opGives
            simp [execOp, Act.eval, D18, go_sem, givesUpon]
            exact ⟨Fr.refl _ _, rfl⟩
          · have D19 : a'.eval (.tmp 19) = .pointer (some ⟨b, bf + j * 3, none⟩) := hdep ⟨4, .data⟩ (by simp) rfl _ 19 rfl rfl
            simp only [Act.eval] at D19
            unfold opGives
            simp [execOp, Act.eval, go_sem, givesUpon, *]
            exact ⟨Fr.refl _ _, rfl⟩
          · have D15 : a'.eval (.tmp 15) = .agg #[.slice Ap p.keepers.length cp] := hdep ⟨0, .data⟩ (by simp) rfl _ 15 rfl rfl
            have D20 : a'.eval (.tmp 20) = .agg #[.int .i64 ok, .string on] := hdep ⟨5, .data⟩ (by simp) rfl _ 20 rfl rfl
            simp only [Act.eval] at D15 D20
            unfold opGives
            simp [Act.eval, D15, D20, go_sem, givesUpon]
            exact (HC _ hW).mono fun e w' h => ⟨_, h.1, h.2, rfl⟩
          · have D21 : a'.eval (.tmp 21) = .bool false := hdep ⟨6, .data⟩ (by simp) rfl _ 21 rfl rfl
            simp only [Act.eval] at D21
            unfold opGives
            simp [execOp, Act.eval, D21, go_sem, givesUpon]
            exact ⟨Fr.refl _ _, rfl⟩
          · have D22 : a'.eval (.tmp 22) = .bool true := hdep ⟨7, .data⟩ (by simp) rfl _ 22 rfl rfl
            simp only [Act.eval] at D22
            unfold opGives
            simp [execOp, Act.eval, D22, go_sem, givesUpon]
            exact ⟨Fr.refl _ _, rfl⟩
          · have D23 : a'.eval (.tmp 23) = .bool true := hdep ⟨8, .data⟩ (by simp) rfl _ 23 rfl rfl
            have D38 : a'.eval (.tmp 38) = undef := hdep ⟨23, .data⟩ (by simp) rfl _ 38 rfl rfl
            simp only [Act.eval] at D23 D38
            unfold opGives
            simp [execOp, Act.eval, go_sem, givesUpon, D23, D38]
            exact ⟨Fr.refl _ _, rfl⟩
          · have D39 : a'.eval (.tmp 39) = .bool true := hdep ⟨24, .data⟩ (by simp) rfl _ 39 rfl rfl
            simp only [Act.eval] at D39
            unfold opGives
            simp [execOp, Act.eval, D39, go_sem, givesUpon]
            exact ⟨Fr.refl _ _, rfl⟩
          · have D40 : a'.eval (.tmp 40) = .bool true := hdep ⟨25, .data⟩ (by simp) rfl _ 40 rfl rfl
            have D49 : a'.eval (.tmp 49) = undef := hdep ⟨34, .data⟩ (by simp) rfl _ 49 rfl rfl
            simp only [Act.eval] at D40 D49
            unfold opGives
            simp [execOp, Act.eval, go_sem, givesUpon, D40, D49]
            exact ⟨Fr.refl _ _, rfl⟩
        · intro k o ho hu a' W jc hjc hW0 hoff hdep
          have hW := hG jc _ hW0
          have hbs := hGs _ hW
          have H2 := hoff 2 (by simp)
          have H1 := hoff 1 (by simp)
          have H5 := hoff 5 (by simp)
          simp only [Act.eval] at H2 H1 H5
          rcases k with _ | _ | _ | _ | _ | _ | _ | _ | _ | _ | _ | _ | _ | _ | _ | _ | _ | _ | _ | _ | _ | _ | _ | _ | _ | _ | _ | _ | _ | _ | _ | _ | _ | _ | _ | _ | k
          all_goals (first | (simp at ho; done) | skip)
          all_goals (first | (exact absurd hu (by decide)) | skip)
          all_goals simp only [List.getElem?_cons_zero, List.getElem?_cons_succ, Option.some.injEq] at ho
          all_goals subst ho
          all_goals (first | done | (simp at ho; done))
        intro vs WR hWR hv
        have e0 : vs 0 = _ := hv 0 (by decide)
        have e1 : vs 1 = _ := hv 1 (by decide)
        have e2 : vs 2 = _ := hv 2 (by decide)
        have e3 : vs 3 = _ := hv 3 (by decide)
        have e4 : vs 4 = _ := hv 4 (by decide)
        have e5 : vs 5 = _ := hv 5 (by decide)
        have e6 : vs 6 = _ := hv 6 (by decide)
        have e7 : vs 7 = _ := hv 7 (by decide)
        have e8 : vs 8 = _ := hv 8 (by decide)
        have e9 : vs 9 = _ := hv 9 (by decide)
        have e10 : vs 10 = _ := hv 10 (by decide)
        have e11 : vs 11 = _ := hv 11 (by decide)
        have e12 : vs 12 = _ := hv 12 (by decide)
        have e13 : vs 13 = _ := hv 13 (by decide)
        have e14 : vs 14 = _ := hv 14 (by decide)
        have e15 : vs 15 = _ := hv 15 (by decide)
        have e16 : vs 16 = _ := hv 16 (by decide)
        have e17 : vs 17 = _ := hv 17 (by decide)
        have e18 : vs 18 = _ := hv 18 (by decide)
        have e19 : vs 19 = _ := hv 19 (by decide)
        have e20 : vs 20 = _ := hv 20 (by decide)
        have e21 : vs 21 = _ := hv 21 (by decide)
        have e22 : vs 22 = _ := hv 22 (by decide)
        have e23 : vs 23 = _ := hv 23 (by decide)
        have e24 : vs 24 = _ := hv 24 (by decide)
        have e25 : vs 25 = _ := hv 25 (by decide)
        have e26 : vs 26 = _ := hv 26 (by decide)
        have e27 : vs 27 = _ := hv 27 (by decide)
        have e28 : vs 28 = _ := hv 28 (by decide)
        have e29 : vs 29 = _ := hv 29 (by decide)
        have e30 : vs 30 = _ := hv 30 (by decide)
        have e31 : vs 31 = _ := hv 31 (by decide)
        have e32 : vs 32 = _ := hv 32 (by decide)
        have e33 : vs 33 = _ := hv 33 (by decide)
        have e34 : vs 34 = _ := hv 34 (by decide)
        have e35 : vs 35 = _ := hv 35 (by decide)
        simp only [putsL, if_true, Nat.zero_add, Nat.reduceAdd, e0, e1, e2, e3, e4, e5, e6, e7, e8, e9, e10, e11, e12, e13, e14, e15, e16, e17, e18, e19, e20, e21, e22, e23, e24, e25, e26, e27, e28, e29, e30, e31, e32, e33, e34, e35]
        simp only [Act.put, List.setIfInBounds_toArray, List.set_cons_zero, List.set_cons_succ]
        clear e0 e1 e2 e3 e4 e5 e6 e7 e8 e9 e10 e11 e12 e13 e14 e15 e16 e17 e18 e19 e20 e21 e22 e23 e24 e25 e26 e27 e28 e29 e30 e31 e32 e33 e34 e35 hv
        clear K0 c0 c1 c2 HC
        go_wp2
        go_ret
        exact .mk hE2.out.symm (q0.trans0 hWR)
      · obtain ⟨_, k0, i0, hh, hch⟩ := hcc hc
        obtain rfl : ok = (k0 : Int) := hh.1
        have HLy := fun W (hW : Fr No wr W) => s_layout Y p _ k0 on i0 _ W hp (hkw W hW) hh z0 hch
        unfold SLayPost at HLy
        rw [hc] at HC hob
        have hlk : layL p (chainK p ⟨k0, on⟩) = layK p ⟨k0, on⟩ := rfl
        rw [hlk] at HLy
        generalize hLL : layK p ⟨k0, on⟩ = L at *
        clear hcc hkw hh hch hlk
        by_cases hle : fs.length = L.length
        · have hob2 : objB p xs.length ⟨⟨k0, on⟩, fs⟩ = fs.all (valB xs.length) := by rw [hob, decide_eq_true hle]; simp
          replace hc := Lib.hid hc
          replace hle := Lib.hid hle
          generalize hvb : fs.all (valB xs.length) = vb at *
          clear hLL hob hvb
          go_wp2_with fail
          refine wp_region_allL [isV (.agg #[.slice Ap p.keepers.length cp]), isV (.slice (some ⟨b, bf, none⟩) xs.length cap), isV (.int .i64 j), isV (.pointer (some ⟨b, bf + j * 3, none⟩)), isV (.pointer (some ⟨b, bf + j * 3, none⟩)), isV (.agg #[.int .i64 k0, .string on]), isV (.bool true), isV (.bool false), isV (.bool false), isV (.slice (some ⟨b, bf, none⟩) xs.length cap), isV (.int .i64 j), isV (.pointer (some ⟨b, bf + j * 3, none⟩)), isV (.pointer (some ⟨b, bf + j * 3 + 2, none⟩)), isV (.slice Af fs.length cf), isV (.int .i64 fs.length), isV (.agg #[.slice Ap p.keepers.length cp]), isV (.slice (some ⟨b, bf, none⟩) xs.length cap), isV (.int .i64 j), isV (.pointer (some ⟨b, bf + j * 3, none⟩)), isV (.pointer (some ⟨b, bf + j * 3, none⟩)), isV (.agg #[.int .i64 k0, .string on]), lenV L.length, isV (.int .i64 L.length), isV (.bool false), isV (.bool false), isV (.bool false), isV (.slice (some ⟨b, bf, none⟩) xs.length cap), isV (.int .i64 j), isV (.pointer (some ⟨b, bf + j * 3, none⟩)), isV (.pointer (some ⟨b, bf + j * 3 + 2, none⟩)), isV (.slice Af fs.length cf), isV (.slice (some ⟨b, bf, none⟩) xs.length cap), isV (.int .i64 xs.length), isV (.bool vb), isV (.bool (!vb)), isV (.bool (!vb))] [false, false, false, false, false, false, false, false, false, false, false, false, false, false, false, false, false, false, false, false, false, false, false, false, false, false, false, false, false, false, false, false, false, false, false, false] [true, true, true, true, true, true, true, true, true, true, true, true, true, true, true, true, true, true, true, true, true, true, true, true, true, true, true, true, true, true, true, true, true, true, true, true] 0 (fun _ W => Fr No wr W) (fun _ _ => False) (by kernel_rfl) (by kernel_rfl) ?_ ?_ ?_ ?_ ?_ (by decide) ?_ ?_ ?_ ?_ ?_
          · intro o ho d hd; simp only [List.mem_cons, List.not_mem_nil, or_false] at ho; rcases ho with rfl | rfl | rfl | rfl | rfl | rfl | rfl | rfl | rfl | rfl | rfl | rfl | rfl | rfl | rfl | rfl | rfl | rfl | rfl | rfl | rfl | rfl | rfl | rfl | rfl | rfl | rfl | rfl | rfl | rfl | rfl | rfl | rfl | rfl | rfl | rfl <;> (cases hd <;> simp)
          · intro x hx
            simp only [List.mem_cons, List.not_mem_nil, or_false] at hx
            rcases hx with rfl | rfl | rfl | rfl | rfl | rfl | rfl | rfl | rfl | rfl | rfl | rfl | rfl | rfl | rfl | rfl | rfl | rfl | rfl | rfl | rfl | rfl | rfl | rfl | rfl | rfl | rfl | rfl | rfl | rfl | rfl | rfl | rfl | rfl | rfl | rfl
            · exact isV_mono _
            · exact isV_mono _
            · exact isV_mono _
            · exact isV_mono _
            · exact isV_mono _
            · exact isV_mono _
            · exact isV_mono _
            · exact isV_mono _
            · exact isV_mono _
            · exact isV_mono _
            · exact isV_mono _
            · exact isV_mono _
            · exact isV_mono _
            · exact isV_mono _
            · exact isV_mono _
            · exact isV_mono _
            · exact isV_mono _
            · exact isV_mono _
            · exact isV_mono _
            · exact isV_mono _
            · exact isV_mono _
            · exact lenV_mono _
            · exact isV_mono _
            · exact isV_mono _
            · exact isV_mono _
            · exact isV_mono _
            · exact isV_mono _
            · exact isV_mono _
            · exact isV_mono _
            · exact isV_mono _
            · exact isV_mono _
            · exact isV_mono _
            · exact isV_mono _
            · exact isV_mono _
            · exact isV_mono _
            · exact isV_mono _
          · intro x hx v W W' h hs
            simp only [List.mem_cons, List.not_mem_nil, or_false] at hx
            rcases hx with rfl | rfl | rfl | rfl | rfl | rfl | rfl | rfl | rfl | rfl | rfl | rfl | rfl | rfl | rfl | rfl | rfl | rfl | rfl | rfl | rfl | rfl | rfl | rfl | rfl | rfl | rfl | rfl | rfl | rfl | rfl | rfl | rfl | rfl | rfl | rfl
            · exact h
            · exact h
            · exact h
            · exact h
            · exact h
            · exact h
            · exact h
            · exact h
            · exact h
            · exact h
            · exact h
            · exact h
            · exact h
            · exact h
            · exact h
            · exact h
            · exact h
            · exact h
            · exact h
            · exact h
            · exact h
            · exact hs.elim
            · exact h
            · exact h
            · exact h
            · exact h
            · exact h
            · exact h
            · exact h
            · exact h
            · exact h
            · exact h
            · exact h
            · exact h
            · exact h
            · exact h
          · exact fun _ _ _ h hf => h.trans0 hf
          · intro k o ho
            rcases k with _ | _ | _ | _ | _ | _ | _ | _ | _ | _ | _ | _ | _ | _ | _ | _ | _ | _ | _ | _ | _ | _ | _ | _ | _ | _ | _ | _ | _ | _ | _ | _ | _ | _ | _ | _ | k
            all_goals (first | (simp at ho; done) | skip)
            all_goals simp only [List.getElem?_cons_zero, List.getElem?_cons_succ, Option.some.injEq] at ho
            all_goals subst ho
            all_goals refine ⟨fun h => ?_, fun g b h v W hv => ?_⟩
            all_goals first | rfl | (cases h; done) | (cases h; obtain rfl : v = Value.bool _ := hv; rfl)
          · intro k hk h W; exfalso; revert h; revert hk; revert k; decide
          · exact (Fr.refl _ _).drew
          · intro k o ho hu hg a' W jc hjc hW0 hoff hdep
            have hW := hG jc _ hW0
            have hbs := hGs _ hW
            have H2 := hoff 2 (by simp)
            have H1 := hoff 1 (by simp)
            have H5 := hoff 5 (by simp)
            simp only [Act.eval] at H2 H1 H5
            rcases k with _ | _ | _ | _ | _ | _ | _ | _ | _ | _ | _ | _ | _ | _ | _ | _ | _ | _ | _ | _ | _ | _ | _ | _ | _ | _ | _ | _ | _ | _ | _ | _ | _ | _ | _ | _ | k
            all_goals (first | (simp at ho; done) | skip)
            all_goals (first | (exact absurd hu (by decide)) | skip)
            all_goals (first | (exact absurd hg (by decide)) | skip)
            all_goals simp only [List.getElem?_cons_zero, List.getElem?_cons_succ, Option.some.injEq] at ho
            all_goals subst ho
            · unfold opGives
              simp [execOp, Act.eval, go_sem, givesUpon, *]
              exact ⟨Fr.refl _ _, rfl⟩
            · unfold opGives
              simp [execOp, Act.eval, H1, go_sem, givesUpon]
              exact ⟨Fr.refl _ _, rfl⟩
            · unfold opGives
              simp [execOp, Act.eval, H5, go_sem, givesUpon]
              exact ⟨Fr.refl _ _, rfl⟩
            · have D16 : a'.eval (.tmp 16) = .slice (some ⟨b, bf, none⟩) xs.length cap := hdep ⟨1, .data⟩ (by simp) rfl _ 16 rfl rfl
              have D17 : a'.eval (.tmp 17) = .int .i64 j := hdep ⟨2, .data⟩ (by simp) rfl _ 17 rfl rfl
              simp only [Act.eval] at D16 D17
              unfold opGives
              simp [execOp, Act.eval, go_sem, givesUpon, *]
              exact ⟨Fr.refl _ _, rfl⟩
            · have D18 : a'.eval (.tmp 18) = .pointer (some ⟨b, bf + j * 3, none⟩) := hdep ⟨3, .data⟩ (by simp) rfl _ 18 rfl rfl
              simp only [Act.eval] at D18
              unfold opGives
              simp [execOp, Act.eval, D18, go_sem, givesUpon]
              exact ⟨Fr.refl _ _, rfl⟩
            · have D19 : a'.eval (.tmp 19) = .pointer (some ⟨b, bf + j * 3, none⟩) := hdep ⟨4, .data⟩ (by simp) rfl _ 19 rfl rfl
              simp only [Act.eval] at D19
              unfold opGives
              simp [execOp, Act.eval, go_sem, givesUpon, *]
              exact ⟨Fr.refl _ _, rfl⟩
            · have D15 : a'.eval (.tmp 15) = .agg #[.slice Ap p.keepers.length cp] := hdep ⟨0, .data⟩ (by simp) rfl _ 15 rfl rfl
              have D20 : a'.eval (.tmp 20) = .agg #[.int .i64 k0, .string on] := hdep ⟨5, .data⟩ (by simp) rfl _ 20 rfl rfl
              simp only [Act.eval] at D15 D20
              unfold opGives
              simp [Act.eval, D15, D20, go_sem, givesUpon]
              exact (HC _ hW).mono fun e w' h => ⟨_, h.1, h.2, rfl⟩
            · have D21 : a'.eval (.tmp 21) = .bool true := hdep ⟨6, .data⟩ (by simp) rfl _ 21 rfl rfl
              simp only [Act.eval] at D21
              unfold opGives
              simp [execOp, Act.eval, D21, go_sem, givesUpon]
              exact ⟨Fr.refl _ _, rfl⟩
            · have D22 : a'.eval (.tmp 22) = .bool false := hdep ⟨7, .data⟩ (by simp) rfl _ 22 rfl rfl
              simp only [Act.eval] at D22
              unfold opGives
              simp [execOp, Act.eval, D22, go_sem, givesUpon]
              exact ⟨Fr.refl _ _, rfl⟩
            · unfold opGives
              simp [execOp, Act.eval, H1, go_sem, givesUpon]
              exact ⟨Fr.refl _ _, rfl⟩
            · unfold opGives
              simp [execOp, Act.eval, H5, go_sem, givesUpon]
              exact ⟨Fr.refl _ _, rfl⟩
            · have D24 : a'.eval (.tmp 24) = .slice (some ⟨b, bf, none⟩) xs.length cap := hdep ⟨9, .data⟩ (by simp) rfl _ 24 rfl rfl
              have D25 : a'.eval (.tmp 25) = .int .i64 j := hdep ⟨10, .data⟩ (by simp) rfl _ 25 rfl rfl
              simp only [Act.eval] at D24 D25
              unfold opGives
              simp [execOp, Act.eval, go_sem, givesUpon, *]
              exact ⟨Fr.refl _ _, rfl⟩
            · have D26 : a'.eval (.tmp 26) = .pointer (some ⟨b, bf + j * 3, none⟩) := hdep ⟨11, .data⟩ (by simp) rfl _ 26 rfl rfl
              simp only [Act.eval] at D26
              unfold opGives
              simp [execOp, Act.eval, D26, go_sem, givesUpon]
              exact ⟨Fr.refl _ _, rfl⟩
            · have D27 : a'.eval (.tmp 27) = .pointer (some ⟨b, bf + j * 3 + 2, none⟩) := hdep ⟨12, .data⟩ (by simp) rfl _ 27 rfl rfl
              simp only [Act.eval] at D27
              unfold opGives
              simp [execOp, Act.eval, go_sem, givesUpon, *]
              exact ⟨Fr.refl _ _, rfl⟩
            · have D28 : a'.eval (.tmp 28) = .slice Af fs.length cf := hdep ⟨13, .data⟩ (by simp) rfl _ 28 rfl rfl
              simp only [Act.eval] at D28
              unfold opGives
              simp [Act.eval, D28, go_sem, givesUpon]
              exact ⟨Fr.refl _ _, rfl⟩
            · unfold opGives
              simp [execOp, Act.eval, go_sem, givesUpon, *]
              exact ⟨Fr.refl _ _, rfl⟩
            · unfold opGives
              simp [execOp, Act.eval, H1, go_sem, givesUpon]
              exact ⟨Fr.refl _ _, rfl⟩
            · unfold opGives
              simp [execOp, Act.eval, H5, go_sem, givesUpon]
              exact ⟨Fr.refl _ _, rfl⟩
            · have D31 : a'.eval (.tmp 31) = .slice (some ⟨b, bf, none⟩) xs.length cap := hdep ⟨16, .data⟩ (by simp) rfl _ 31 rfl rfl
              have D32 : a'.eval (.tmp 32) = .int .i64 j := hdep ⟨17, .data⟩ (by simp) rfl _ 32 rfl rfl
              simp only [Act.eval] at D31 D32
              unfold opGives
              simp [execOp, Act.eval, go_sem, givesUpon, *]
              exact ⟨Fr.refl _ _, rfl⟩
            · have D33 : a'.eval (.tmp 33) = .pointer (some ⟨b, bf + j * 3, none⟩) := hdep ⟨18, .data⟩ (by simp) rfl _ 33 rfl rfl
              simp only [Act.eval] at D33
              unfold opGives
              simp [execOp, Act.eval, D33, go_sem, givesUpon]
              exact ⟨Fr.refl _ _, rfl⟩
            · have D34 : a'.eval (.tmp 34) = .pointer (some ⟨b, bf + j * 3, none⟩) := hdep ⟨19, .data⟩ (by simp) rfl _ 34 rfl rfl
              simp only [Act.eval] at D34
              unfold opGives
              simp [execOp, Act.eval, go_sem, givesUpon, *]
              exact ⟨Fr.refl _ _, rfl⟩
            · have D30 : a'.eval (.tmp 30) = .agg #[.slice Ap p.keepers.length cp] := hdep ⟨15, .data⟩ (by simp) rfl _ 30 rfl rfl
              have D35 : a'.eval (.tmp 35) = .agg #[.int .i64 k0, .string on] := hdep ⟨20, .data⟩ (by simp) rfl _ 35 rfl rfl
              simp only [Act.eval] at D30 D35
              unfold opGives
              simp [Act.eval, D30, D35, go_sem, givesUpon]
              exact (HLy _ hW).mono fun e w' ⟨v, h1, h2, h3⟩ => ⟨_, h1, h3, let ⟨A, c, h4, _⟩ := h2.form; ⟨A, c, h4⟩⟩
            · obtain ⟨Ay, cy, D36⟩ : (lenV L.length) (a'.eval (.tmp 36)) W := hdep ⟨21, .data⟩ (by simp) rfl _ 36 rfl rfl
              simp only [Act.eval] at D36
              unfold opGives
              simp [Act.eval, D36, go_sem, givesUpon]
              exact ⟨Fr.refl _ _, rfl⟩
            · have D29 : a'.eval (.tmp 29) = .int .i64 fs.length := hdep ⟨14, .data⟩ (by simp) rfl _ 29 rfl rfl
              have D37 : a'.eval (.tmp 37) = .int .i64 L.length := hdep ⟨22, .data⟩ (by simp) rfl _ 37 rfl rfl
              simp only [Act.eval] at D29 D37
              unfold opGives
              simp [execOp, Act.eval, D29, D37, go_sem, givesUpon]
              exact ⟨Fr.refl _ _, by unfold isV; have := hle.out; first | (simp [this]; done) | (simp; omega)⟩
            · have D23 : a'.eval (.tmp 23) = .bool false := hdep ⟨8, .data⟩ (by simp) rfl _ 23 rfl rfl
              have D38 : a'.eval (.tmp 38) = .bool false := hdep ⟨23, .data⟩ (by simp) rfl _ 38 rfl rfl
              simp only [Act.eval] at D23 D38
              unfold opGives
              simp [execOp, Act.eval, go_sem, givesUpon, D23, D38]
              exact ⟨Fr.refl _ _, rfl⟩
            · have D39 : a'.eval (.tmp 39) = .bool false := hdep ⟨24, .data⟩ (by simp) rfl _ 39 rfl rfl
              simp only [Act.eval] at D39
              unfold opGives
              simp [execOp, Act.eval, D39, go_sem, givesUpon]
              exact ⟨Fr.refl _ _, rfl⟩
            · unfold opGives
              simp [execOp, Act.eval, H1, go_sem, givesUpon]
              exact ⟨Fr.refl _ _, rfl⟩
            · unfold opGives
              simp [execOp, Act.eval, H5, go_sem, givesUpon]
              exact ⟨Fr.refl _ _, rfl⟩
            · have D41 : a'.eval (.tmp 41) = .slice (some ⟨b, bf, none⟩) xs.length cap := hdep ⟨26, .data⟩ (by simp) rfl _ 41 rfl rfl
              have D42 : a'.eval (.tmp 42) = .int .i64 j := hdep ⟨27, .data⟩ (by simp) rfl _ 42 rfl rfl
              simp only [Act.eval] at D41 D42
              unfold opGives
              simp [execOp, Act.eval, go_sem, givesUpon, *]
              exact ⟨Fr.refl _ _, rfl⟩
            · have D43 : a'.eval (.tmp 43) = .pointer (some ⟨b, bf + j * 3, none⟩) := hdep ⟨28, .data⟩ (by simp) rfl _ 43 rfl rfl
              simp only [Act.eval] at D43
              unfold opGives
              simp [execOp, Act.eval, D43, go_sem, givesUpon]
              exact ⟨Fr.refl _ _, rfl⟩
            · have D44 : a'.eval (.tmp 44) = .pointer (some ⟨b, bf + j * 3 + 2, none⟩) := hdep ⟨29, .data⟩ (by simp) rfl _ 44 rfl rfl
              simp only [Act.eval] at D44
              unfold opGives
              simp [execOp, Act.eval, go_sem, givesUpon, *]
              exact ⟨Fr.refl _ _, rfl⟩
            · unfold opGives
              simp [execOp, Act.eval, H1, go_sem, givesUpon]
              exact ⟨Fr.refl _ _, rfl⟩
            · have D46 : a'.eval (.tmp 46) = .slice (some ⟨b, bf, none⟩) xs.length cap := hdep ⟨31, .data⟩ (by simp) rfl _ 46 rfl rfl
              simp only [Act.eval] at D46
              unfold opGives
              simp [Act.eval, D46, go_sem, givesUpon]
              exact ⟨Fr.refl _ _, rfl⟩
            · have D45 : a'.eval (.tmp 45) = .slice Af fs.length cf := hdep ⟨30, .data⟩ (by simp) rfl _ 45 rfl rfl
              have D47 : a'.eval (.tmp 47) = .int .i64 xs.length := hdep ⟨32, .data⟩ (by simp) rfl _ 47 rfl rfl
              simp only [Act.eval] at D45 D47
              unfold opGives
              simp [Act.eval, D45, D47, go_sem, givesUpon]
              exact (HV _ hW).mono fun e w' h => ⟨_, h.1, h.2, rfl⟩
            · have D48 : a'.eval (.tmp 48) = .bool vb := hdep ⟨33, .data⟩ (by simp) rfl _ 48 rfl rfl
              simp only [Act.eval] at D48
              unfold opGives
              simp [execOp, Act.eval, D48, go_sem, givesUpon]
              exact ⟨Fr.refl _ _, rfl⟩
            · have D40 : a'.eval (.tmp 40) = .bool false := hdep ⟨25, .data⟩ (by simp) rfl _ 40 rfl rfl
              have D49 : a'.eval (.tmp 49) = .bool (!vb) := hdep ⟨34, .data⟩ (by simp) rfl _ 49 rfl rfl
              simp only [Act.eval] at D40 D49
              unfold opGives
              simp [execOp, Act.eval, go_sem, givesUpon, D40, D49]
              exact ⟨Fr.refl _ _, rfl⟩
          · intro k o ho hu a' W jc hjc hW0 hoff hdep
            have hW := hG jc _ hW0
            have hbs := hGs _ hW
            have H2 := hoff 2 (by simp)
            have H1 := hoff 1 (by simp)
            have H5 := hoff 5 (by simp)
            simp only [Act.eval] at H2 H1 H5
            rcases k with _ | _ | _ | _ | _ | _ | _ | _ | _ | _ | _ | _ | _ | _ | _ | _ | _ | _ | _ | _ | _ | _ | _ | _ | _ | _ | _ | _ | _ | _ | _ | _ | _ | _ | _ | _ | k
            all_goals (first | (simp at ho; done) | skip)
            all_goals (first | (exact absurd hu (by decide)) | skip)
            all_goals simp only [List.getElem?_cons_zero, List.getElem?_cons_succ, Option.some.injEq] at ho
            all_goals subst ho
            all_goals (first | done | (simp at ho; done))
          intro vs WR hWR hv
          have e0 : vs 0 = _ := hv 0 (by decide)
          have e1 : vs 1 = _ := hv 1 (by decide)
          have e2 : vs 2 = _ := hv 2 (by decide)
          have e3 : vs 3 = _ := hv 3 (by decide)
          have e4 : vs 4 = _ := hv 4 (by decide)
          have e5 : vs 5 = _ := hv 5 (by decide)
          have e6 : vs 6 = _ := hv 6 (by decide)
          have e7 : vs 7 = _ := hv 7 (by decide)
          have e8 : vs 8 = _ := hv 8 (by decide)
          have e9 : vs 9 = _ := hv 9 (by decide)
          have e10 : vs 10 = _ := hv 10 (by decide)
          have e11 : vs 11 = _ := hv 11 (by decide)
          have e12 : vs 12 = _ := hv 12 (by decide)
          have e13 : vs 13 = _ := hv 13 (by decide)
          have e14 : vs 14 = _ := hv 14 (by decide)
          have e15 : vs 15 = _ := hv 15 (by decide)
          have e16 : vs 16 = _ := hv 16 (by decide)
          have e17 : vs 17 = _ := hv 17 (by decide)
          have e18 : vs 18 = _ := hv 18 (by decide)
          have e19 : vs 19 = _ := hv 19 (by decide)
          have e20 : vs 20 = _ := hv 20 (by decide)
          obtain ⟨AyR21, cyR21, e21⟩ := hv 21 (by decide)
          have e22 : vs 22 = _ := hv 22 (by decide)
          have e23 : vs 23 = _ := hv 23 (by decide)
          have e24 : vs 24 = _ := hv 24 (by decide)
          have e25 : vs 25 = _ := hv 25 (by decide)
          have e26 : vs 26 = _ := hv 26 (by decide)
          have e27 : vs 27 = _ := hv 27 (by decide)
          have e28 : vs 28 = _ := hv 28 (by decide)
          have e29 : vs 29 = _ := hv 29 (by decide)
          have e30 : vs 30 = _ := hv 30 (by decide)
          have e31 : vs 31 = _ := hv 31 (by decide)
          have e32 : vs 32 = _ := hv 32 (by decide)
          have e33 : vs 33 = _ := hv 33 (by decide)
          have e34 : vs 34 = _ := hv 34 (by decide)
          have e35 : vs 35 = _ := hv 35 (by decide)
          simp only [putsL, if_true, Nat.zero_add, Nat.reduceAdd, e0, e1, e2, e3, e4, e5, e6, e7, e8, e9, e10, e11, e12, e13, e14, e15, e16, e17, e18, e19, e20, e21, e22, e23, e24, e25, e26, e27, e28, e29, e30, e31, e32, e33, e34, e35]
          simp only [Act.put, List.setIfInBounds_toArray, List.set_cons_zero, List.set_cons_succ]
          clear e0 e1 e2 e3 e4 e5 e6 e7 e8 e9 e10 e11 e12 e13 e14 e15 e16 e17 e18 e19 e20 e21 e22 e23 e24 e25 e26 e27 e28 e29 e30 e31 e32 e33 e34 e35 hv
          clear K0 c0 c1 c2 HC HV HLy
          cases vb
          · have hE2 : Hid (V = false) := hE.out.trans (hno hob2).out
            clear hno hob2 hy
            go_wp2
            go_ret
            exact .mk hE2.out.symm (q0.trans0 hWR)
          · have hy2 := hy hob2
            clear hno hob2 hy
            go_wp2
            go_roundw
            case rel => exact ⟨j + 1, by omega, by go_num, hy2, hf.trans0 hWR⟩
            case measure => simp [intOf]; omega
        · have hE2 : Hid (V = false) := hE.out.trans (hno (by rw [hob, decide_eq_false hle]; rfl)).out
          replace hc := Lib.hid hc
          replace hle := Lib.hid hle
          clear hLL hob hy hno HV
          go_wp2_with fail
          refine wp_region_allL [isV (.agg #[.slice Ap p.keepers.length cp]), isV (.slice (some ⟨b, bf, none⟩) xs.length cap), isV (.int .i64 j), isV (.pointer (some ⟨b, bf + j * 3, none⟩)), isV (.pointer (some ⟨b, bf + j * 3, none⟩)), isV (.agg #[.int .i64 k0, .string on]), isV (.bool true), isV (.bool false), isV (.bool false), isV (.slice (some ⟨b, bf, none⟩) xs.length cap), isV (.int .i64 j), isV (.pointer (some ⟨b, bf + j * 3, none⟩)), isV (.pointer (some ⟨b, bf + j * 3 + 2, none⟩)), isV (.slice Af fs.length cf), isV (.int .i64 fs.length), isV (.agg #[.slice Ap p.keepers.length cp]), isV (.slice (some ⟨b, bf, none⟩) xs.length cap), isV (.int .i64 j), isV (.pointer (some ⟨b, bf + j * 3, none⟩)), isV (.pointer (some ⟨b, bf + j * 3, none⟩)), isV (.agg #[.int .i64 k0, .string on]), lenV L.length, isV (.int .i64 L.length), isV (.bool true), isV (.bool true), isV (.bool true), isV undef, isV undef, isV undef, isV undef, isV undef, isV undef, isV undef, isV undef, isV undef, isV (.bool true)] [false, false, false, false, false, false, false, false, false, false, false, false, false, false, false, false, false, false, false, false, false, false, false, false, false, false, false, false, false, false, false, false, false, false, false, false] [true, true, true, true, true, true, true, true, true, true, true, true, true, true, true, true, true, true, true, true, true, true, true, true, true, true, false, false, false, false, false, false, false, false, false, true] 0 (fun _ W => Fr No wr W) (fun _ _ => False) (by kernel_rfl) (by kernel_rfl) ?_ ?_ ?_ ?_ ?_ (by decide) ?_ ?_ ?_ ?_ ?_
          · intro o ho d hd; simp only [List.mem_cons, List.not_mem_nil, or_false] at ho; rcases ho with rfl | rfl | rfl | rfl | rfl | rfl | rfl | rfl | rfl | rfl | rfl | rfl | rfl | rfl | rfl | rfl | rfl | rfl | rfl | rfl | rfl | rfl | rfl | rfl | rfl | rfl | rfl | rfl | rfl | rfl | rfl | rfl | rfl | rfl | rfl | rfl <;> (cases hd <;> simp)
          · intro x hx
            simp only [List.mem_cons, List.not_mem_nil, or_false] at hx
            rcases hx with rfl | rfl | rfl | rfl | rfl | rfl | rfl | rfl | rfl | rfl | rfl | rfl | rfl | rfl | rfl | rfl | rfl | rfl | rfl | rfl | rfl | rfl | rfl | rfl | rfl | rfl | rfl | rfl | rfl | rfl | rfl | rfl | rfl | rfl | rfl | rfl
            · exact isV_mono _
            · exact isV_mono _
            · exact isV_mono _
            · exact isV_mono _
            · exact isV_mono _
            · exact isV_mono _
            · exact isV_mono _
            · exact isV_mono _
            · exact isV_mono _
            · exact isV_mono _
            · exact isV_mono _
            · exact isV_mono _
            · exact isV_mono _
            · exact isV_mono _
            · exact isV_mono _
            · exact isV_mono _
            · exact isV_mono _
            · exact isV_mono _
            · exact isV_mono _
            · exact isV_mono _
            · exact isV_mono _
            · exact lenV_mono _
            · exact isV_mono _
            · exact isV_mono _
            · exact isV_mono _
            · exact isV_mono _
            · exact isV_mono _
            · exact isV_mono _
            · exact isV_mono _
            · exact isV_mono _
            · exact isV_mono _
            · exact isV_mono _
            · exact isV_mono _
            · exact isV_mono _
            · exact isV_mono _
            · exact isV_mono _
          · intro x hx v W W' h hs
            simp only [List.mem_cons, List.not_mem_nil, or_false] at hx
            rcases hx with rfl | rfl | rfl | rfl | rfl | rfl | rfl | rfl | rfl | rfl | rfl | rfl | rfl | rfl | rfl | rfl | rfl | rfl | rfl | rfl | rfl | rfl | rfl | rfl | rfl | rfl | rfl | rfl | rfl | rfl | rfl | rfl | rfl | rfl | rfl | rfl
            · exact h
            · exact h
            · exact h
            · exact h
            · exact h
            · exact h
            · exact h
            · exact h
            · exact h
            · exact h
            · exact h
            · exact h
            · exact h
            · exact h
            · exact h
            · exact h
            · exact h
            · exact h
            · exact h
            · exact h
            · exact h
            · exact hs.elim
            · exact h
            · exact h
            · exact h
            · exact h
            · exact h
            · exact h
            · exact h
            · exact h
            · exact h
            · exact h
            · exact h
            · exact h
            · exact h
            · exact h
          · exact fun _ _ _ h hf => h.trans0 hf
          · intro k o ho
            rcases k with _ | _ | _ | _ | _ | _ | _ | _ | _ | _ | _ | _ | _ | _ | _ | _ | _ | _ | _ | _ | _ | _ | _ | _ | _ | _ | _ | _ | _ | _ | _ | _ | _ | _ | _ | _ | k
            all_goals (first | (simp at ho; done) | skip)
            all_goals simp only [List.getElem?_cons_zero, List.getElem?_cons_succ, Option.some.injEq] at ho
            all_goals subst ho
            all_goals refine ⟨fun h => ?_, fun g b h v W hv => ?_⟩
            all_goals first | rfl | (cases h; done) | (cases h; obtain rfl : v = Value.bool _ := hv; rfl)
          · intro k hk h W
            rcases k with _ | _ | _ | _ | _ | _ | _ | _ | _ | _ | _ | _ | _ | _ | _ | _ | _ | _ | _ | _ | _ | _ | _ | _ | _ | _ | _ | _ | _ | _ | _ | _ | _ | _ | _ | _ | k
            all_goals first | (exact rfl) | (cases h; done) | (simp at hk; done) | (simp at hk; omega)
          · exact (Fr.refl _ _).drew
          · intro k o ho hu hg a' W jc hjc hW0 hoff hdep
            have hW := hG jc _ hW0
            have hbs := hGs _ hW
            have H2 := hoff 2 (by simp)
            have H1 := hoff 1 (by simp)
            have H5 := hoff 5 (by simp)
            simp only [Act.eval] at H2 H1 H5
            rcases k with _ | _ | _ | _ | _ | _ | _ | _ | _ | _ | _ | _ | _ | _ | _ | _ | _ | _ | _ | _ | _ | _ | _ | _ | _ | _ | _ | _ | _ | _ | _ | _ | _ | _ | _ | _ | k
            all_goals (first | (simp at ho; done) | skip)
            all_goals (first | (exact absurd hu (by decide)) | skip)
            all_goals (first | (exact absurd hg (by decide)) | skip)
            all_goals simp only [List.getElem?_cons_zero, List.getElem?_cons_succ, Option.some.injEq] at ho
            all_goals subst ho
            · unfold opGives
              simp [execOp, Act.eval, go_sem, givesUpon, *]
              exact ⟨Fr.refl _ _, rfl⟩
            · unfold opGives
              simp [execOp, Act.eval, H1, go_sem, givesUpon]
              exact ⟨Fr.refl _ _, rfl⟩
            · unfold opGives
              simp [execOp, Act.eval, H5, go_sem, givesUpon]
              exact ⟨Fr.refl _ _, rfl⟩
            · have D16 : a'.eval (.tmp 16) = .slice (some ⟨b, bf, none⟩) xs.length cap := hdep ⟨1, .data⟩ (by simp) rfl _ 16 rfl rfl
              have D17 : a'.eval (.tmp 17) = .int .i64 j := hdep ⟨2, .data⟩ (by simp) rfl _ 17 rfl rfl
              simp only [Act.eval] at D16 D17
              unfold opGives
              simp [execOp, Act.eval, go_sem, givesUpon, *]
              exact ⟨Fr.refl _ _, rfl⟩
            · have D18 : a'.eval (.tmp 18) = .pointer (some ⟨b, bf + j * 3, none⟩) := hdep ⟨3, .data⟩ (by simp) rfl _ 18 rfl rfl
              simp only [Act.eval] at D18
              unfold opGives
              simp [execOp, Act.eval, D18, go_sem, givesUpon]
              exact ⟨Fr.refl _ _, rfl⟩
            · have D19 : a'.eval (.tmp 19) = .pointer (some ⟨b, bf + j * 3, none⟩) := hdep ⟨4, .data⟩ (by simp) rfl _ 19 rfl rfl
              simp only [Act.eval] at D19
              unfold opGives
              simp [execOp, Act.eval, go_sem, givesUpon, *]
              exact ⟨Fr.refl _ _, rfl⟩
            · have D15 : a'.eval (.tmp 15) = .agg #[.slice Ap p.keepers.length cp] := hdep ⟨0, .data⟩ (by simp) rfl _ 15 rfl rfl
              have D20 : a'.eval (.tmp 20) = .agg #[.int .i64 k0, .string on] := hdep ⟨5, .data⟩ (by simp) rfl _ 20 rfl rfl
              simp only [Act.eval] at D15 D20
              unfold opGives
              simp [Act.eval, D15, D20, go_sem, givesUpon]
              exact (HC _ hW).mono fun e w' h => ⟨_, h.1, h.2, rfl⟩
            · have D21 : a'.eval (.tmp 21) = .bool true := hdep ⟨6, .data⟩ (by simp) rfl _ 21 rfl rfl
              simp only [Act.eval] at D21
              unfold opGives
              simp [execOp, Act.eval, D21, go_sem, givesUpon]
              exact ⟨Fr.refl _ _, rfl⟩
            · have D22 : a'.eval (.tmp 22) = .bool false := hdep ⟨7, .data⟩ (by simp) rfl _ 22 rfl rfl
              simp only [Act.eval] at D22
              unfold opGives
              simp [execOp, Act.eval, D22, go_sem, givesUpon]
              exact ⟨Fr.refl _ _, rfl⟩
            · unfold opGives
              simp [execOp, Act.eval, H1, go_sem, givesUpon]
              exact ⟨Fr.refl _ _, rfl⟩
            · unfold opGives
              simp [execOp, Act.eval, H5, go_sem, givesUpon]
              exact ⟨Fr.refl _ _, rfl⟩
            · have D24 : a'.eval (.tmp 24) = .slice (some ⟨b, bf, none⟩) xs.length cap := hdep ⟨9, .data⟩ (by simp) rfl _ 24 rfl rfl
              have D25 : a'.eval (.tmp 25) = .int .i64 j := hdep ⟨10, .data⟩ (by simp) rfl _ 25 rfl rfl
              simp only [Act.eval] at D24 D25
              unfold opGives
              simp [execOp, Act.eval, go_sem, givesUpon, *]
              exact ⟨Fr.refl _ _, rfl⟩
            · have D26 : a'.eval (.tmp 26) = .pointer (some ⟨b, bf + j * 3, none⟩) := hdep ⟨11, .data⟩ (by simp) rfl _ 26 rfl rfl
              simp only [Act.eval] at D26
              unfold opGives
              simp [execOp, Act.eval, D26, go_sem, givesUpon]
              exact ⟨Fr.refl _ _, rfl⟩
            · have D27 : a'.eval (.tmp 27) = .pointer (some ⟨b, bf + j * 3 + 2, none⟩) := hdep ⟨12, .data⟩ (by simp) rfl _ 27 rfl rfl
              simp only [Act.eval] at D27
              unfold opGives
              simp [execOp, Act.eval, go_sem, givesUpon, *]
              exact ⟨Fr.refl _ _, rfl⟩
            · have D28 : a'.eval (.tmp 28) = .slice Af fs.length cf := hdep ⟨13, .data⟩ (by simp) rfl _ 28 rfl rfl
              simp only [Act.eval] at D28
              unfold opGives
              simp [Act.eval, D28, go_sem, givesUpon]
              exact ⟨Fr.refl _ _, rfl⟩
            · unfold opGives
              simp [execOp, Act.eval, go_sem, givesUpon, *]
              exact ⟨Fr.refl _ _, rfl⟩
            · unfold opGives
              simp [execOp, Act.eval, H1, go_sem, givesUpon]
              exact ⟨Fr.refl _ _, rfl⟩
            · unfold opGives
              simp [execOp, Act.eval, H5, go_sem, givesUpon]
              exact ⟨Fr.refl _ _, rfl⟩
            · have D31 : a'.eval (.tmp 31) = .slice (some ⟨b, bf, none⟩) xs.length cap := hdep ⟨16, .data⟩ (by simp) rfl _ 31 rfl rfl
              have D32 : a'.eval (.tmp 32) = .int .i64 j := hdep ⟨17, .data⟩ (by simp) rfl _ 32 rfl rfl
              simp only [Act.eval] at D31 D32
              unfold opGives
              simp [execOp, Act.eval, go_sem, givesUpon, *]
              exact ⟨Fr.refl _ _, rfl⟩
            · have D33 : a'.eval (.tmp 33) = .pointer (some ⟨b, bf + j * 3, none⟩) := hdep ⟨18, .data⟩ (by simp) rfl _ 33 rfl rfl
              simp only [Act.eval] at D33
              unfold opGives
              simp [execOp, Act.eval, D33, go_sem, givesUpon]
              exact ⟨Fr.refl _ _, rfl⟩
            · have D34 : a'.eval (.tmp 34) = .pointer (some ⟨b, bf + j * 3, none⟩) := hdep ⟨19, .data⟩ (by simp) rfl _ 34 rfl rfl
              simp only [Act.eval] at D34
              unfold opGives
              simp [execOp, Act.eval, go_sem, givesUpon, *]
              exact ⟨Fr.refl _ _, rfl⟩
            · have D30 : a'.eval (.tmp 30) = .agg #[.slice Ap p.keepers.length cp] := hdep ⟨15, .data⟩ (by simp) rfl _ 30 rfl rfl
              have D35 : a'.eval (.tmp 35) = .agg #[.int .i64 k0, .string on] := hdep ⟨20, .data⟩ (by simp) rfl _ 35 rfl rfl
              simp only [Act.eval] at D30 D35
              unfold opGives
              simp [Act.eval, D30, D35, go_sem, givesUpon]
              exact (HLy _ hW).mono fun e w' ⟨v, h1, h2, h3⟩ => ⟨_, h1, h3, let ⟨A, c, h4, _⟩ := h2.form; ⟨A, c, h4⟩⟩
            · obtain ⟨Ay, cy, D36⟩ : (lenV L.length) (a'.eval (.tmp 36)) W := hdep ⟨21, .data⟩ (by simp) rfl _ 36 rfl rfl
              simp only [Act.eval] at D36
              unfold opGives
              simp [Act.eval, D36, go_sem, givesUpon]
              exact ⟨Fr.refl _ _, rfl⟩
            · have D29 : a'.eval (.tmp 29) = .int .i64 fs.length := hdep ⟨14, .data⟩ (by simp) rfl _ 29 rfl rfl
              have D37 : a'.eval (.tmp 37) = .int .i64 L.length := hdep ⟨22, .data⟩ (by simp) rfl _ 37 rfl rfl
              simp only [Act.eval] at D29 D37
              unfold opGives
              simp [execOp, Act.eval, D29, D37, go_sem, givesUpon]
              exact ⟨Fr.refl _ _, by unfold isV; have := hle.out; simp; omega⟩
            · have D23 : a'.eval (.tmp 23) = .bool false := hdep ⟨8, .data⟩ (by simp) rfl _ 23 rfl rfl
              have D38 : a'.eval (.tmp 38) = .bool true := hdep ⟨23, .data⟩ (by simp) rfl _ 38 rfl rfl
              simp only [Act.eval] at D23 D38
              unfold opGives
              simp [execOp, Act.eval, go_sem, givesUpon, D23, D38]
              exact ⟨Fr.refl _ _, rfl⟩
            · have D39 : a'.eval (.tmp 39) = .bool true := hdep ⟨24, .data⟩ (by simp) rfl _ 39 rfl rfl
              simp only [Act.eval] at D39
              unfold opGives
              simp [execOp, Act.eval, D39, go_sem, givesUpon]
              exact ⟨Fr.refl _ _, rfl⟩
            · have D40 : a'.eval (.tmp 40) = .bool true := hdep ⟨25, .data⟩ (by simp) rfl _ 40 rfl rfl
              have D49 : a'.eval (.tmp 49) = undef := hdep ⟨34, .data⟩ (by simp) rfl _ 49 rfl rfl
              simp only [Act.eval] at D40 D49
              unfold opGives
              simp [execOp, Act.eval, go_sem, givesUpon, D40, D49]
              exact ⟨Fr.refl _ _, rfl⟩
          · intro k o ho hu a' W jc hjc hW0 hoff hdep
            have hW := hG jc _ hW0
            have hbs := hGs _ hW
            have H2 := hoff 2 (by simp)
            have H1 := hoff 1 (by simp)
            have H5 := hoff 5 (by simp)
            simp only [Act.eval] at H2 H1 H5
            rcases k with _ | _ | _ | _ | _ | _ | _ | _ | _ | _ | _ | _ | _ | _ | _ | _ | _ | _ | _ | _ | _ | _ | _ | _ | _ | _ | _ | _ | _ | _ | _ | _ | _ | _ | _ | _ | k
            all_goals (first | (simp at ho; done) | skip)
            all_goals (first | (exact absurd hu (by decide)) | skip)
            all_goals simp only [List.getElem?_cons_zero, List.getElem?_cons_succ, Option.some.injEq] at ho
            all_goals subst ho
            all_goals (first | done | (simp at ho; done))
          intro vs WR hWR hv
          have e0 : vs 0 = _ := hv 0 (by decide)
          have e1 : vs 1 = _ := hv 1 (by decide)
          have e2 : vs 2 = _ := hv 2 (by decide)
          have e3 : vs 3 = _ := hv 3 (by decide)
          have e4 : vs 4 = _ := hv 4 (by decide)
          have e5 : vs 5 = _ := hv 5 (by decide)
          have e6 : vs 6 = _ := hv 6 (by decide)
          have e7 : vs 7 = _ := hv 7 (by decide)
          have e8 : vs 8 = _ := hv 8 (by decide)
          have e9 : vs 9 = _ := hv 9 (by decide)
          have e10 : vs 10 = _ := hv 10 (by decide)
          have e11 : vs 11 = _ := hv 11 (by decide)
          have e12 : vs 12 = _ := hv 12 (by decide)
          have e13 : vs 13 = _ := hv 13 (by decide)
          have e14 : vs 14 = _ := hv 14 (by decide)
          have e15 : vs 15 = _ := hv 15 (by decide)
          have e16 : vs 16 = _ := hv 16 (by decide)
          have e17 : vs 17 = _ := hv 17 (by decide)
          have e18 : vs 18 = _ := hv 18 (by decide)
          have e19 : vs 19 = _ := hv 19 (by decide)
          have e20 : vs 20 = _ := hv 20 (by decide)
          obtain ⟨AyR21, cyR21, e21⟩ := hv 21 (by decide)
          have e22 : vs 22 = _ := hv 22 (by decide)
          have e23 : vs 23 = _ := hv 23 (by decide)
          have e24 : vs 24 = _ := hv 24 (by decide)
          have e25 : vs 25 = _ := hv 25 (by decide)
          have e26 : vs 26 = _ := hv 26 (by decide)
          have e27 : vs 27 = _ := hv 27 (by decide)
          have e28 : vs 28 = _ := hv 28 (by decide)
          have e29 : vs 29 = _ := hv 29 (by decide)
          have e30 : vs 30 = _ := hv 30 (by decide)
          have e31 : vs 31 = _ := hv 31 (by decide)
          have e32 : vs 32 = _ := hv 32 (by decide)
          have e33 : vs 33 = _ := hv 33 (by decide)
          have e34 : vs 34 = _ := hv 34 (by decide)
          have e35 : vs 35 = _ := hv 35 (by decide)
          simp only [putsL, if_true, Nat.zero_add, Nat.reduceAdd, e0, e1, e2, e3, e4, e5, e6, e7, e8, e9, e10, e11, e12, e13, e14, e15, e16, e17, e18, e19, e20, e21, e22, e23, e24, e25, e26, e27, e28, e29, e30, e31, e32, e33, e34, e35]
          simp only [Act.put, List.setIfInBounds_toArray, List.set_cons_zero, List.set_cons_succ]
          clear e0 e1 e2 e3 e4 e5 e6 e7 e8 e9 e10 e11 e12 e13 e14 e15 e16 e17 e18 e19 e20 e21 e22 e23 e24 e25 e26 e27 e28 e29 e30 e31 e32 e33 e34 e35 hv
          clear K0 c0 c1 c2 HC HLy
          go_wp2
          go_ret
          exact .mk hE2.out.symm (q0.trans0 hWR)
    · have hE2 : Hid (V = true) := hE.out.trans (allB_yes (by omega) hn'.out)
      clear hv hn' h
      go_wp2
      go_ret
      exact .mk hE2.out.symm q0
end Go.Proofs.YthdibgikjekneaaGreat

/- The reference's ValFits. -/
namespace Go.Proofs.YthdibgikjekneaaGreat
open Go.RowKit

set_option maxRecDepth 100000 in
set_option maxHeartbeats 4000000 in
theorem s_fits (X Y : Nat → Prop) (p : Plan) (k : Nat) (pv u : Value) (hs : List Obj) (v : Val) (t : Knd) (w : World) (hp : lodB p = true) (h : Sl Y w 2 (KprC Y w) pv p.keepers) (hk : k < p.keepers.length) (hh : Sl X w 3 (ObjC X w) u hs) (hcan : ∀ o ∈ hs, canB p o.of_ = true) (hn : v.kind = 2 → ∃ i : Nat, v.n = i ∧ i < hs.length) (ht : t.name.size ≤ maxLen) :
    Calls Tryz.prog 58 #[.agg #[pv], .int .i64 k, u, .agg #[.int .i64 v.kind, .int .i64 v.n], .agg #[.int .i64 t.kind, .string t.name]] w (BoolFr (hasB p k hs v t) w) := by
  obtain ⟨V, hV⟩ : ∃ V, V = hasB p k hs v t := ⟨_, rfl⟩
  rw [← hV]
  unfold hasB at hV
  obtain ⟨vk, vn⟩ := v
  obtain ⟨tk, tn⟩ := t
  obtain ⟨A, cap, rfl, _, hlen⟩ := hh.form
  obtain ⟨Ap, cp, rfl, _, _⟩ := h.form
  unfold maxLen at hlen
  dsimp only at *
  by_cases h1 : tk = 1
  · subst h1
    rw [if_pos rfl] at hV
    clear hh hn h
    by_cases h2 : vk = 1
    · have hE : Hid (V = true) := by rw [hV]; simp [Hid, h2]
      clear hV
      subst h2
      go_enter Tryz.func58, Tryz.ntmps58
      go_wp2
      go_ret
      exact .mk hE.out.symm frc
    · have hE : Hid (V = false) := by rw [hV]; simp [Hid, h2]
      clear hV
      go_enter Tryz.func58, Tryz.ntmps58
      go_wp2
      go_ret
      exact .mk (by rw [hE.out]; simp [h2]) frc
  rw [if_neg h1] at hV
  by_cases h3 : vk = 3
  · subst h3
    rw [if_pos rfl] at hV
    replace hV := Lib.hid hV
    clear hh hn h
    go_enter Tryz.func58, Tryz.ntmps58
    go_wp2
    go_ret
    exact .mk hV.out.symm frc
  rw [if_neg h3] at hV
  by_cases h2 : vk = 2
  · subst h2
    rw [if_pos rfl] at hV
    obtain ⟨i, rfl, hi⟩ := hn rfl
    rw [getD_nat hi] at hV
    obtain ⟨_, ko, io, hho, hch⟩ : lodB p = true ∧ ∃ k j : Nat, Here p hs[i].of_ k j ∧ chainOf p hs[i].of_ = some (chainK p hs[i].of_) :=
      canS_chain (by unfold canS; rw [hp, hcan _ (List.getElem_mem hi)]; rfl)
    obtain ⟨wA, hwA⟩ : ∃ wA, wA = (((w.alloc (.cells #[.slice Ap p.keepers.length cp] 32)).alloc (.cells #[.int .i64 2, .int .i64 i] 57)).alloc (.cells #[.int .i64 tk, .string tn] 83)) := ⟨_, rfl⟩
    have hfA : Fr No w wA := hwA ▸ frc
    have KP := (hwA ▸ bxc : Bx wA w.heap.size 32 #[.slice Ap p.keepers.length cp])
    have K0 := (hwA ▸ bxc : Bx wA (w.heap.size + 1) 57 #[.int .i64 2, .int .i64 i])
    have K1 := (hwA ▸ bxc : Bx wA (w.heap.size + 2) 83 #[.int .i64 tk, .string tn]).r2
    have hkw := fun W (hW : Fr No w W) => hh.keep (R' := ObjC X W) hW (fun _ h => h.elim) (fun _ _ _ h => h.keep hW (fun _ h => h.elim))
    have hpw := fun W (hW : Fr No w W) => h.keep (R' := KprC Y W) hW (fun _ h => h.elim) (fun _ _ _ h => h.keep hW (fun _ h => h.elim))
    have HF := fun W (hW : Fr No w W) => s_find Y p _ k tn W hp (hpw W hW) hk ht
    clear hh hn h
    unfold refV at HF
    by_cases hc : (findK p k tn).2 = 1
    · have hE : Hid (V = underK p hs[i].of_ (findK p k tn).1) := by rw [hV]; simp [Hid, hc]
      have HU := fun (ho : hs[i].of_.name.size ≤ maxLen) W (hW : Fr No w W) => s_under Y p _ ko hs[i].of_.name io (chainK p hs[i].of_) (findK p k tn).1 W hp (hpw W hW) (by have := hho.1; cases ho9 : hs[i].of_; rw [ho9] at hho this; dsimp only at this; subst this; exact hho) ho (by have := hho.1; cases ho9 : hs[i].of_; rw [ho9] at hch this; dsimp only at this; subst this; exact hch)
      have hkk : hs[i].of_.keeper = ko := hho.1
      have hUU : (chainK p hs[i].of_).any (fun r => refIs r (findK p k tn).1) = underK p hs[i].of_ (findK p k tn).1 := rfl
      rw [hUU] at HU
      clear hV hUU hho hch
      generalize underK p hs[i].of_ (findK p k tn).1 = U at *
      generalize findK p k tn = q at *
      obtain ⟨⟨qk, qn⟩, qc⟩ := q
      dsimp only at *
      subst hc
      go_enter Tryz.func58, Tryz.ntmps58
      go_wp2_with fail
      rw [← hwA]
      replace hwA := Lib.hid hwA
      refine (HF _ hfA).mono ?_
      rintro e w1 ⟨rfl, hf1⟩
      go_wp2_with fail
      obtain ⟨w2, hw2⟩ : ∃ w2, w2 = w1.alloc (.cells #[.int .i64 qk, .string qn] 34) := ⟨_, rfl⟩
      rw [← hw2]
      have hf2 : Fr No w1 w2 := hw2 ▸ frc
      have q2 : Fr No w w2 := (hfA.trans0 hf1).trans0 hf2
      have B2 : Bx w2 w1.heap.size 34 #[.int .i64 qk, .string qn] := hw2 ▸ bxc
      obtain ⟨b, bf, Af, cf, rfl, _, c0, c1, _, z0, _, _, _⟩ := (hkw _ q2).obj hi
      have K2 := (K0.keep (hf1.trans0 hf2)).r2
      have KP2 := (KP.keep (hf1.trans0 hf2)).r1
      have R2 := B2.r2
      have HU2 := fun W (hW : Fr No w2 W) => HU z0 W (q2.trans0 hW)
      have c0 := fun W (h : Fr No w2 W) => h.keep0 c0
      have c1 := fun W (h : Fr No w2 W) => h.keep0 c1
      clear hw2 hkw hpw HU HF K0 KP B2 hf1 hf2
      generalize hs[i] = o at *
      obtain ⟨⟨ok, on⟩, fs⟩ := o
      dsimp only at *
      subst hkk
      (refine wp_region_fr (X := No) (by kernel_rfl) (by kernel_rfl) ?_)
      (repeat (first | (go_big_quiet_skip; (try simp only [Act.put, List.setIfInBounds_toArray, List.set_cons_zero, List.set_cons_succ])) | (go_big_quiet_want; (apply Exists.intro; refine ⟨fun W hW => ?_, ?_⟩); (focus (go_simp; (try simp only [↓IntWalk.iteOmega]); (try simp only [reduceIte]); first | done | exact rfl | exact ⟨trivial, rfl⟩ | exact ⟨rfl, rfl⟩ | (go_at_call 108; exact (HU2 W hW).mono (fun _ _ h => ⟨h.1, hW.trans0 h.2⟩)))); go_big_quiet_on; (try simp only [Act.put, List.setIfInBounds_toArray, List.set_cons_zero, List.set_cons_succ])))); refine wpQuiet_nil ?_
      intro w9 hf9
      clear c0 c1 K2 KP2 R2 HU2
      go_wp2
      go_ret
      exact .mk hE.out.symm (q2.trans0 hf9)
    · have hE : Hid (V = false) := by rw [hV]; simp [Hid, hc]
      clear hV hkw hpw hho hch
      generalize findK p k tn = q at *
      obtain ⟨⟨qk, qn⟩, qc⟩ := q
      dsimp only at *
      go_enter Tryz.func58, Tryz.ntmps58
      go_wp2_with fail
      rw [← hwA]
      replace hwA := Lib.hid hwA
      refine (HF _ hfA).mono ?_
      rintro e w1 ⟨rfl, hf1⟩
      have q1 : Fr No w w1 := hfA.trans0 hf1
      clear HF K0 KP
      have hcb : (qc == 1) = false := by simpa using hc
      go_wp2_with fail
      (refine wp_region_fr (X := No) (by kernel_rfl) (by kernel_rfl) ?_)
      (repeat (first | (go_big_quiet_skip; (try simp only [Act.put, List.setIfInBounds_toArray, List.set_cons_zero, List.set_cons_succ])) | (go_big_quiet_want; (apply Exists.intro; refine ⟨fun W hW => ?_, ?_⟩); (focus (go_simp; (try simp only [↓IntWalk.iteOmega]); (try simp only [reduceIte]); first | done | exact rfl | exact ⟨trivial, rfl⟩ | exact ⟨rfl, rfl⟩ | fail)); go_big_quiet_on; (try simp only [Act.put, List.setIfInBounds_toArray, List.set_cons_zero, List.set_cons_succ])))); refine wpQuiet_nil ?_
      intro w9 hf9
      go_wp2
      go_ret
      exact .mk hE.out.symm (q1.trans0 ((Fr.refl _ _).alloc _ |>.trans0 hf9))
  · have hE : Hid (V = false) := by rw [hV, if_neg h2]; rfl
    clear hh hn hV h
    go_enter Tryz.func58, Tryz.ntmps58
    go_wp2
    go_ret
    exact .mk hE.out.symm frc

theorem hasK_iff (p : Plan) (k : Int) : (decide (0 ≤ k) && decide (k ≤ (p.keepers.length : Int) - 1)) = hasK p k := by
  unfold hasK
  congr 1
  apply decide_eq_decide.2
  omega

set_option maxRecDepth 100000 in
set_option maxHeartbeats 8000000 in
theorem s_valFits (X Y : Nat → Prop) (p : Plan) (k : Int) (pv u : Value) (hs : List Obj) (v : Val) (t : Tag) (w : World) (h : Sl Y w 2 (KprC Y w) pv p.keepers) (hh : Sl X w 3 (ObjC X w) u hs) (ht : t.name.size ≤ maxLen) :
    Calls Tryz.prog 25 #[.agg #[pv], .int .i64 k, u, .agg #[.int .i64 v.kind, .int .i64 v.n], .agg #[.int .i64 t.kind, .string t.name]] w (BoolFr (valFitsS p k hs v t) w) := by
  obtain ⟨A, cap, rfl, _, hlen⟩ := hh.form
  obtain ⟨Ap, cp, rfl, _, hpl⟩ := h.form
  have hlm := Lib.hid hlen
  unfold maxLen at hlen hpl
  have HL := fun W (hW : Fr No w W) => s_lodok Y p _ W (h.keep hW (fun _ h => h.elim) (fun _ _ _ h => h.keep hW (fun _ h => h.elim)))
  have HI := fun W => s_l1In k 0 ((p.keepers.length : Int) - 1) W
  have HT := fun W => s_tag t W ht
  have HV := fun W => s_val v hs.length W hlm.out
  obtain ⟨V, hV⟩ : ∃ V, V = valFitsS p k hs v t := ⟨_, rfl⟩
  rw [← hV]
  unfold valFitsS valFitsB at hV
  have KP := ((Bx.new w 32 #[.slice Ap p.keepers.length cp]).alloc (.cells #[.int .i64 v.kind, .int .i64 v.n] 57)).alloc (.cells #[.int .i64 t.kind, .string t.name] 59)
  have K0 : Bx (((w.alloc (.cells #[.slice Ap p.keepers.length cp] 32)).alloc (.cells #[.int .i64 v.kind, .int .i64 v.n] 57)).alloc (.cells #[.int .i64 t.kind, .string t.name] 59)) (w.heap.size + 1) 57 #[.int .i64 v.kind, .int .i64 v.n] := bxc
  have K1 : Bx (((w.alloc (.cells #[.slice Ap p.keepers.length cp] 32)).alloc (.cells #[.int .i64 v.kind, .int .i64 v.n] 57)).alloc (.cells #[.int .i64 t.kind, .string t.name] 59)) (w.heap.size + 2) 59 #[.int .i64 t.kind, .string t.name] := bxc
  obtain ⟨wA, hwA⟩ : ∃ wA, wA = (((w.alloc (.cells #[.slice Ap p.keepers.length cp] 32)).alloc (.cells #[.int .i64 v.kind, .int .i64 v.n] 57)).alloc (.cells #[.int .i64 t.kind, .string t.name] 59)) := ⟨_, rfl⟩
  have hfA : Fr No w wA := hwA ▸ frc
  rw [← hwA] at KP K0 K1
  have KP := KP.r1
  have K0 := K0.r2
  have K1 := K1.r2
  obtain ⟨yp, _, ylp⟩ := KP _ (Fr.refl _ _)
  obtain ⟨y0, y1, _, yl0⟩ := K0 _ (Fr.refl _ _)
  obtain ⟨y2, y3, _, yl1⟩ := K1 _ (Fr.refl _ _)
  cases hp : lodB p
  · rw [hp] at HL hV
    have hE : Hid (V = false) := by rw [hV]; rfl
    clear hV h hh KP K0 K1
    go_enter Tryz.func25, Tryz.ntmps25
    go_wp2_with fail
    rw [← hwA]
    replace hwA := Lib.hid hwA
    refine (HL _ hfA).mono ?_
    rintro e w1 ⟨rfl, hf1⟩
    go_wp2
    go_ret
    exact .mk hE.out.symm (hfA.trans0 hf1)
  rw [hp, Bool.true_and] at hV
  rw [hp] at HL
  rw [hasK_iff] at HI
  have HH := fun W (hW : Fr No w W) => s_heap X Y p _ _ hs W hp (h.keep hW (fun _ h => h.elim) (fun _ _ _ h => h.keep hW (fun _ h => h.elim))) (hh.keep hW (fun _ h => h.elim) (fun _ _ _ h => h.keep hW (fun _ h => h.elim)))
  -- the first that is not so
  cases g1 : hasK p k
  · rw [g1] at HI hV
    have hE : Hid (V = false) := by rw [hV]; rfl
    clear hV h hh HH
    go_enter Tryz.func25, Tryz.ntmps25
    go_wp2_with fail
    rw [← hwA]
    replace hwA := Lib.hid hwA
    refine (HL _ hfA).mono ?_
    rintro e w1 ⟨rfl, hf1⟩
    obtain ⟨zp, _, zlp⟩ := KP _ hf1
    go_wp2_with (go_at_call 47; refine (HI _).mono ?_; rintro e w2 ⟨rfl, rfl⟩)
    go_ret
    exact .mk hE.out.symm (hfA.trans0 hf1)
  rw [g1] at HI
  rw [g1, Bool.true_and] at hV
  obtain ⟨k0, rfl, hk0⟩ : ∃ k0 : Nat, k = k0 ∧ k0 < p.keepers.length := by
    unfold hasK at g1
    simp only [Bool.and_eq_true, decide_eq_true_eq] at g1
    exact ⟨k.toNat, by omega, by omega⟩
  cases g2 : heapB p hs
  · rw [g2] at HH hV
    have hE : Hid (V = false) := by rw [hV]; simp [Hid]
    clear hV h hh g1
    go_enter Tryz.func25, Tryz.ntmps25
    go_wp2_with fail
    rw [← hwA]
    replace hwA := Lib.hid hwA
    refine (HL _ hfA).mono ?_
    rintro e w1 ⟨rfl, hf1⟩
    obtain ⟨zp, _, zlp⟩ := KP _ hf1
    go_wp2_with (first
      | (go_at_call 47; refine (HI _).mono ?_; rintro e w2 ⟨rfl, rfl⟩)
      | (go_at_call 55; refine (HH _ (hfA.trans0 hf1)).mono ?_; rintro e w3 ⟨rfl, hf3⟩))
    go_ret
    exact .mk hE.out.symm ((hfA.trans0 hf1).trans0 hf3)
  rw [g2] at HH
  rw [g2] at hV
  cases g3 : valB hs.length v
  · rw [g3] at HV hV
    have hE : Hid (V = false) := by rw [hV]; simp [Hid]
    clear hV h hh g1 g2
    go_enter Tryz.func25, Tryz.ntmps25
    go_wp2_with fail
    rw [← hwA]
    replace hwA := Lib.hid hwA
    refine (HL _ hfA).mono ?_
    rintro e w1 ⟨rfl, hf1⟩
    obtain ⟨zp, _, zlp⟩ := KP _ hf1
    go_wp2_with (first
      | (go_at_call 47; refine (HI _).mono ?_; rintro e w2 ⟨rfl, rfl⟩)
      | (go_at_call 55; refine (HH _ (hfA.trans0 hf1)).mono ?_; rintro e w3 ⟨rfl, hf3⟩; obtain ⟨x0, x1, _, xl0⟩ := K0 _ (hf1.trans0 hf3))
      | (go_at_call 56; refine (HV _).mono ?_; rintro e w4 ⟨rfl, hf4⟩))
    go_ret
    exact .mk hE.out.symm (((hfA.trans0 hf1).trans0 hf3).trans0 hf4)
  rw [g3] at HV hV
  cases g4 : tagB t
  · rw [g4] at HT hV
    have hE : Hid (V = false) := by rw [hV]; simp [Hid]
    clear hV h hh g1 g2 g3
    go_enter Tryz.func25, Tryz.ntmps25
    go_wp2_with fail
    rw [← hwA]
    replace hwA := Lib.hid hwA
    refine (HL _ hfA).mono ?_
    rintro e w1 ⟨rfl, hf1⟩
    obtain ⟨zp, _, zlp⟩ := KP _ hf1
    go_wp2_with (first
      | (go_at_call 47; refine (HI _).mono ?_; rintro e w2 ⟨rfl, rfl⟩)
      | (go_at_call 55; refine (HH _ (hfA.trans0 hf1)).mono ?_; rintro e w3 ⟨rfl, hf3⟩; obtain ⟨x0, x1, _, xl0⟩ := K0 _ (hf1.trans0 hf3))
      | (go_at_call 56; refine (HV _).mono ?_; rintro e w4 ⟨rfl, hf4⟩; obtain ⟨u2, u3, _, ul1⟩ := K1 _ ((hf1.trans0 hf3).trans0 hf4))
      | (go_at_call 57; refine (HT _).mono ?_; rintro e w5 ⟨rfl, hf5⟩))
    go_ret
    exact .mk hE.out.symm ((((hfA.trans0 hf1).trans0 hf3).trans0 hf4).trans0 hf5)
  rw [g4] at HT hV
  have hV : V = fitsB p k0 hs v t := by rw [hV]; simp
  unfold fitsB at hV
  have HF := fun W (hW : Fr No w W) => s_fits X Y p k0 _ _ hs v ⟨t.kind, t.name⟩ W hp (h.keep hW (fun _ h => h.elim) (fun _ _ _ h => h.keep hW (fun _ h => h.elim))) hk0 (hh.keep hW (fun _ h => h.elim) (fun _ _ _ h => h.keep hW (fun _ h => h.elim))) (heapB_obj g2) (fun hk => valB_ref g3 hk) ht
  have hz : t.kind = 0 ∨ (¬ t.kind = 0 ∧ t.kind = 3 ∧ v.kind = 3) ∨ (¬ t.kind = 0 ∧ t.kind = 3 ∧ ¬ v.kind = 3) ∨ (¬ t.kind = 0 ∧ ¬ t.kind = 3) := by
    by_cases h0 : t.kind = 0 <;> by_cases h3 : t.kind = 3 <;> by_cases h4 : v.kind = 3 <;> simp [h0, h3, h4]
  obtain ⟨tk, tn⟩ := t
  obtain ⟨vk, vn⟩ := v
  dsimp only at *
  clear h hh g1 g2 g3 g4
  have hE : Hid (V = if tk = 0 then true else if tk = 3 then decide (vk = 3) else hasB p k0 hs ⟨vk, vn⟩ ⟨tk, tn⟩) := hV
  clear hV
  generalize hasB p k0 hs ⟨vk, vn⟩ ⟨tk, tn⟩ = H at *
  rcases hz with rfl | ⟨h0, rfl, rfl⟩ | ⟨h0, rfl, h4⟩ | ⟨h0, h3⟩
  all_goals
    go_enter Tryz.func25, Tryz.ntmps25
    go_wp2_with fail
    rw [← hwA]
    replace hwA := Lib.hid hwA
    refine (HL _ hfA).mono ?_
    rintro e w1 ⟨rfl, hf1⟩
    obtain ⟨zp, _, zlp⟩ := KP _ hf1
    go_wp2_with (first
      | (go_at_call 47; refine (HI _).mono ?_; rintro e w2 ⟨rfl, rfl⟩)
      | (go_at_call 55; refine (HH _ (hfA.trans0 hf1)).mono ?_; rintro e w3 ⟨rfl, hf3⟩; obtain ⟨x0, x1, _, xl0⟩ := K0 _ (hf1.trans0 hf3))
      | (go_at_call 56; refine (HV _).mono ?_; rintro e w4 ⟨rfl, hf4⟩; obtain ⟨u2, u3, _, ul1⟩ := K1 _ ((hf1.trans0 hf3).trans0 hf4))
      | (go_at_call 57; refine (HT _).mono ?_; rintro e w5 ⟨rfl, hf5⟩; have q5 : Fr No wA w5 := ((hf1.trans0 hf3).trans0 hf4).trans0 hf5; obtain ⟨t2, t3, _, tl1⟩ := K1 _ q5; obtain ⟨s0, s1, _, sl0⟩ := K0 _ q5; obtain ⟨rp, _, rlp⟩ := KP _ q5)
      | (go_at_call 58; refine (HF _ (hfA.trans0 q5)).mono ?_; rintro e w6 ⟨rfl, hf6⟩))
    go_ret
  · exact .mk hE.out.symm (hfA.trans0 q5)
  · exact .mk hE.out.symm (hfA.trans0 q5)
  · exact .mk (by rw [hE.out]; simp [h4]) (hfA.trans0 q5)
  · exact .mk (by rw [hE.out, if_neg h0, if_neg h3]) ((hfA.trans0 q5).trans0 hf6)
end Go.Proofs.YthdibgikjekneaaGreat
