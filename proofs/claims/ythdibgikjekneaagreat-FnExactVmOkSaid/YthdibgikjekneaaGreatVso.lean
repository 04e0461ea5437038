/- The reference's VmOk. -/
import Derived.Test.YthdibgikjekneaaGreatVsl
import Derived.Test.YthdibgikjekneaaGreatVpo
import Derived.Test.YthdibgikjekneaaGreatScl
namespace Go.Proofs.YthdibgikjekneaaGreat
open Go.RowKit

set_option maxRecDepth 100000 in
set_option maxHeartbeats 8000000 in
theorem s_frmok (X Y : Nat → Prop) (p : Plan) (pv : Value) (f : Frm) (cs : List Value) (many : Nat) (w : World) (hp : lodB p = true) (h : Sl Y w 2 (KprC Y w) pv p.keepers) (hf : FrmC X w cs f) (hm : many ≤ maxLen) :
    Calls Tryz.prog 68 #[.agg #[pv], .agg cs.toArray, .int .i64 many] w (BoolFr (frmB p many f) w) := by
  obtain ⟨vl, vs, rfl, hnm, hl, hst⟩ := hf
  obtain ⟨Al, cl, rfl, _, hll⟩ := hl.form
  obtain ⟨As, cs', rfl, _, hsl⟩ := hst.form
  obtain ⟨Ap, cp, rfl, _, _⟩ := h.form
  unfold maxLen at hll hsl
  obtain ⟨wA, hwA⟩ : ∃ wA, wA = (w.alloc (.cells #[.slice Ap p.keepers.length cp] 32)).alloc (.cells #[.int .i64 f.of_.of_.keeper, .string f.of_.of_.name, .int .i64 f.of_.at_, .int .i64 f.pc, .slice Al f.locals.length cl, .slice As f.stack.length cs'] 127) := ⟨_, rfl⟩
  have hfA : Fr No w wA := hwA ▸ frc
  have KP := (hwA ▸ bxc : Bx wA w.heap.size 32 #[.slice Ap p.keepers.length cp]).r1
  have KF := (hwA ▸ bxc : Bx wA (w.heap.size + 1) 127 #[.int .i64 f.of_.of_.keeper, .string f.of_.of_.name, .int .i64 f.of_.at_, .int .i64 f.pc, .slice Al f.locals.length cl, .slice As f.stack.length cs']).r6
  have hpw := fun W (hW : Fr No wA W) => h.keep (R' := KprC Y W) (hfA.trans0 hW) (fun _ h => h.elim) (fun _ _ _ h => h.keep (hfA.trans0 hW) (fun _ h => h.elim))
  have HC := fun W (hW : Fr No wA W) => s_lnklaid Y p _ f.of_.of_ W (hpw W hW) hnm
  have hcan : canS p f.of_.of_ = canB p f.of_.of_ := by unfold canS; rw [hp]; rfl
  rw [hcan] at HC
  have HVl := fun W (hW : Fr No wA W) => s_vals X _ f.locals many W (hl.keep (R' := ValC) (hfA.trans0 hW) (fun _ h => h.elim) (fun _ _ _ h => h)) hm
  have HVs := fun W (hW : Fr No wA W) => s_vals X _ f.stack many W (hst.keep (R' := ValC) (hfA.trans0 hW) (fun _ h => h.elim) (fun _ _ _ h => h)) hm
  obtain ⟨V, hV⟩ : ∃ V, V = frmB p many f := ⟨_, rfl⟩
  rw [← hV]
  replace hV := Lib.hid hV
  clear hl hst h hcan
  cases hc : canB p f.of_.of_
  · have hE : Hid (V = false) := hV.out.trans (frmB_no (.inl (by unfold hasMB; rw [hc]; rfl)))
    rw [hc] at HC
    clear hV hc hpw HVl HVs
    go_enter Tryz.func68, Tryz.ntmps68
    go_wp2_with fail
    rw [← hwA]
    replace hwA := Lib.hid hwA
    (refine wp_region_fr (X := No) (by kernel_rfl) (by kernel_rfl) ?_)
    (repeat (first | (go_big_quiet_skip; (try simp only [Act.put, List.setIfInBounds_toArray, List.set_cons_zero, List.set_cons_succ])) | (go_big_quiet_want; (apply Exists.intro; refine ⟨fun W hW => ?_, ?_⟩); (focus (go_simp; (try simp only [↓IntWalk.iteOmega]); (try simp only [reduceIte]); first | done | exact rfl | exact ⟨trivial, rfl⟩ | exact ⟨rfl, rfl⟩ | (go_at_call 37; exact (HC W hW).mono (fun _ _ h => ⟨h.1, hW.trans0 h.2⟩)))); go_big_quiet_on; (try simp only [Act.put, List.setIfInBounds_toArray, List.set_cons_zero, List.set_cons_succ])))); refine wpQuiet_nil ?_
    intro w9 hf9
    clear KP KF HC
    go_wp2
    go_ret
    exact .mk hE.out.symm (hfA.trans0 hf9)
  · rw [hc] at HC
    obtain ⟨k, i, hh⟩ := canB_here hp hc
    have hkk := hh.1
    have hrf : (⟨(k : Int), f.of_.of_.name⟩ : Ref) = f.of_.of_ := by cases ho9 : f.of_.of_; rw [ho9] at hkk; dsimp only at hkk; subst hkk; rfl
    obtain ⟨Ac, cc, Am, cm, _, HCl⟩ := s_class Y p _ k f.of_.of_.name i wA (hpw wA (Fr.refl _ _)) (by rw [hrf]; exact hh) hnm
    rw [← hkk] at HCl
    have hrf2 : (⟨f.of_.of_.keeper, f.of_.of_.name⟩ : Ref) = f.of_.of_ := rfl
    rw [hrf2] at HCl
    have hml : (clsAt p f.of_.of_).methods.length ≤ 4 := by
      have h9 := Here.clsB hp hh
      unfold clsB at h9
      simp only [Bool.and_eq_true, decide_eq_true_eq] at h9
      exact h9.1.1.2
    have HI := fun W => s_l1In f.of_.at_ 0 (((clsAt p f.of_.of_).methods.length : Int) - 1) W
    have hin : (decide (0 ≤ f.of_.at_) && decide (f.of_.at_ ≤ ((clsAt p f.of_.of_).methods.length : Int) - 1)) = hasMB p f.of_ := by
      unfold hasMB
      rw [hc, Bool.true_and]
      congr 1
      apply decide_eq_decide.2
      omega
    rw [hin] at HI
    cases g1 : hasMB p f.of_
    · have hE : Hid (V = false) := hV.out.trans (frmB_no (.inl g1))
      rw [g1] at HI
      clear hV hc hpw HVl HVs hin hkk hrf hrf2 hh g1
      generalize clsAt p f.of_.of_ = c at *
      go_enter Tryz.func68, Tryz.ntmps68
      go_wp2_with fail
      rw [← hwA]
      replace hwA := Lib.hid hwA
      have hG : ∀ (m : Nat) W, Fr No wA W → Fr No wA W := fun _ _ h => h
      have hGs : ∀ W, Fr No wA W → wA.heap.size ≤ W.heap.size := fun _ h => h.size
      refine wp_region_allL [isV (.agg #[.slice Ap p.keepers.length cp]), isV (.pointer (some ⟨w.heap.size + 1, 0, none⟩)), isV (.pointer (some ⟨w.heap.size + 1, 0, none⟩)), isV (.agg #[.int .i64 f.of_.of_.keeper, .string f.of_.of_.name]), isV (.bool true), isV (.bool false), isV (.bool false), isV (.pointer (some ⟨w.heap.size + 1, 0, none⟩)), isV (.pointer (some ⟨w.heap.size + 1, 2, none⟩)), isV (.int .i64 f.of_.at_), isV (.agg #[.slice Ap p.keepers.length cp]), isV (.pointer (some ⟨w.heap.size + 1, 0, none⟩)), isV (.pointer (some ⟨w.heap.size + 1, 0, none⟩)), isV (.agg #[.int .i64 f.of_.of_.keeper, .string f.of_.of_.name]), isV (.agg #[.string c.name, .string c.super, .slice Ac c.fields.length cc, .slice Am c.methods.length cm]), isV (.slice Am c.methods.length cm), isV (.int .i64 c.methods.length), isV (.int .i64 ((c.methods.length : Int) - 1)), isV (.bool false), isV (.bool true), isV (.bool true)] [false, false, false, false, false, false, false, false, false, false, false, false, false, false, false, false, false, false, false, false, false] [true, true, true, true, true, true, true, true, true, true, true, true, true, true, true, true, true, true, true, true, true] 0 (fun _ W => Fr No wA W) (fun _ _ => False) (by kernel_rfl) (by kernel_rfl) ?_ ?_ ?_ ?_ ?_ (by decide) ?_ ?_ ?_ ?_ ?_
      · intro o ho d hd; simp only [List.mem_cons, List.not_mem_nil, or_false] at ho; rcases ho with rfl | rfl | rfl | rfl | rfl | rfl | rfl | rfl | rfl | rfl | rfl | rfl | rfl | rfl | rfl | rfl | rfl | rfl | rfl | rfl | rfl <;> (cases hd <;> simp)
      · intro x hx
        simp only [List.mem_cons, List.not_mem_nil, or_false] at hx
        rcases hx with rfl | rfl | rfl | rfl | rfl | rfl | rfl | rfl | rfl | rfl | rfl | rfl | rfl | rfl | rfl | rfl | rfl | rfl | rfl | rfl | rfl
        · exact isV_mono _
        · exact isV_mono _
        · exact isV_mono _
        · exact isV_mono _
        · exact isV_mono _
        · exact isV_mono _
        · exact isV_mono _
        · exact isV_mono _
        · exact isV_mono _
        · exact isV_mono _
        · exact isV_mono _
        · exact isV_mono _
        · exact isV_mono _
        · exact isV_mono _
        · exact isV_mono _
        · exact isV_mono _
        · exact isV_mono _
        · exact isV_mono _
        · exact isV_mono _
        · exact isV_mono _
        · exact isV_mono _
      · intro x hx v W W' h hs
        simp only [List.mem_cons, List.not_mem_nil, or_false] at hx
        rcases hx with rfl | rfl | rfl | rfl | rfl | rfl | rfl | rfl | rfl | rfl | rfl | rfl | rfl | rfl | rfl | rfl | rfl | rfl | rfl | rfl | rfl
        · exact h
        · exact h
        · exact h
        · exact h
        · exact h
        · exact h
        · exact h
        · exact h
        · exact h
        · exact h
        · exact h
        · exact h
        · exact h
        · exact h
        · exact h
        · exact h
        · exact h
        · exact h
        · exact h
        · exact h
        · exact h
      · exact fun _ _ _ h hf => h.trans0 hf
      · intro k o ho
        rcases k with _ | _ | _ | _ | _ | _ | _ | _ | _ | _ | _ | _ | _ | _ | _ | _ | _ | _ | _ | _ | _ | k
        all_goals (first | (simp at ho; done) | skip)
        all_goals simp only [List.getElem?_cons_zero, List.getElem?_cons_succ, Option.some.injEq] at ho
        all_goals subst ho
        all_goals refine ⟨fun h => ?_, fun g b h v W hv => ?_⟩
        all_goals first | rfl | (cases h; done) | (cases h; obtain rfl : v = Value.bool _ := hv; rfl)
      · intro k hk h W; exfalso; revert h; revert hk; revert k; decide
      · exact (Fr.refl _ _).drew
      · intro k o ho hu hg a' W jc hjc hW0 hoff hdep
        have hW := hG jc _ hW0
        have hbs := hGs _ hW
        have H3 := hoff 3 (by simp)
        have H4 := hoff 4 (by simp)
        simp only [Act.eval] at H3 H4
        rcases k with _ | _ | _ | _ | _ | _ | _ | _ | _ | _ | _ | _ | _ | _ | _ | _ | _ | _ | _ | _ | _ | k
        all_goals (first | (simp at ho; done) | skip)
        all_goals (first | (exact absurd hu (by decide)) | skip)
        all_goals (first | (exact absurd hg (by decide)) | skip)
        all_goals simp only [List.getElem?_cons_zero, List.getElem?_cons_succ, Option.some.injEq] at ho
        all_goals subst ho
        · unfold opGives
          simp [execOp, Act.eval, go_sem, givesUpon, *]
          exact ⟨Fr.refl _ _, rfl⟩
        · unfold opGives
          simp [execOp, Act.eval, H4, go_sem, givesUpon]
          exact ⟨Fr.refl _ _, rfl⟩
        · have D9 : a'.eval (.tmp 9) = .pointer (some ⟨w.heap.size + 1, 0, none⟩) := hdep ⟨1, .data⟩ (by simp) rfl _ 9 rfl rfl
          simp only [Act.eval] at D9
          unfold opGives
          simp [execOp, Act.eval, D9, go_sem, givesUpon]
          exact ⟨Fr.refl _ _, rfl⟩
        · have D10 : a'.eval (.tmp 10) = .pointer (some ⟨w.heap.size + 1, 0, none⟩) := hdep ⟨2, .data⟩ (by simp) rfl _ 10 rfl rfl
          simp only [Act.eval] at D10
          unfold opGives
          simp [execOp, Act.eval, go_sem, givesUpon, *]
          exact ⟨Fr.refl _ _, rfl⟩
        · have D8 : a'.eval (.tmp 8) = .agg #[.slice Ap p.keepers.length cp] := hdep ⟨0, .data⟩ (by simp) rfl _ 8 rfl rfl
          have D11 : a'.eval (.tmp 11) = .agg #[.int .i64 f.of_.of_.keeper, .string f.of_.of_.name] := hdep ⟨3, .data⟩ (by simp) rfl _ 11 rfl rfl
          simp only [Act.eval] at D8 D11
          unfold opGives
          simp [Act.eval, D8, D11, go_sem, givesUpon]
          exact (HC _ hW).mono fun e w' h => ⟨_, h.1, h.2, rfl⟩
        · have D12 : a'.eval (.tmp 12) = .bool true := hdep ⟨4, .data⟩ (by simp) rfl _ 12 rfl rfl
          simp only [Act.eval] at D12
          unfold opGives
          simp [execOp, Act.eval, D12, go_sem, givesUpon]
          exact ⟨Fr.refl _ _, rfl⟩
        · have D13 : a'.eval (.tmp 13) = .bool false := hdep ⟨5, .data⟩ (by simp) rfl _ 13 rfl rfl
          simp only [Act.eval] at D13
          unfold opGives
          simp [execOp, Act.eval, D13, go_sem, givesUpon]
          exact ⟨Fr.refl _ _, rfl⟩
        · unfold opGives
          simp [execOp, Act.eval, H4, go_sem, givesUpon]
          exact ⟨Fr.refl _ _, rfl⟩
        · have D15 : a'.eval (.tmp 15) = .pointer (some ⟨w.heap.size + 1, 0, none⟩) := hdep ⟨7, .data⟩ (by simp) rfl _ 15 rfl rfl
          simp only [Act.eval] at D15
          unfold opGives
          simp [execOp, Act.eval, D15, go_sem, givesUpon]
          exact ⟨Fr.refl _ _, rfl⟩
        · have D16 : a'.eval (.tmp 16) = .pointer (some ⟨w.heap.size + 1, 2, none⟩) := hdep ⟨8, .data⟩ (by simp) rfl _ 16 rfl rfl
          simp only [Act.eval] at D16
          unfold opGives
          simp [execOp, Act.eval, go_sem, givesUpon, *]
          exact ⟨Fr.refl _ _, rfl⟩
        · unfold opGives
          simp [execOp, Act.eval, go_sem, givesUpon, *]
          exact ⟨Fr.refl _ _, rfl⟩
        · unfold opGives
          simp [execOp, Act.eval, H4, go_sem, givesUpon]
          exact ⟨Fr.refl _ _, rfl⟩
        · have D19 : a'.eval (.tmp 19) = .pointer (some ⟨w.heap.size + 1, 0, none⟩) := hdep ⟨11, .data⟩ (by simp) rfl _ 19 rfl rfl
          simp only [Act.eval] at D19
          unfold opGives
          simp [execOp, Act.eval, D19, go_sem, givesUpon]
          exact ⟨Fr.refl _ _, rfl⟩
        · have D20 : a'.eval (.tmp 20) = .pointer (some ⟨w.heap.size + 1, 0, none⟩) := hdep ⟨12, .data⟩ (by simp) rfl _ 20 rfl rfl
          simp only [Act.eval] at D20
          unfold opGives
          simp [execOp, Act.eval, go_sem, givesUpon, *]
          exact ⟨Fr.refl _ _, rfl⟩
        · have D18 : a'.eval (.tmp 18) = .agg #[.slice Ap p.keepers.length cp] := hdep ⟨10, .data⟩ (by simp) rfl _ 18 rfl rfl
          have D21 : a'.eval (.tmp 21) = .agg #[.int .i64 f.of_.of_.keeper, .string f.of_.of_.name] := hdep ⟨13, .data⟩ (by simp) rfl _ 21 rfl rfl
          simp only [Act.eval] at D18 D21
          unfold opGives
          simp [Act.eval, D18, D21, go_sem, givesUpon]
          exact (HCl _ hW).mono fun e w' h => ⟨_, h.1, h.2, rfl⟩
        · have D22 : a'.eval (.tmp 22) = .agg #[.string c.name, .string c.super, .slice Ac c.fields.length cc, .slice Am c.methods.length cm] := hdep ⟨14, .data⟩ (by simp) rfl _ 22 rfl rfl
          simp only [Act.eval] at D22
          unfold opGives
          simp [execOp, Act.eval, D22, go_sem, givesUpon]
          exact ⟨Fr.refl _ _, rfl⟩
        · have D23 : a'.eval (.tmp 23) = .slice Am c.methods.length cm := hdep ⟨15, .data⟩ (by simp) rfl _ 23 rfl rfl
          simp only [Act.eval] at D23
          unfold opGives
          simp [Act.eval, D23, go_sem, givesUpon]
          exact ⟨Fr.refl _ _, rfl⟩
        · have D24 : a'.eval (.tmp 24) = .int .i64 c.methods.length := hdep ⟨16, .data⟩ (by simp) rfl _ 24 rfl rfl
          simp only [Act.eval] at D24
          unfold opGives
          simp [execOp, Act.eval, D24, go_sem, givesUpon]
          exact ⟨Fr.refl _ _, by unfold isV; refine congrArg _ ?_; simp [IntKind.wrap, IntKind.signed, IntKind.bits]; omega⟩
        · have D17 : a'.eval (.tmp 17) = .int .i64 f.of_.at_ := hdep ⟨9, .data⟩ (by simp) rfl _ 17 rfl rfl
          have D25 : a'.eval (.tmp 25) = .int .i64 ((c.methods.length : Int) - 1) := hdep ⟨17, .data⟩ (by simp) rfl _ 25 rfl rfl
          simp only [Act.eval] at D17 D25
          unfold opGives
          simp [Act.eval, D17, D25, go_sem, givesUpon]
          exact (HI _).mono fun e w' h => ⟨_, h.1, by rw [← h.2]; exact Fr.refl _ _, rfl⟩
        · have D26 : a'.eval (.tmp 26) = .bool false := hdep ⟨18, .data⟩ (by simp) rfl _ 26 rfl rfl
          simp only [Act.eval] at D26
          unfold opGives
          simp [execOp, Act.eval, D26, go_sem, givesUpon]
          exact ⟨Fr.refl _ _, rfl⟩
        · have D14 : a'.eval (.tmp 14) = .bool false := hdep ⟨6, .data⟩ (by simp) rfl _ 14 rfl rfl
          have D27 : a'.eval (.tmp 27) = .bool true := hdep ⟨19, .data⟩ (by simp) rfl _ 27 rfl rfl
          simp only [Act.eval] at D14 D27
          unfold opGives
          simp [execOp, Act.eval, go_sem, givesUpon, D14, D27]
          exact ⟨Fr.refl _ _, rfl⟩
      · intro k o ho hu a' W jc hjc hW0 hoff hdep
        have hW := hG jc _ hW0
        have hbs := hGs _ hW
        have H3 := hoff 3 (by simp)
        have H4 := hoff 4 (by simp)
        simp only [Act.eval] at H3 H4
        rcases k with _ | _ | _ | _ | _ | _ | _ | _ | _ | _ | _ | _ | _ | _ | _ | _ | _ | _ | _ | _ | _ | k
        all_goals (first | (simp at ho; done) | skip)
        all_goals (first | (exact absurd hu (by decide)) | skip)
        all_goals simp only [List.getElem?_cons_zero, List.getElem?_cons_succ, Option.some.injEq] at ho
        all_goals subst ho
        all_goals (first | done | (simp at ho; done))
      intro vs WR hWR hv
      have e0 : vs 0 = _ := hv 0 (by decide)
      have e1 : vs 1 = _ := hv 1 (by decide)
      have e2 : vs 2 = _ := hv 2 (by decide)
      have e3 : vs 3 = _ := hv 3 (by decide)
      have e4 : vs 4 = _ := hv 4 (by decide)
      have e5 : vs 5 = _ := hv 5 (by decide)
      have e6 : vs 6 = _ := hv 6 (by decide)
      have e7 : vs 7 = _ := hv 7 (by decide)
      have e8 : vs 8 = _ := hv 8 (by decide)
      have e9 : vs 9 = _ := hv 9 (by decide)
      have e10 : vs 10 = _ := hv 10 (by decide)
      have e11 : vs 11 = _ := hv 11 (by decide)
      have e12 : vs 12 = _ := hv 12 (by decide)
      have e13 : vs 13 = _ := hv 13 (by decide)
      have e14 : vs 14 = _ := hv 14 (by decide)
      have e15 : vs 15 = _ := hv 15 (by decide)
      have e16 : vs 16 = _ := hv 16 (by decide)
      have e17 : vs 17 = _ := hv 17 (by decide)
      have e18 : vs 18 = _ := hv 18 (by decide)
      have e19 : vs 19 = _ := hv 19 (by decide)
      have e20 : vs 20 = _ := hv 20 (by decide)
      simp only [putsL, if_true, Nat.zero_add, Nat.reduceAdd, e0, e1, e2, e3, e4, e5, e6, e7, e8, e9, e10, e11, e12, e13, e14, e15, e16, e17, e18, e19, e20]
      simp only [Act.put, List.setIfInBounds_toArray, List.set_cons_zero, List.set_cons_succ]
      clear e0 e1 e2 e3 e4 e5 e6 e7 e8 e9 e10 e11 e12 e13 e14 e15 e16 e17 e18 e19 e20 hv
      have hf9 := hWR
      clear KP KF HC HCl HI
      go_wp2
      go_ret
      exact .mk hE.out.symm (hfA.trans0 hf9)
    · obtain ⟨k2, i2, a, hk2, ha, hh2, hal, hmo⟩ := hasMB_here hp g1
      have hMV : ∃ cs : List Value, MthC Y wA cs (mthOf p f.of_) ∧ ∀ W', Fr No wA W' → Calls Tryz.prog 118 #[.agg #[.slice Ap p.keepers.length cp], .agg #[.int .i64 f.of_.of_.keeper, .string f.of_.of_.name, .int .i64 f.of_.at_]] W' (Gives (.agg cs.toArray) W') := by
        have h9 := s_l4method Y p _ (a := a) wA (hpw wA (Fr.refl _ _)) (s := f.of_.of_.name) (k := k) (i := i) (by rw [hrf]; exact hh) hnm (by rw [hrf]; exact hal)
        obtain ⟨cs, h1, h2⟩ := h9
        rw [← hkk, ← ha] at h2
        refine ⟨cs, ?_, h2⟩
        have hme : (clsAt p ⟨(k : Int), f.of_.of_.name⟩).methods[a]'(by rw [hrf]; exact hal) = mthOf p f.of_ := by rw [hmo]; congr 1; rw [hrf]
        rwa [hme] at h1
      rw [g1] at HI
      have g1 := Lib.hid g1
      clear hc hpw hin hkk hrf hrf2 hh ha hmo hal hk2 hh2
      generalize clsAt p f.of_.of_ = c at *
      generalize hmM : mthOf p f.of_ = m at *
      obtain ⟨csm, ⟨va, vc, vm, rfl, _, _, hva, hco, hvm⟩, HMt⟩ := hMV
      obtain ⟨Aq, cq, rfl, _, hql⟩ := hco.form
      obtain ⟨Aa, ca, rfl, _, _⟩ := hva.form
      obtain ⟨Ax, cx, rfl, _, _⟩ := hvm.form
      unfold maxLen at hql
      clear hco hva hvm
      have HP := fun W => s_l1In f.pc 0 ((m.code.length : Int) - 1) W
      have hcase : ¬ (0 ≤ f.pc ∧ f.pc < (m.code.length : Int)) ∨ ((0 ≤ f.pc ∧ f.pc < (m.code.length : Int)) ∧ (f.locals.length : Int) ≠ m.locals) ∨ ((0 ≤ f.pc ∧ f.pc < (m.code.length : Int)) ∧ (f.locals.length : Int) = m.locals ∧ m.stack < (f.stack.length : Int)) ∨ ((0 ≤ f.pc ∧ f.pc < (m.code.length : Int)) ∧ (f.locals.length : Int) = m.locals ∧ (f.stack.length : Int) ≤ m.stack) := by omega
      have hpi : (decide (0 ≤ f.pc) && decide (f.pc ≤ (m.code.length : Int) - 1)) = decide (0 ≤ f.pc ∧ f.pc < (m.code.length : Int)) := by
        rw [← Bool.decide_and]; apply decide_eq_decide.2; omega
      rw [hpi] at HP
      have hno := fun h => Lib.hid (hV.out.trans (frmB_no (p := p) (many := many) (f := f) h))
      have hyes := fun g2 g3 g4 g5 h1 h2 => Lib.hid (hV.out.trans (frmB_yes (p := p) (many := many) (f := f) g1.out g2 g3 g4 g5 h1 h2))
      rw [hmM] at hno hyes
      clear hV hpi
      go_enter Tryz.func68, Tryz.ntmps68
      go_wp2_with fail
      rw [← hwA]
      replace hwA := Lib.hid hwA
      have hG : ∀ (m : Nat) W, Fr No wA W → Fr No wA W := fun _ _ h => h
      have hGs : ∀ W, Fr No wA W → wA.heap.size ≤ W.heap.size := fun _ h => h.size
      refine wp_region_allL [isV (.agg #[.slice Ap p.keepers.length cp]), isV (.pointer (some ⟨w.heap.size + 1, 0, none⟩)), isV (.pointer (some ⟨w.heap.size + 1, 0, none⟩)), isV (.agg #[.int .i64 f.of_.of_.keeper, .string f.of_.of_.name]), isV (.bool true), isV (.bool false), isV (.bool false), isV (.pointer (some ⟨w.heap.size + 1, 0, none⟩)), isV (.pointer (some ⟨w.heap.size + 1, 2, none⟩)), isV (.int .i64 f.of_.at_), isV (.agg #[.slice Ap p.keepers.length cp]), isV (.pointer (some ⟨w.heap.size + 1, 0, none⟩)), isV (.pointer (some ⟨w.heap.size + 1, 0, none⟩)), isV (.agg #[.int .i64 f.of_.of_.keeper, .string f.of_.of_.name]), isV (.agg #[.string c.name, .string c.super, .slice Ac c.fields.length cc, .slice Am c.methods.length cm]), isV (.slice Am c.methods.length cm), isV (.int .i64 c.methods.length), isV (.int .i64 ((c.methods.length : Int) - 1)), isV (.bool true), isV (.bool false), isV (.bool false)] [false, false, false, false, false, false, false, false, false, false, false, false, false, false, false, false, false, false, false, false, false] [true, true, true, true, true, true, true, true, true, true, true, true, true, true, true, true, true, true, true, true, true] 0 (fun _ W => Fr No wA W) (fun _ _ => False) (by kernel_rfl) (by kernel_rfl) ?_ ?_ ?_ ?_ ?_ (by decide) ?_ ?_ ?_ ?_ ?_
      · intro o ho d hd; simp only [List.mem_cons, List.not_mem_nil, or_false] at ho; rcases ho with rfl | rfl | rfl | rfl | rfl | rfl | rfl | rfl | rfl | rfl | rfl | rfl | rfl | rfl | rfl | rfl | rfl | rfl | rfl | rfl | rfl <;> (cases hd <;> simp)
      · intro x hx
        simp only [List.mem_cons, List.not_mem_nil, or_false] at hx
        rcases hx with rfl | rfl | rfl | rfl | rfl | rfl | rfl | rfl | rfl | rfl | rfl | rfl | rfl | rfl | rfl | rfl | rfl | rfl | rfl | rfl | rfl
        · exact isV_mono _
        · exact isV_mono _
        · exact isV_mono _
        · exact isV_mono _
        · exact isV_mono _
        · exact isV_mono _
        · exact isV_mono _
        · exact isV_mono _
        · exact isV_mono _
        · exact isV_mono _
        · exact isV_mono _
        · exact isV_mono _
        · exact isV_mono _
        · exact isV_mono _
        · exact isV_mono _
        · exact isV_mono _
        · exact isV_mono _
        · exact isV_mono _
        · exact isV_mono _
        · exact isV_mono _
        · exact isV_mono _
      · intro x hx v W W' h hs
        simp only [List.mem_cons, List.not_mem_nil, or_false] at hx
        rcases hx with rfl | rfl | rfl | rfl | rfl | rfl | rfl | rfl | rfl | rfl | rfl | rfl | rfl | rfl | rfl | rfl | rfl | rfl | rfl | rfl | rfl
        · exact h
        · exact h
        · exact h
        · exact h
        · exact h
        · exact h
        · exact h
        · exact h
        · exact h
        · exact h
        · exact h
        · exact h
        · exact h
        · exact h
        · exact h
        · exact h
        · exact h
        · exact h
        · exact h
        · exact h
        · exact h
      · exact fun _ _ _ h hf => h.trans0 hf
      · intro k o ho
        rcases k with _ | _ | _ | _ | _ | _ | _ | _ | _ | _ | _ | _ | _ | _ | _ | _ | _ | _ | _ | _ | _ | k
        all_goals (first | (simp at ho; done) | skip)
        all_goals simp only [List.getElem?_cons_zero, List.getElem?_cons_succ, Option.some.injEq] at ho
        all_goals subst ho
        all_goals refine ⟨fun h => ?_, fun g b h v W hv => ?_⟩
        all_goals first | rfl | (cases h; done) | (cases h; obtain rfl : v = Value.bool _ := hv; rfl)
      · intro k hk h W; exfalso; revert h; revert hk; revert k; decide
      · exact (Fr.refl _ _).drew
      · intro k o ho hu hg a' W jc hjc hW0 hoff hdep
        have hW := hG jc _ hW0
        have hbs := hGs _ hW
        have H3 := hoff 3 (by simp)
        have H4 := hoff 4 (by simp)
        simp only [Act.eval] at H3 H4
        rcases k with _ | _ | _ | _ | _ | _ | _ | _ | _ | _ | _ | _ | _ | _ | _ | _ | _ | _ | _ | _ | _ | k
        all_goals (first | (simp at ho; done) | skip)
        all_goals (first | (exact absurd hu (by decide)) | skip)
        all_goals (first | (exact absurd hg (by decide)) | skip)
        all_goals simp only [List.getElem?_cons_zero, List.getElem?_cons_succ, Option.some.injEq] at ho
        all_goals subst ho
        · unfold opGives
          simp [execOp, Act.eval, go_sem, givesUpon, *]
          exact ⟨Fr.refl _ _, rfl⟩
        · unfold opGives
          simp [execOp, Act.eval, H4, go_sem, givesUpon]
          exact ⟨Fr.refl _ _, rfl⟩
        · have D9 : a'.eval (.tmp 9) = .pointer (some ⟨w.heap.size + 1, 0, none⟩) := hdep ⟨1, .data⟩ (by simp) rfl _ 9 rfl rfl
          simp only [Act.eval] at D9
          unfold opGives
          simp [execOp, Act.eval, D9, go_sem, givesUpon]
          exact ⟨Fr.refl _ _, rfl⟩
        · have D10 : a'.eval (.tmp 10) = .pointer (some ⟨w.heap.size + 1, 0, none⟩) := hdep ⟨2, .data⟩ (by simp) rfl _ 10 rfl rfl
          simp only [Act.eval] at D10
          unfold opGives
          simp [execOp, Act.eval, go_sem, givesUpon, *]
          exact ⟨Fr.refl _ _, rfl⟩
        · have D8 : a'.eval (.tmp 8) = .agg #[.slice Ap p.keepers.length cp] := hdep ⟨0, .data⟩ (by simp) rfl _ 8 rfl rfl
          have D11 : a'.eval (.tmp 11) = .agg #[.int .i64 f.of_.of_.keeper, .string f.of_.of_.name] := hdep ⟨3, .data⟩ (by simp) rfl _ 11 rfl rfl
          simp only [Act.eval] at D8 D11
          unfold opGives
          simp [Act.eval, D8, D11, go_sem, givesUpon]
          exact (HC _ hW).mono fun e w' h => ⟨_, h.1, h.2, rfl⟩
        · have D12 : a'.eval (.tmp 12) = .bool true := hdep ⟨4, .data⟩ (by simp) rfl _ 12 rfl rfl
          simp only [Act.eval] at D12
          unfold opGives
          simp [execOp, Act.eval, D12, go_sem, givesUpon]
          exact ⟨Fr.refl _ _, rfl⟩
        · have D13 : a'.eval (.tmp 13) = .bool false := hdep ⟨5, .data⟩ (by simp) rfl _ 13 rfl rfl
          simp only [Act.eval] at D13
          unfold opGives
          simp [execOp, Act.eval, D13, go_sem, givesUpon]
          exact ⟨Fr.refl _ _, rfl⟩
        · unfold opGives
          simp [execOp, Act.eval, H4, go_sem, givesUpon]
          exact ⟨Fr.refl _ _, rfl⟩
        · have D15 : a'.eval (.tmp 15) = .pointer (some ⟨w.heap.size + 1, 0, none⟩) := hdep ⟨7, .data⟩ (by simp) rfl _ 15 rfl rfl
          simp only [Act.eval] at D15
          unfold opGives
          simp [execOp, Act.eval, D15, go_sem, givesUpon]
          exact ⟨Fr.refl _ _, rfl⟩
        · have D16 : a'.eval (.tmp 16) = .pointer (some ⟨w.heap.size + 1, 2, none⟩) := hdep ⟨8, .data⟩ (by simp) rfl _ 16 rfl rfl
          simp only [Act.eval] at D16
          unfold opGives
          simp [execOp, Act.eval, go_sem, givesUpon, *]
          exact ⟨Fr.refl _ _, rfl⟩
        · unfold opGives
          simp [execOp, Act.eval, go_sem, givesUpon, *]
          exact ⟨Fr.refl _ _, rfl⟩
        · unfold opGives
          simp [execOp, Act.eval, H4, go_sem, givesUpon]
          exact ⟨Fr.refl _ _, rfl⟩
        · have D19 : a'.eval (.tmp 19) = .pointer (some ⟨w.heap.size + 1, 0, none⟩) := hdep ⟨11, .data⟩ (by simp) rfl _ 19 rfl rfl
          simp only [Act.eval] at D19
          unfold opGives
          simp [execOp, Act.eval, D19, go_sem, givesUpon]
          exact ⟨Fr.refl _ _, rfl⟩
        · have D20 : a'.eval (.tmp 20) = .pointer (some ⟨w.heap.size + 1, 0, none⟩) := hdep ⟨12, .data⟩ (by simp) rfl _ 20 rfl rfl
          simp only [Act.eval] at D20
          unfold opGives
          simp [execOp, Act.eval, go_sem, givesUpon, *]
          exact ⟨Fr.refl _ _, rfl⟩
        · have D18 : a'.eval (.tmp 18) = .agg #[.slice Ap p.keepers.length cp] := hdep ⟨10, .data⟩ (by simp) rfl _ 18 rfl rfl
          have D21 : a'.eval (.tmp 21) = .agg #[.int .i64 f.of_.of_.keeper, .string f.of_.of_.name] := hdep ⟨13, .data⟩ (by simp) rfl _ 21 rfl rfl
          simp only [Act.eval] at D18 D21
          unfold opGives
          simp [Act.eval, D18, D21, go_sem, givesUpon]
          exact (HCl _ hW).mono fun e w' h => ⟨_, h.1, h.2, rfl⟩
        · have D22 : a'.eval (.tmp 22) = .agg #[.string c.name, .string c.super, .slice Ac c.fields.length cc, .slice Am c.methods.length cm] := hdep ⟨14, .data⟩ (by simp) rfl _ 22 rfl rfl
          simp only [Act.eval] at D22
          unfold opGives
          simp [execOp, Act.eval, D22, go_sem, givesUpon]
          exact ⟨Fr.refl _ _, rfl⟩
        · have D23 : a'.eval (.tmp 23) = .slice Am c.methods.length cm := hdep ⟨15, .data⟩ (by simp) rfl _ 23 rfl rfl
          simp only [Act.eval] at D23
          unfold opGives
          simp [Act.eval, D23, go_sem, givesUpon]
          exact ⟨Fr.refl _ _, rfl⟩
        · have D24 : a'.eval (.tmp 24) = .int .i64 c.methods.length := hdep ⟨16, .data⟩ (by simp) rfl _ 24 rfl rfl
          simp only [Act.eval] at D24
          unfold opGives
          simp [execOp, Act.eval, D24, go_sem, givesUpon]
          exact ⟨Fr.refl _ _, by unfold isV; refine congrArg _ ?_; simp [IntKind.wrap, IntKind.signed, IntKind.bits]; omega⟩
        · have D17 : a'.eval (.tmp 17) = .int .i64 f.of_.at_ := hdep ⟨9, .data⟩ (by simp) rfl _ 17 rfl rfl
          have D25 : a'.eval (.tmp 25) = .int .i64 ((c.methods.length : Int) - 1) := hdep ⟨17, .data⟩ (by simp) rfl _ 25 rfl rfl
          simp only [Act.eval] at D17 D25
          unfold opGives
          simp [Act.eval, D17, D25, go_sem, givesUpon]
          exact (HI _).mono fun e w' h => ⟨_, h.1, by rw [← h.2]; exact Fr.refl _ _, rfl⟩
        · have D26 : a'.eval (.tmp 26) = .bool true := hdep ⟨18, .data⟩ (by simp) rfl _ 26 rfl rfl
          simp only [Act.eval] at D26
          unfold opGives
          simp [execOp, Act.eval, D26, go_sem, givesUpon]
          exact ⟨Fr.refl _ _, rfl⟩
        · have D14 : a'.eval (.tmp 14) = .bool false := hdep ⟨6, .data⟩ (by simp) rfl _ 14 rfl rfl
          have D27 : a'.eval (.tmp 27) = .bool false := hdep ⟨19, .data⟩ (by simp) rfl _ 27 rfl rfl
          simp only [Act.eval] at D14 D27
          unfold opGives
          simp [execOp, Act.eval, go_sem, givesUpon, D14, D27]
          exact ⟨Fr.refl _ _, rfl⟩
      · intro k o ho hu a' W jc hjc hW0 hoff hdep
        have hW := hG jc _ hW0
        have hbs := hGs _ hW
        have H3 := hoff 3 (by simp)
        have H4 := hoff 4 (by simp)
        simp only [Act.eval] at H3 H4
        rcases k with _ | _ | _ | _ | _ | _ | _ | _ | _ | _ | _ | _ | _ | _ | _ | _ | _ | _ | _ | _ | _ | k
        all_goals (first | (simp at ho; done) | skip)
        all_goals (first | (exact absurd hu (by decide)) | skip)
        all_goals simp only [List.getElem?_cons_zero, List.getElem?_cons_succ, Option.some.injEq] at ho
        all_goals subst ho
        all_goals (first | done | (simp at ho; done))
      intro vs WR hWR hv
      have e0 : vs 0 = _ := hv 0 (by decide)
      have e1 : vs 1 = _ := hv 1 (by decide)
      have e2 : vs 2 = _ := hv 2 (by decide)
      have e3 : vs 3 = _ := hv 3 (by decide)
      have e4 : vs 4 = _ := hv 4 (by decide)
      have e5 : vs 5 = _ := hv 5 (by decide)
      have e6 : vs 6 = _ := hv 6 (by decide)
      have e7 : vs 7 = _ := hv 7 (by decide)
      have e8 : vs 8 = _ := hv 8 (by decide)
      have e9 : vs 9 = _ := hv 9 (by decide)
      have e10 : vs 10 = _ := hv 10 (by decide)
      have e11 : vs 11 = _ := hv 11 (by decide)
      have e12 : vs 12 = _ := hv 12 (by decide)
      have e13 : vs 13 = _ := hv 13 (by decide)
      have e14 : vs 14 = _ := hv 14 (by decide)
      have e15 : vs 15 = _ := hv 15 (by decide)
      have e16 : vs 16 = _ := hv 16 (by decide)
      have e17 : vs 17 = _ := hv 17 (by decide)
      have e18 : vs 18 = _ := hv 18 (by decide)
      have e19 : vs 19 = _ := hv 19 (by decide)
      have e20 : vs 20 = _ := hv 20 (by decide)
      simp only [putsL, if_true, Nat.zero_add, Nat.reduceAdd, e0, e1, e2, e3, e4, e5, e6, e7, e8, e9, e10, e11, e12, e13, e14, e15, e16, e17, e18, e19, e20]
      simp only [Act.put, List.setIfInBounds_toArray, List.set_cons_zero, List.set_cons_succ]
      clear e0 e1 e2 e3 e4 e5 e6 e7 e8 e9 e10 e11 e12 e13 e14 e15 e16 e17 e18 e19 e20 hv
      have hf9 := hWR
      obtain ⟨w9, hw9⟩ : ∃ w9, w9 = WR := ⟨_, rfl⟩
      rw [← hw9] at hf9 ⊢
      clear hw9 hWR
      obtain ⟨y0, y1, y2, y3, y4, y5, yf, yl⟩ := KF w9 hf9
      obtain ⟨yp, ypf, ypl⟩ := KP w9 hf9
      clear HC HCl HI
      go_wp2_with fail
      refine (HMt _ hf9).mono ?_
      rintro e w10 ⟨rfl, hf10⟩
      have q10 : Fr No wA w10 := hf9.trans0 hf10
      obtain ⟨z0, z1, z2, z3, z4, z5, zf, zl⟩ := KF w10 q10
      clear y0 y1 y2 y3 y4 y5 yf yl yp ypf ypl HMt KP
      rcases hcase with g | ⟨g, g4⟩ | ⟨g, g4, g5⟩ | ⟨g, g4, g5⟩
      · have hE := hno (by rcases Classical.em (0 ≤ f.pc) with h | h; exact .inr (.inr (.inl (by omega))); exact .inr (.inl (by omega)))
        rw [decide_eq_false g] at HP
        clear hno hyes
        go_wp2_with (go_at_call 47; refine (HP _).mono ?_; rintro e w2 ⟨rfl, rfl⟩)
        go_ret
        exact .mk hE.out.symm (hfA.trans0 (by have := q10; exact frc))
      · have hE := hno (.inr (.inr (.inr (.inl g4))))
        rw [decide_eq_true g] at HP
        clear hno hyes
        have hb : ((f.locals.length : Int) == m.locals) = false := by simpa using g4
        go_wp2_with (go_at_call 47; refine (HP _).mono ?_; rintro e w2 ⟨rfl, rfl⟩)
        go_ret
        exact .mk hE.out.symm (hfA.trans0 (by have := q10; exact frc))
      · have hE := hno (.inr (.inr (.inr (.inr (.inl g5)))))
        rw [decide_eq_true g] at HP
        replace g4 := g4.symm
        clear hno hyes
        go_wp2_with (go_at_call 47; refine (HP _).mono ?_; rintro e w2 ⟨rfl, rfl⟩)
        go_ret
        exact .mk hE.out.symm (hfA.trans0 (by have := q10; exact frc))
      · rw [decide_eq_true g] at HP
        have hyes := hyes g.1 g.2 g4 g5
        replace g4 := g4.symm
        cases h6 : f.locals.all (valB many)
        · have hE := hno (.inr (.inr (.inr (.inr (.inr (.inl h6))))))
          rw [h6] at HVl
          clear hno hyes h6
          go_wp2_with (first
            | (go_at_call 47; refine (HP _).mono ?_; rintro e w2 ⟨rfl, rfl⟩)
            | (go_at_call_of 105 (Value.slice Al f.locals.length cl); refine (HVl _ (by have := q10; exact frc)).mono ?_; rintro e w3 ⟨rfl, hf3⟩))
          go_ret
          exact .mk hE.out.symm (hfA.trans0 (by have := q10; exact frc))
        · rw [h6] at HVl
          cases h7 : f.stack.all (valB many)
          · have hE := hno (.inr (.inr (.inr (.inr (.inr (.inr h7))))))
            rw [h7] at HVs
            clear hno hyes h6 h7
            go_wp2_with (first
              | (go_at_call 47; refine (HP _).mono ?_; rintro e w2 ⟨rfl, rfl⟩)
              | (go_at_call_of 105 (Value.slice Al f.locals.length cl); refine (HVl _ (by have := q10; exact frc)).mono ?_; rintro e w3 ⟨rfl, hf3⟩; have q3 : Fr No wA w3 := (by have := q10; exact frc); obtain ⟨u0, u1, u2, u3, u4, u5, uf, ul⟩ := KF w3 q3)
              | (go_at_call 105; refine (HVs _ q3).mono ?_; rintro e w4 ⟨rfl, hf4⟩))
            go_ret
            exact .mk hE.out.symm (hfA.trans0 (q3.trans0 hf4))
          · have hE := hyes h6 h7
            rw [h7] at HVs
            clear hno hyes h6 h7
            go_wp2_with (first
              | (go_at_call 47; refine (HP _).mono ?_; rintro e w2 ⟨rfl, rfl⟩)
              | (go_at_call_of 105 (Value.slice Al f.locals.length cl); refine (HVl _ (by have := q10; exact frc)).mono ?_; rintro e w3 ⟨rfl, hf3⟩; have q3 : Fr No wA w3 := (by have := q10; exact frc); obtain ⟨u0, u1, u2, u3, u4, u5, uf, ul⟩ := KF w3 q3)
              | (go_at_call 105; refine (HVs _ q3).mono ?_; rintro e w4 ⟨rfl, hf4⟩))
            go_ret
            exact .mk hE.out.symm (hfA.trans0 (q3.trans0 hf4))
end Go.Proofs.YthdibgikjekneaaGreat

/- The reference's VmOk. -/
namespace Go.Proofs.YthdibgikjekneaaGreat
open Go.RowKit

set_option maxRecDepth 100000 in
set_option maxHeartbeats 8000000 in
theorem s_vmOk (X Y : Nat → Prop) (p : Plan) (pv : Value) (s : St) (cs : List Value) (w : World) (h : Sl Y w 2 (KprC Y w) pv p.keepers) (hs : StC X w cs s) :
    Calls Tryz.prog 32 #[.agg #[pv], .agg cs.toArray] w (BoolFr (stS p s) w) := by
  obtain ⟨vf, vh, vo, rfl, hf, hh, ho⟩ := hs
  obtain ⟨Af, cf, rfl, _, hfl⟩ := hf.form
  obtain ⟨Ah, ch, rfl, _, hhl⟩ := hh.form
  obtain ⟨Ao, co, rfl, _, hol⟩ := ho.form
  obtain ⟨Ap, cp, rfl, _, _⟩ := h.form
  have hhm := Lib.hid hhl
  unfold maxLen at hfl hhl hol
  obtain ⟨wA, hwA⟩ : ∃ wA, wA = (w.alloc (.cells #[.slice Ap p.keepers.length cp] 32)).alloc (.cells #[.int .i64 s.status, .slice Af s.frames.length cf, .slice Ah s.heap.length ch, .slice Ao s.outs.length co, .int .i64 s.back.kind, .int .i64 s.back.n] 71) := ⟨_, rfl⟩
  have hfA : Fr No w wA := hwA ▸ frc
  have KP := (hwA ▸ bxc : Bx wA w.heap.size 32 #[.slice Ap p.keepers.length cp]).r1
  have KF := (hwA ▸ bxc : Bx wA (w.heap.size + 1) 71 #[.int .i64 s.status, .slice Af s.frames.length cf, .slice Ah s.heap.length ch, .slice Ao s.outs.length co, .int .i64 s.back.kind, .int .i64 s.back.n]).r6
  have hpw := fun W (hW : Fr No wA W) => h.keep (R' := KprC Y W) (hfA.trans0 hW) (fun _ h => h.elim) (fun _ _ _ h => h.keep (hfA.trans0 hW) (fun _ h => h.elim))
  have hfw := fun W (hW : Fr No wA W) => hf.keep (R' := FrmC X W) (hfA.trans0 hW) (fun _ h => h.elim) (fun _ _ _ h => h.keep (hfA.trans0 hW) (fun _ h => h.elim))
  have hhw := fun W (hW : Fr No wA W) => hh.keep (R' := ObjC X W) (hfA.trans0 hW) (fun _ h => h.elim) (fun _ _ _ h => h.keep (hfA.trans0 hW) (fun _ h => h.elim))
  have how := fun W (hW : Fr No wA W) => ho.keep (R' := OutC) (hfA.trans0 hW) (fun _ h => h.elim) (fun _ _ _ h => h)
  have HL := fun W (hW : Fr No wA W) => s_lodok Y p _ W (hpw W hW)
  have HS := fun W => s_l1In s.status 1 10 W
  have HV := fun W => s_val s.back s.heap.length W hhm.out
  obtain ⟨V, hV⟩ : ∃ V, V = stS p s := ⟨_, rfl⟩
  rw [← hV]
  unfold stS at hV
  clear hf hh ho h
  cases hp : lodB p
  · rw [hp] at HL hV
    have hE : Hid (V = false) := by rw [hV]; rfl
    clear hV hpw hfw hhw how
    obtain ⟨yp, _, ypl⟩ := KP _ (Fr.refl _ _)
    go_enter Tryz.func32, Tryz.ntmps32
    go_wp2_with fail
    rw [← hwA]
    replace hwA := Lib.hid hwA
    refine (HL _ (Fr.refl _ _)).mono ?_
    rintro e w1 ⟨rfl, hf1⟩
    clear yp ypl
    go_wp2
    go_ret
    exact .mk hE.out.symm (hfA.trans0 hf1)
  rw [hp, Bool.true_and] at hV
  rw [hp] at HL
  replace hV := Lib.hid hV
  have HH := fun W (hW : Fr No wA W) => s_heap X Y p _ _ s.heap W hp (hpw W hW) (hhw W hW)
  have hno := fun g => Lib.hid (hV.out.trans (stB_no (p := p) (s := s) g))
  have hyes := fun g1 g2 g3 g4 g5 g6 g7 g8 g9 g10 => Lib.hid (hV.out.trans (stB_yes (p := p) (s := s) g1 g2 g3 g4 g5 g6 g7 g8 g9 g10))
  -- the first that is not so
  have hst : (decide (1 ≤ s.status) && decide (s.status ≤ 10)) = true ∨ ((decide (1 ≤ s.status) && decide (s.status ≤ 10)) = false ∧ (s.status < 1 ∨ 10 < s.status)) := by
    by_cases h1 : 1 ≤ s.status
    · by_cases h2 : s.status ≤ 10
      · exact .inl (by simp [h1, h2])
      · exact .inr ⟨by simp [h2], .inr (by omega)⟩
    · exact .inr ⟨by simp [h1], .inl (by omega)⟩
  have hall : (∃ b, (decide (1 ≤ s.status) && decide (s.status ≤ 10)) = b ∧ (b = false → (s.status < 1 ∨ 10 < s.status)) ∧ (b = true → 1 ≤ s.status ∧ s.status ≤ 10)) := by
    refine ⟨_, rfl, fun h => ?_, fun h => by simpa using h⟩
    rcases hst with h9 | h9
    · rw [h] at h9; cases h9
    · exact h9.2
  obtain ⟨bS, hbS, hS0, hS1⟩ := hall
  rw [hbS] at HS
  clear hst hbS
  have hsb : s.status = 1 ∨ (s.status == 1) = false := by rcases Classical.em (s.status = 1) with h | h; exact .inl h; exact .inr (by simpa using h)
  have hcase : bS = false ∨ (bS = true ∧ heapB p s.heap = false) ∨ (bS = true ∧ heapB p s.heap = true ∧ 8 < s.frames.length) ∨ (bS = true ∧ heapB p s.heap = true ∧ s.frames.length ≤ 8 ∧ 40 < s.outs.length) ∨ (bS = true ∧ heapB p s.heap = true ∧ (s.frames.length ≤ 8 ∧ s.outs.length ≤ 40) ∧ valB s.heap.length s.back = false) ∨
      (bS = true ∧ heapB p s.heap = true ∧ (s.frames.length ≤ 8 ∧ s.outs.length ≤ 40) ∧ valB s.heap.length s.back = true) := by
    cases bS <;> cases heapB p s.heap <;> cases valB s.heap.length s.back <;> simp <;> omega
  have hh12 : heapB p s.heap = true → s.heap.length ≤ 12 := fun h => by
    unfold heapB at h
    simp only [Bool.and_eq_true, decide_eq_true_eq] at h
    exact h.1
  obtain ⟨zp, _, zlp⟩ := KP _ (Fr.refl _ _)
  obtain ⟨z0, z1, z2, z3, z4, z5, _, zl⟩ := KF _ (Fr.refl _ _)
  rcases hcase with g1 | ⟨g1, g2⟩ | ⟨g1, g2, g3⟩ | ⟨g1, g2, g3, g4⟩ | ⟨g1, g2, ⟨g3, g4⟩, g5⟩ | ⟨g1, g2, ⟨g3, g4⟩, g5⟩
  · have hE := hno (by rcases hS0 g1 with h | h; exact .inl h; exact .inr (.inl h))
    rw [g1] at HS
    clear hno hyes hpw hfw hhw how hsb hS0 hS1 hh12
    go_enter Tryz.func32, Tryz.ntmps32
    go_wp2_with fail
    rw [← hwA]
    replace hwA := Lib.hid hwA
    refine (HL _ (Fr.refl _ _)).mono ?_
    rintro e w1 ⟨rfl, hf1⟩
    obtain ⟨y0, y1, y2, y3, y4, y5, _, yl⟩ := KF _ hf1
    go_wp2_with (go_at_call 47; refine (HS _).mono ?_; rintro e w' ⟨rfl, rfl⟩)
    go_ret
    exact .mk hE.out.symm (hfA.trans0 hf1)
  · have hE := hno (.inr (.inr (.inr (.inr (.inr (.inr (.inr (.inr (.inr (.inl g2))))))))))
    rw [g1] at HS
    rw [g2] at HH
    clear hno hyes hpw hfw hhw how hsb hS0 hS1 hh12
    go_enter Tryz.func32, Tryz.ntmps32
    go_wp2_with fail
    rw [← hwA]
    replace hwA := Lib.hid hwA
    refine (HL _ (Fr.refl _ _)).mono ?_
    rintro e w1 ⟨rfl, hf1⟩
    obtain ⟨y0, y1, y2, y3, y4, y5, _, yl⟩ := KF _ hf1
    obtain ⟨yp, _, ypl⟩ := KP _ hf1
    go_wp2_with (first
      | (go_at_call 47; refine (HS _).mono ?_; rintro e w' ⟨rfl, rfl⟩)
      | (go_at_call 55; refine (HH _ hf1).mono ?_; rintro e w2 ⟨rfl, hf2⟩))
    go_ret
    exact .mk hE.out.symm (hfA.trans0 (hf1.trans0 hf2))
  all_goals
    rw [g1] at HS
    rw [g2] at HH
    have g12 := hh12 g2
    have hs12 := hS1 g1
  · have hE := hno (.inr (.inr (.inr (.inr (.inl g3)))))
    clear hno hyes hpw hfw hhw how hsb hS0 hS1 hh12 hs12
    go_enter Tryz.func32, Tryz.ntmps32
    go_wp2_with fail
    rw [← hwA]
    replace hwA := Lib.hid hwA
    refine (HL _ (Fr.refl _ _)).mono ?_
    rintro e w1 ⟨rfl, hf1⟩
    obtain ⟨y0, y1, y2, y3, y4, y5, _, yl⟩ := KF _ hf1
    obtain ⟨yp, _, ypl⟩ := KP _ hf1
    go_wp2_with (first
      | (go_at_call 47; refine (HS _).mono ?_; rintro e w' ⟨rfl, rfl⟩)
      | (go_at_call 55; refine (HH _ hf1).mono ?_; rintro e w2 ⟨rfl, hf2⟩; obtain ⟨x0, x1, x2, x3, x4, x5, _, xl⟩ := KF _ (hf1.trans0 hf2)))
    go_ret
    exact .mk hE.out.symm (hfA.trans0 (hf1.trans0 hf2))
  · have hE := hno (.inr (.inr (.inr (.inl g4))))
    clear hno hyes hpw hfw hhw how hsb hS0 hS1 hh12 hs12
    go_enter Tryz.func32, Tryz.ntmps32
    go_wp2_with fail
    rw [← hwA]
    replace hwA := Lib.hid hwA
    refine (HL _ (Fr.refl _ _)).mono ?_
    rintro e w1 ⟨rfl, hf1⟩
    obtain ⟨y0, y1, y2, y3, y4, y5, _, yl⟩ := KF _ hf1
    obtain ⟨yp, _, ypl⟩ := KP _ hf1
    go_wp2_with (first
      | (go_at_call 47; refine (HS _).mono ?_; rintro e w' ⟨rfl, rfl⟩)
      | (go_at_call 55; refine (HH _ hf1).mono ?_; rintro e w2 ⟨rfl, hf2⟩; obtain ⟨x0, x1, x2, x3, x4, x5, _, xl⟩ := KF _ (hf1.trans0 hf2)))
    go_ret
    exact .mk hE.out.symm (hfA.trans0 (hf1.trans0 hf2))
  · have hE := hno (.inr (.inr (.inr (.inr (.inr (.inr (.inr (.inr (.inr (.inr g5))))))))))
    rw [g5] at HV
    clear hno hyes hpw hfw hhw how hsb hS0 hS1 hh12 hs12
    go_enter Tryz.func32, Tryz.ntmps32
    go_wp2_with fail
    rw [← hwA]
    replace hwA := Lib.hid hwA
    refine (HL _ (Fr.refl _ _)).mono ?_
    rintro e w1 ⟨rfl, hf1⟩
    obtain ⟨y0, y1, y2, y3, y4, y5, _, yl⟩ := KF _ hf1
    obtain ⟨yp, _, ypl⟩ := KP _ hf1
    go_wp2_with (first
      | (go_at_call 47; refine (HS _).mono ?_; rintro e w' ⟨rfl, rfl⟩)
      | (go_at_call 55; refine (HH _ hf1).mono ?_; rintro e w2 ⟨rfl, hf2⟩; obtain ⟨x0, x1, x2, x3, x4, x5, _, xl⟩ := KF _ (hf1.trans0 hf2))
      | (go_at_call 56; refine (HV _).mono ?_; rintro e w3 ⟨rfl, hf3⟩))
    go_ret
    exact .mk hE.out.symm (hfA.trans0 ((hf1.trans0 hf2).trans0 hf3))
  rw [g5] at HV
  have hcase : (s.frames.length = 0 ∧ s.status = 1) ∨ (0 < s.frames.length ∧ s.status ≠ 1) ∨ (0 < s.frames.length ∧ s.status = 1) ∨ (s.frames.length = 0 ∧ s.status ≠ 1) := by omega
  replace g1 := Lib.hid g1
  rcases hcase with ⟨k1, k2⟩ | ⟨k1, k2⟩ | ⟨k1, k2⟩ | ⟨k1, k2⟩
  · have hE := hno (.inr (.inr (.inr (.inr (.inr (.inr (.inl ⟨k1, k2⟩)))))))
    have hb1 : decide (0 < s.frames.length) = false := decide_eq_false (by omega)
    have hb2 : (s.status == 1) = true := by simpa using k2
    replace k1 := Lib.hid k1
    replace k2 := Lib.hid k2
    replace g2 := Lib.hid g2
    replace g5 := Lib.hid g5
    clear hno hyes hpw hfw hhw how hsb hS0 hS1 hh12 hs12
    go_enter Tryz.func32, Tryz.ntmps32
    go_wp2_with fail
    rw [← hwA]
    replace hwA := Lib.hid hwA
    refine (HL _ (Fr.refl _ _)).mono ?_
    rintro e w1 ⟨rfl, hf1⟩
    obtain ⟨y0, y1, y2, y3, y4, y5, _, yl⟩ := KF _ hf1
    obtain ⟨yp, _, ypl⟩ := KP _ hf1
    clear z0 z1 z2 z3 z4 z5 zl zp zlp
    go_wp2_with (first
      | (go_at_call 47; refine (HS _).mono ?_; rintro e w' ⟨rfl, rfl⟩)
      | (go_at_call 55; refine (HH _ hf1).mono ?_; rintro e w2 ⟨rfl, hf2⟩; obtain ⟨x0, x1, x2, x3, x4, x5, _, xl⟩ := KF _ (hf1.trans0 hf2))
      | (go_at_call 56; refine (HV _).mono ?_; rintro e w3 ⟨rfl, hf3⟩; obtain ⟨u0, u1, u2, u3, u4, u5, _, ul⟩ := KF _ ((hf1.trans0 hf2).trans0 hf3)))
    go_ret
    exact .mk hE.out.symm (hfA.trans0 ((hf1.trans0 hf2).trans0 hf3))
  · have hE := hno (.inr (.inr (.inr (.inr (.inr (.inl ⟨k1, k2⟩))))))
    have hb1 : decide (0 < s.frames.length) = true := decide_eq_true (by omega)
    have hb2 : (s.status == 1) = false := by simpa using k2
    replace k1 := Lib.hid k1
    replace k2 := Lib.hid k2
    replace g2 := Lib.hid g2
    replace g5 := Lib.hid g5
    clear hno hyes hpw hfw hhw how hsb hS0 hS1 hh12 hs12
    go_enter Tryz.func32, Tryz.ntmps32
    go_wp2_with fail
    rw [← hwA]
    replace hwA := Lib.hid hwA
    refine (HL _ (Fr.refl _ _)).mono ?_
    rintro e w1 ⟨rfl, hf1⟩
    obtain ⟨y0, y1, y2, y3, y4, y5, _, yl⟩ := KF _ hf1
    obtain ⟨yp, _, ypl⟩ := KP _ hf1
    clear z0 z1 z2 z3 z4 z5 zl zp zlp
    go_wp2_with (first
      | (go_at_call 47; refine (HS _).mono ?_; rintro e w' ⟨rfl, rfl⟩)
      | (go_at_call 55; refine (HH _ hf1).mono ?_; rintro e w2 ⟨rfl, hf2⟩; obtain ⟨x0, x1, x2, x3, x4, x5, _, xl⟩ := KF _ (hf1.trans0 hf2))
      | (go_at_call 56; refine (HV _).mono ?_; rintro e w3 ⟨rfl, hf3⟩; obtain ⟨u0, u1, u2, u3, u4, u5, _, ul⟩ := KF _ ((hf1.trans0 hf2).trans0 hf3)))
    go_ret
    exact .mk hE.out.symm (hfA.trans0 ((hf1.trans0 hf2).trans0 hf3))
  · have hyes := fun g7 g8 => hyes hs12.1 hs12.2 g12 g4 g3 (by omega) g7 g8 g2 g5
    have hno8 := fun h => hno (.inr (.inr (.inr (.inr (.inr (.inr (.inr (.inr (.inl h)))))))))
    have hno7 := fun h => hno (.inr (.inr (.inr (.inr (.inr (.inr (.inr (.inl h))))))))
    have hb1 : decide (0 < s.frames.length) = true := decide_eq_true (by omega)
    have hb2 : (s.status == 1) = true := by simpa using k2
    replace k1 := Lib.hid k1
    replace k2 := Lib.hid k2
    replace g2 := Lib.hid g2
    replace g5 := Lib.hid g5
    clear hno hhw hS0 hS1 hh12 hs12 hsb
    go_enter Tryz.func32, Tryz.ntmps32
    go_wp2_with fail
    rw [← hwA]
    replace hwA := Lib.hid hwA
    refine (HL _ (Fr.refl _ _)).mono ?_
    rintro e w1 ⟨rfl, hf1⟩
    obtain ⟨y0, y1, y2, y3, y4, y5, _, yl⟩ := KF _ hf1
    obtain ⟨yp, _, ypl⟩ := KP _ hf1
    clear z0 z1 z2 z3 z4 z5 zl zp zlp
    go_wp2_with (first
      | (go_at_call 47; refine (HS _).mono ?_; rintro e w' ⟨rfl, rfl⟩)
      | (go_at_call 55; refine (HH _ hf1).mono ?_; rintro e w2 ⟨rfl, hf2⟩; obtain ⟨x0, x1, x2, x3, x4, x5, _, xl⟩ := KF _ (hf1.trans0 hf2))
      | (go_at_call 56; refine (HV _).mono ?_; rintro e w3 ⟨rfl, hf3⟩; obtain ⟨u0, u1, u2, u3, u4, u5, _, ul⟩ := KF _ ((hf1.trans0 hf2).trans0 hf3)))
    have q3 : Fr No wA w3 := (hf1.trans0 hf2).trans0 hf3
    clear y0 y1 y2 y3 y4 y5 yl yp ypl x0 x1 x2 x3 x4 x5 xl u0 u1 u2 u3 u4 u5 ul HL HS HH HV hf1 hf2 hf3
    go_loopw [5] (fun i wr => ∃ j : Nat, j ≤ s.frames.length ∧ i = .int .i64 j ∧ Hid ((s.frames.take j).all (frmB p s.heap.length) = true) ∧ Fr No wA wr) (fun i _ => s.frames.length - (intOf i).toNat)
    case atStart => exact ⟨0, Nat.zero_le _, rfl, by simp [Hid], q3⟩
    case round =>
      obtain ⟨j, hj, rfl, hnn, hq⟩ := hrel
      obtain ⟨y0, y1, y2, y3, y4, y5, _, yl⟩ := KF _ hq
      by_cases hlt : j < s.frames.length
      · obtain ⟨b, bf, Al, cl, As, cs, rfl, _, c0, c1, c2, c3, c4, c5, z0, hl1, hs1, _, hll, _, hsl⟩ := (hfw wr hq).frm hlt
        have hy := fun h => Lib.hid (allB_step (f := frmB p s.heap.length) hlt hnn.out h)
        have hno2 := fun h => hno8 (allB_no (f := frmB p s.heap.length) hlt h)
        have hjl : (j : Int) < (s.frames.length : Int) := by omega
        have KF' := fun W (h : Fr No wr W) => KF W (hq.trans0 h)
        have KP' := fun W (h : Fr No wr W) => KP W (hq.trans0 h)
        generalize hfj : s.frames[j] = f at *
        replace hfj := Lib.hid hfj
        have HF := fun W (hW : Fr No wr W) => s_frmok X Y p _ f [.int .i64 f.of_.of_.keeper, .string f.of_.of_.name, .int .i64 f.of_.at_, .int .i64 f.pc, .slice Al f.locals.length cl, .slice As f.stack.length cs] s.heap.length W hp (hpw W (hq.trans0 hW)) ⟨_, _, rfl, z0, hl1.keep hW (fun _ h => h.elim) (fun _ _ _ h => h), hs1.keep hW (fun _ h => h.elim) (fun _ _ _ h => h)⟩ hhm.out
        have c0 := cr c0
        have c1 := cr c1
        have c2 := cr c2
        have c3 := cr c3
        have c4 := cr c4
        have c5 := cr c5
        clear hl1 hs1 hnn hfw how
        cases hx : frmB p s.heap.length f
        · have hE := hno2 hx
          rw [hx] at HF
          clear hx hy hno2 hno7 hno8 hyes hpw KP KF
          go_wp2_with fail
          clear y0 y1 y2 y3 y4 y5 yl
          (refine wp_region_fr (X := No) (by kernel_rfl) (by kernel_rfl) ?_)
          (repeat (first | (go_big_quiet_skip; (try simp only [Act.put, List.setIfInBounds_toArray, List.set_cons_zero, List.set_cons_succ])) | (go_big_quiet_want; (apply Exists.intro; refine ⟨fun W hW => ?_, ?_⟩); (focus (go_simp; (try simp only [↓IntWalk.iteOmega]); (try simp only [reduceIte]); first | done | exact rfl | exact ⟨trivial, rfl⟩ | exact ⟨rfl, rfl⟩ | (go_at_call 68; exact (HF W hW).mono (fun _ _ h => ⟨h.1, hW.trans0 h.2⟩)))); go_big_quiet_on; (try simp only [Act.put, List.setIfInBounds_toArray, List.set_cons_zero, List.set_cons_succ])))); refine wpQuiet_nil ?_
          intro w9 hf9
          clear c0 c1 c2 c3 c4 c5 KF' KP' HF
          go_wp2
          go_ret
          exact .mk hE.out.symm (hfA.trans0 (hq.trans0 hf9))
        · have hy := hy hx
          rw [hx] at HF
          clear hx hno2 hno7 hno8 hyes hpw KP KF
          go_wp2_with fail
          clear y0 y1 y2 y3 y4 y5 yl
          (refine wp_region_fr (X := No) (by kernel_rfl) (by kernel_rfl) ?_)
          (repeat (first | (go_big_quiet_skip; (try simp only [Act.put, List.setIfInBounds_toArray, List.set_cons_zero, List.set_cons_succ])) | (go_big_quiet_want; (apply Exists.intro; refine ⟨fun W hW => ?_, ?_⟩); (focus (go_simp; (try simp only [↓IntWalk.iteOmega]); (try simp only [reduceIte]); first | done | exact rfl | exact ⟨trivial, rfl⟩ | exact ⟨rfl, rfl⟩ | (go_at_call 68; exact (HF W hW).mono (fun _ _ h => ⟨h.1, hW.trans0 h.2⟩)))); go_big_quiet_on; (try simp only [Act.put, List.setIfInBounds_toArray, List.set_cons_zero, List.set_cons_succ])))); refine wpQuiet_nil ?_
          intro w9 hf9
          clear c0 c1 c2 c3 c4 c5 KF' KP' HF
          go_wp2
          go_roundw
          case rel => exact ⟨j + 1, by omega, by go_num, hy, hq.trans0 hf9⟩
          case measure => simp [intOf]; omega
      · have h8 : s.frames.all (frmB p s.heap.length) = true := allB_yes (by omega) hnn.out
        have hyes := fun h7 => hyes h7 h8
        clear h8 hnn hfw hno8 hpw
        go_wp2_with fail
        clear y0 y1 y2 y3 y4 y5 yl
        go_loopw [6] (fun i wr => ∃ j : Nat, j ≤ s.outs.length ∧ i = .int .i64 j ∧ Hid ((s.outs.take j).all numB = true) ∧ Fr No wA wr) (fun i _ => s.outs.length - (intOf i).toNat)
        case atStart => exact ⟨0, Nat.zero_le _, rfl, by simp [Hid], hq⟩
        case round =>
          obtain ⟨j2, hj2, rfl, hnn, hq2⟩ := hrel
          obtain ⟨y0, y1, y2, y3, y4, y5, _, yl⟩ := KF _ hq2
          by_cases hlt : j2 < s.outs.length
          · obtain ⟨b, bf, rfl, _, c0⟩ := (how wr hq2).num hlt
            have HN := fun W => s_l1In s.outs[j2] (-9999) 9999 W
            have hnb : (decide (-9999 ≤ s.outs[j2]) && decide (s.outs[j2] ≤ 9999)) = numB s.outs[j2] := rfl
            rw [hnb] at HN
            have hy := fun h => Lib.hid (allB_step (f := numB) hlt hnn.out h)
            have hno2 := fun h => hno7 (allB_no (f := numB) hlt h)
            clear how hnn hnb
            generalize s.outs[j2] = x at *
            cases hx : numB x
            · have hE := hno2 hx
              rw [hx] at HN
              clear hx hy hno2 hno7 hyes
              go_wp2_with (go_at_call 47; refine (HN _).mono ?_; rintro e w' ⟨rfl, rfl⟩)
              go_ret
              exact .mk hE.out.symm (hfA.trans0 hq2)
            · have hy := hy hx
              rw [hx] at HN
              clear hx hno2 hno7 hyes
              go_wp2_with (go_at_call 47; refine (HN _).mono ?_; rintro e w' ⟨rfl, rfl⟩)
              go_roundw
              case rel => exact ⟨j2 + 1, by omega, by go_num, hy, hq2⟩
              case measure => simp [intOf]; omega
          · have hE := hyes (allB_yes (by omega) hnn.out)
            clear how hnn hno7 hyes
            go_wp2
            go_ret
            exact .mk hE.out.symm (hfA.trans0 hq2)
  · have hyes := fun g7 g8 => hyes hs12.1 hs12.2 g12 g4 g3 (by omega) g7 g8 g2 g5
    have hno8 := fun h => hno (.inr (.inr (.inr (.inr (.inr (.inr (.inr (.inr (.inl h)))))))))
    have hno7 := fun h => hno (.inr (.inr (.inr (.inr (.inr (.inr (.inr (.inl h))))))))
    have hb1 : decide (0 < s.frames.length) = false := decide_eq_false (by omega)
    have hb2 : (s.status == 1) = false := by simpa using k2
    replace k1 := Lib.hid k1
    replace k2 := Lib.hid k2
    replace g2 := Lib.hid g2
    replace g5 := Lib.hid g5
    clear hno hhw hS0 hS1 hh12 hs12 hsb
    go_enter Tryz.func32, Tryz.ntmps32
    go_wp2_with fail
    rw [← hwA]
    replace hwA := Lib.hid hwA
    refine (HL _ (Fr.refl _ _)).mono ?_
    rintro e w1 ⟨rfl, hf1⟩
    obtain ⟨y0, y1, y2, y3, y4, y5, _, yl⟩ := KF _ hf1
    obtain ⟨yp, _, ypl⟩ := KP _ hf1
    clear z0 z1 z2 z3 z4 z5 zl zp zlp
    go_wp2_with (first
      | (go_at_call 47; refine (HS _).mono ?_; rintro e w' ⟨rfl, rfl⟩)
      | (go_at_call 55; refine (HH _ hf1).mono ?_; rintro e w2 ⟨rfl, hf2⟩; obtain ⟨x0, x1, x2, x3, x4, x5, _, xl⟩ := KF _ (hf1.trans0 hf2))
      | (go_at_call 56; refine (HV _).mono ?_; rintro e w3 ⟨rfl, hf3⟩; obtain ⟨u0, u1, u2, u3, u4, u5, _, ul⟩ := KF _ ((hf1.trans0 hf2).trans0 hf3)))
    have q3 : Fr No wA w3 := (hf1.trans0 hf2).trans0 hf3
    clear y0 y1 y2 y3 y4 y5 yl yp ypl x0 x1 x2 x3 x4 x5 xl u0 u1 u2 u3 u4 u5 ul HL HS HH HV hf1 hf2 hf3
    go_loopw [5] (fun i wr => ∃ j : Nat, j ≤ s.frames.length ∧ i = .int .i64 j ∧ Hid ((s.frames.take j).all (frmB p s.heap.length) = true) ∧ Fr No wA wr) (fun i _ => s.frames.length - (intOf i).toNat)
    case atStart => exact ⟨0, Nat.zero_le _, rfl, by simp [Hid], q3⟩
    case round =>
      obtain ⟨j, hj, rfl, hnn, hq⟩ := hrel
      obtain ⟨y0, y1, y2, y3, y4, y5, _, yl⟩ := KF _ hq
      by_cases hlt : j < s.frames.length
      · obtain ⟨b, bf, Al, cl, As, cs, rfl, _, c0, c1, c2, c3, c4, c5, z0, hl1, hs1, _, hll, _, hsl⟩ := (hfw wr hq).frm hlt
        have hy := fun h => Lib.hid (allB_step (f := frmB p s.heap.length) hlt hnn.out h)
        have hno2 := fun h => hno8 (allB_no (f := frmB p s.heap.length) hlt h)
        have hjl : (j : Int) < (s.frames.length : Int) := by omega
        have KF' := fun W (h : Fr No wr W) => KF W (hq.trans0 h)
        have KP' := fun W (h : Fr No wr W) => KP W (hq.trans0 h)
        generalize hfj : s.frames[j] = f at *
        replace hfj := Lib.hid hfj
        have HF := fun W (hW : Fr No wr W) => s_frmok X Y p _ f [.int .i64 f.of_.of_.keeper, .string f.of_.of_.name, .int .i64 f.of_.at_, .int .i64 f.pc, .slice Al f.locals.length cl, .slice As f.stack.length cs] s.heap.length W hp (hpw W (hq.trans0 hW)) ⟨_, _, rfl, z0, hl1.keep hW (fun _ h => h.elim) (fun _ _ _ h => h), hs1.keep hW (fun _ h => h.elim) (fun _ _ _ h => h)⟩ hhm.out
        have c0 := cr c0
        have c1 := cr c1
        have c2 := cr c2
        have c3 := cr c3
        have c4 := cr c4
        have c5 := cr c5
        clear hl1 hs1 hnn hfw how
        cases hx : frmB p s.heap.length f
        · have hE := hno2 hx
          rw [hx] at HF
          clear hx hy hno2 hno7 hno8 hyes hpw KP KF
          go_wp2_with fail
          clear y0 y1 y2 y3 y4 y5 yl
          (refine wp_region_fr (X := No) (by kernel_rfl) (by kernel_rfl) ?_)
          (repeat (first | (go_big_quiet_skip; (try simp only [Act.put, List.setIfInBounds_toArray, List.set_cons_zero, List.set_cons_succ])) | (go_big_quiet_want; (apply Exists.intro; refine ⟨fun W hW => ?_, ?_⟩); (focus (go_simp; (try simp only [↓IntWalk.iteOmega]); (try simp only [reduceIte]); first | done | exact rfl | exact ⟨trivial, rfl⟩ | exact ⟨rfl, rfl⟩ | (go_at_call 68; exact (HF W hW).mono (fun _ _ h => ⟨h.1, hW.trans0 h.2⟩)))); go_big_quiet_on; (try simp only [Act.put, List.setIfInBounds_toArray, List.set_cons_zero, List.set_cons_succ])))); refine wpQuiet_nil ?_
          intro w9 hf9
          clear c0 c1 c2 c3 c4 c5 KF' KP' HF
          go_wp2
          go_ret
          exact .mk hE.out.symm (hfA.trans0 (hq.trans0 hf9))
        · have hy := hy hx
          rw [hx] at HF
          clear hx hno2 hno7 hno8 hyes hpw KP KF
          go_wp2_with fail
          clear y0 y1 y2 y3 y4 y5 yl
          (refine wp_region_fr (X := No) (by kernel_rfl) (by kernel_rfl) ?_)
          (repeat (first | (go_big_quiet_skip; (try simp only [Act.put, List.setIfInBounds_toArray, List.set_cons_zero, List.set_cons_succ])) | (go_big_quiet_want; (apply Exists.intro; refine ⟨fun W hW => ?_, ?_⟩); (focus (go_simp; (try simp only [↓IntWalk.iteOmega]); (try simp only [reduceIte]); first | done | exact rfl | exact ⟨trivial, rfl⟩ | exact ⟨rfl, rfl⟩ | (go_at_call 68; exact (HF W hW).mono (fun _ _ h => ⟨h.1, hW.trans0 h.2⟩)))); go_big_quiet_on; (try simp only [Act.put, List.setIfInBounds_toArray, List.set_cons_zero, List.set_cons_succ])))); refine wpQuiet_nil ?_
          intro w9 hf9
          clear c0 c1 c2 c3 c4 c5 KF' KP' HF
          go_wp2
          go_roundw
          case rel => exact ⟨j + 1, by omega, by go_num, hy, hq.trans0 hf9⟩
          case measure => simp [intOf]; omega
      · have h8 : s.frames.all (frmB p s.heap.length) = true := allB_yes (by omega) hnn.out
        have hyes := fun h7 => hyes h7 h8
        clear h8 hnn hfw hno8 hpw
        go_wp2_with fail
        clear y0 y1 y2 y3 y4 y5 yl
        go_loopw [6] (fun i wr => ∃ j : Nat, j ≤ s.outs.length ∧ i = .int .i64 j ∧ Hid ((s.outs.take j).all numB = true) ∧ Fr No wA wr) (fun i _ => s.outs.length - (intOf i).toNat)
        case atStart => exact ⟨0, Nat.zero_le _, rfl, by simp [Hid], hq⟩
        case round =>
          obtain ⟨j2, hj2, rfl, hnn, hq2⟩ := hrel
          obtain ⟨y0, y1, y2, y3, y4, y5, _, yl⟩ := KF _ hq2
          by_cases hlt : j2 < s.outs.length
          · obtain ⟨b, bf, rfl, _, c0⟩ := (how wr hq2).num hlt
            have HN := fun W => s_l1In s.outs[j2] (-9999) 9999 W
            have hnb : (decide (-9999 ≤ s.outs[j2]) && decide (s.outs[j2] ≤ 9999)) = numB s.outs[j2] := rfl
            rw [hnb] at HN
            have hy := fun h => Lib.hid (allB_step (f := numB) hlt hnn.out h)
            have hno2 := fun h => hno7 (allB_no (f := numB) hlt h)
            clear how hnn hnb
            generalize s.outs[j2] = x at *
            cases hx : numB x
            · have hE := hno2 hx
              rw [hx] at HN
              clear hx hy hno2 hno7 hyes
              go_wp2_with (go_at_call 47; refine (HN _).mono ?_; rintro e w' ⟨rfl, rfl⟩)
              go_ret
              exact .mk hE.out.symm (hfA.trans0 hq2)
            · have hy := hy hx
              rw [hx] at HN
              clear hx hno2 hno7 hyes
              go_wp2_with (go_at_call 47; refine (HN _).mono ?_; rintro e w' ⟨rfl, rfl⟩)
              go_roundw
              case rel => exact ⟨j2 + 1, by omega, by go_num, hy, hq2⟩
              case measure => simp [intOf]; omega
          · have hE := hyes (allB_yes (by omega) hnn.out)
            clear how hnn hno7 hyes
            go_wp2
            go_ret
            exact .mk hE.out.symm (hfA.trans0 hq2)
end Go.Proofs.YthdibgikjekneaaGreat
