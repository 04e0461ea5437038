/- The program's own machine: a thing is taken for one of a class. -/
import Derived.Test.YtbalicnnlfennaaGreatCK4
namespace Go.Proofs.YtbalicnnlfennaaGreat
open Go.RowKit

set_option maxRecDepth 100000 in
set_option maxHeartbeats 4000000 in
theorem doCast_ok (K : McP) (E : McE K) (n : Nat) (s : St) (fs : List Cal) (f : Cal) (m : MLay) (ks : List KC) (k : KC) (w : World) (h : McT K n s fs f m ks k w) (hst : f.stack.length ≤ 100) (h0 : 0 ≤ f.pc) (h1 : f.pc < 1000) (_ : s.heap.length ≤ 100) (hvs : ∀ v ∈ f.stack, v.kind = 2 → ∃ j : Nat, v.n = j ∧ j < s.heap.length) (hn : n < 990000) (i : Ins) (hnm : i.name.size ≤ maxLen) :
  Calls Tryz.prog 61 #[.pointer (some ⟨K.mb, 0, none⟩), insV i] w (OpPost K (n + 2) (match popV f.stack with
   | none => s.ends 10
   | some (v, r) => if v.kind = 2 ∨ v.kind = 3 then (if v.kind = 3 then putM K.p s fs (f.left r) v else (match classM K.p f.of_.of_.keeper i.name with
    | none => s.ends 4
    | some q => if underK K.p (s.heap.getD v.n.toNat noObj).of_ q then putM K.p s fs (f.left r) v else s.ends 6)) else s.ends 10) m w) := by
 obtain ⟨op, ia, nm, mbr⟩ := i
 try dsimp only at *
 have HP := fun W (hW : Fr No w W) => popObject_ok K E n s fs f m ks k W (h.keep E hW) hst
 unfold PopObj at HP
 obtain ⟨wA, hwA⟩ : ∃ wA, wA = (w.alloc (.cells #[.int .i64 op, .int .i64 ia, .string nm, .string mbr] 27)) := ⟨_, rfl⟩
 have hfA : Fr No w wA := hwA ▸ frc
 have B0 := (hwA ▸ bxc : Bx wA w.heap.size 27 #[.int .i64 op, .int .i64 ia, .string nm, .string mbr])
 rcases popV_cases f.stack with ⟨hs, q1, _⟩ | ⟨ys, x, hs, q1, _⟩
 ·rw [q1] at HP ⊢
  dsimp only at HP ⊢
  have hE := fun W (hW : Fr No w W) => ((h.keep E hW).ends 10 (by decide) (Fr.refl No W)).mono (show n ≤ (n + 2) by omega)
  clear h hs q1
  go_enter Tryz.func61, Tryz.ntmps61
  go_wp2_with (go_at_call 90; rw [← hwA]; refine (HP _ hfA).mono ?_; rintro e w2 ⟨rfl, hf2⟩; have hfE : Fr No w w2 := hfA.trans0 hf2)
  go_ret
  exact ⟨rfl, (hE _ frc).from frc⟩
 ·rw [q1] at HP ⊢
  dsimp only at HP ⊢
  have hno : ¬ K.own m w.heap.size := fun hx => by
   rcases hx with hx | hx
   ·have := E.bl_lt; have := h.st.anchor.size; omega
   ·have := h.st.lt hx; omega
  have hv2 := hvs x (by rw [hs]; simp)
  have hyl : ys.length ≤ 100 := by rw [hs] at hst; simp at hst; omega
  have hHC := fun {m2 : MLay} {ks2 : List KC} {k2 : KC} {W : World} (hT : McT K n ⟨s.status, fs ++ [f.left ys], s.heap, s.outs, s.back⟩ fs (f.left ys) m2 ks2 k2 W) => mclass_ok K E n _ fs _ m2 ks2 k2 W hT nm hnm (by omega)
  clear h hs q1 hvs
  unfold ClassPost at hHC
  change ∀ {m2 : MLay} {ks2 : List KC} {k2 : KC} {W : World}, McT K n ⟨s.status, fs ++ [f.left ys], s.heap, s.outs, s.back⟩ fs (f.left ys) m2 ks2 k2 W → Calls Tryz.prog _ _ W (fun e w' => (∃ r, e = .returned (.tuple #[.agg #[.int .i64 r.keeper, .string r.name], .bool (classM K.p f.of_.of_.keeper nm).isSome]) ∧ (classM K.p f.of_.of_.keeper nm = none ∨ classM K.p f.of_.of_.keeper nm = some r)) ∧ Lg w' K.l K.bl (n + 2) K.p ∧ Fr (fun b => b = K.bl) W w') at hHC
  obtain ⟨xk, xn⟩ := x
  dsimp only at *
  by_cases k3 : xk = 3
  ·subst k3
   simp only [decide_true, or_true, if_true] at HP ⊢
   clear hHC hv2
   go_enter Tryz.func61, Tryz.ntmps61
   go_wp2_with (first
    | (go_at_call 90; rw [← hwA]; refine (HP _ hfA).mono ?_; rintro e w2 ⟨rfl, hO⟩; obtain ⟨b0, b1, b2, b3, bf, bl⟩ := (B0.keepX (McOk.fr hO) hno).r4 _ (Fr.refl _ _); replace hO := Lib.hid hO)
    | (go_at_call 81; obtain ⟨m2, ks2, k2, hT2, hk2, hB2, hf2⟩ := hO.out; have HJ := fun W (hW : Fr No w2 W) => mput_ok K E n _ fs _ m2 ks2 k2 W (hT2.keep E hW) hyl h0 h1 ⟨3, xn⟩; refine (HJ _ frc).mono ?_; rintro e w3 ⟨rfl, hO3⟩))
   go_ret
   exact ⟨rfl, (((hO3.from frc).then hB2 hf2).from hfA).mono (by omega)⟩
  by_cases k2 : xk = 2
  ·subst k2
   simp only [decide_true, true_or, if_true] at HP ⊢
   rw [if_neg (by decide)]
   obtain ⟨j, rfl, hj⟩ := hv2 rfl
   rw [getD_nat hj noObj]
   cases hcm : classM K.p f.of_.of_.keeper nm with
   | none =>
    rw [hcm] at hHC
    clear hcm
    dsimp only [Option.isSome] at hHC ⊢
    go_enter Tryz.func61, Tryz.ntmps61
    go_wp2_with (first
     | (go_at_call 90; rw [← hwA]; refine (HP _ hfA).mono ?_; rintro e w2 ⟨rfl, hO⟩; obtain ⟨b0, b1, b2, b3, bf, bl⟩ := (B0.keepX (McOk.fr hO) hno).r4 _ (Fr.refl _ _); replace hO := Lib.hid hO)
     | (go_at_call 85; obtain ⟨m2, ks2, k2, hT2, hk2, hB2, hf2⟩ := hO.out; have HJ := fun W (hW : Fr No w2 W) => hHC (hT2.keep E hW); refine (HJ _ frc).mono ?_; rintro e w3 ⟨⟨r, rfl, _⟩, hl3, hf3⟩))
    go_ret
    have hfB : Fr No w2 (w2.alloc (.cells #[.int .i64 2, .int .i64 (j : Int)] 40)) := frc
    have hT3 := (hT2.keep E hfB).lodge E hl3 hf3
    exact ⟨rfl, (((OpOk.lg hf3 ((hT3.ends 4 (by decide) (Fr.refl No w3)).to E frc)).from hfB).then hB2 hf2).from hfA⟩
   | some q =>
    rw [hcm] at hHC
    clear hcm
    dsimp only [Option.isSome] at hHC ⊢
    cases hU : underK K.p s.heap[j].of_ q
    all_goals
     try dsimp only
     go_enter Tryz.func61, Tryz.ntmps61
     go_wp2_with (first
      | (go_at_call 90; rw [← hwA]; refine (HP _ hfA).mono ?_; rintro e w2 ⟨rfl, hO⟩; obtain ⟨b0, b1, b2, b3, bf, bl⟩ := (B0.keepX (McOk.fr hO) hno).r4 _ (Fr.refl _ _); replace hO := Lib.hid hO)
      | (go_at_call 85; obtain ⟨m2, ks2, k2, hT2, hk2, hB2, hf2⟩ := hO.out; have HJ := fun W (hW : Fr No w2 W) => hHC (hT2.keep E hW); refine (HJ _ frc).mono ?_; rintro e w3 ⟨⟨r, rfl, hr⟩, hl3, hf3⟩; replace hr := Lib.hid hr; replace hf3 := Lib.hid hf3; replace hl3 := Lib.hid hl3))
     obtain rfl : q = r := by
      rcases hr.out with h9 | h9
      ·cases h9
      ·exact Option.some.inj h9
     replace hf3 := hf3.out
     have hfB : Fr No w2 (w2.alloc (.cells #[.int .i64 2, .int .i64 (j : Int)] 40)) := frc
     have BB : Bx (w2.alloc (.cells #[.int .i64 2, .int .i64 (j : Int)] 40)) w2.heap.size 40 #[.int .i64 2, .int .i64 (j : Int)] := bxc
     have hw20 := hT2.st.anchor.size
     have hbl := E.bl_lt
     have B3 := BB.keepX hf3 (by omega)
     have hT3 := (hT2.keep E hfB).lodge E hl3.out hf3
     obtain ⟨wC, hwC⟩ : ∃ wC, wC = (w3.alloc (.cells #[.int .i64 q.keeper, .string q.name] 54)) := ⟨_, rfl⟩
     rw [← hwC]
     have hfC : Fr No w3 wC := hwC ▸ frc
     have KC7 := (hwC ▸ bxc : Bx wC w3.heap.size 54 #[.int .i64 q.keeper, .string q.name]).r2
     have KC5 := (B3.keep hfC).r2
     have hTC := hT3.keep E hfC
     obtain ⟨g, c, vf, hvh, q1, q2, hnm2, _, KO⟩ := hTC.st.obj (i := j) hj
     change m2.vh = .slice (some ⟨g, 0, none⟩) s.heap.length c at hvh
     have KM := hTC.st.cells
     rw [hvh] at KM
     unfold maxLen at q2
     obtain ⟨gg, hg1, _⟩ := hTC.st.lg
     have HU := fun W (hW : Fr No wC W) => under_ok K.l K.bl (n + 2) K.p gg s.heap[j].of_ q W (hg1.keep hW) hnm2
     rw [hU] at HU
     have hfAll : Hid (Fr No w wA ∧ ∀ b ∈ mcB K m2, b ∈ mcB K m ∨ wA.heap.size ≤ b) := Lib.hid ⟨hfA, hB2⟩
     replace hwA := Lib.hid hwA
     replace hwC := Lib.hid hwC
     replace hvh := Lib.hid hvh
     replace hTC := Lib.hid hTC
     dsimp only at KO HU q1
     generalize s.heap[j] = o at *
     obtain ⟨⟨ok, on⟩, of⟩ := o
     dsimp only at KO HU
     clear hg1 HP hHC B3 BB hT3 hT2 hU hB2
     (refine wp_region_fr (X := No) (by kernel_rfl) (by kernel_rfl) ?_)
     (repeat (first | (go_big_quiet_skip; (try simp only [Act.put, List.setIfInBounds_toArray, List.set_cons_zero, List.set_cons_succ])) | (go_big_quiet_want; (apply Exists.intro; refine ⟨fun W hW => ?_, ?_⟩); (focus (go_simp; (try simp only [↓IntWalk.iteOmega]); (try simp only [reduceIte]); first | done | exact rfl | exact ⟨trivial, rfl⟩ | exact ⟨rfl, rfl⟩ | (go_at_call 91; exact (HU W hW).mono (fun _ _ h => ⟨h.1, hW.trans0 h.2⟩)))); go_big_quiet_on; (try simp only [Act.put, List.setIfInBounds_toArray, List.set_cons_zero, List.set_cons_succ])))); refine wpQuiet_nil ?_
     intro w4 hf4
     have r5 := KC5 w4 hf4
     clear KO KM HU KC7 KC5
    ·go_wp2_with fail
     go_ret
     exact ⟨rfl, (((OpOk.lg hf3 (((hTC.out.keep E hf4).ends 6 (by decide) (Fr.refl No w4)).from (hfC.trans0 hf4))).from hfB).then hfAll.out.2 hf2).from hfA⟩
    ·have HPut := mput_ok K E (n + 2) _ fs _ m2 ks2 k2 w4 (hTC.out.keep E hf4) hyl h0 h1 ⟨2, (j : Int)⟩
     go_wp2_with (go_at_call 81; refine HPut.mono ?_; rintro e w5 ⟨rfl, hO5⟩)
     go_ret
     exact ⟨rfl, (((OpOk.lg hf3 (hO5.from (hfC.trans0 hf4))).from hfB).then hfAll.out.2 hf2).from hfA⟩
  ·have hd : ¬ (xk = 2 ∨ xk = 3) := by omega
   rw [if_neg hd]
   rw [decide_eq_false hd] at HP
   clear hHC hv2
   go_enter Tryz.func61, Tryz.ntmps61
   go_wp2_with (go_at_call 90; rw [← hwA]; refine (HP _ hfA).mono ?_; rintro e w2 ⟨rfl, hO⟩; obtain ⟨b0, b1, b2, b3, bf, bl⟩ := (B0.keepX (McOk.fr hO) hno).r4 _ (Fr.refl _ _); replace hO := Lib.hid hO)
   go_ret
   exact ⟨rfl, (((hO.out.ends 10 (by decide)).to E frc).from hfA).mono (by omega)⟩
end Go.Proofs.YtbalicnnlfennaaGreat
