/- The program's checks of what a value is: hasType, fits; ValFits. -/
import Derived.Test.YtbalicnnlfennaaGreatCK1
import Derived.Test.YtbalicnnlfennaaGreatCK2
namespace Go.Proofs.YtbalicnnlfennaaGreat
open Go.RowKit

set_option maxRecDepth 100000 in
set_option maxHeartbeats 4000000 in
theorem hasType_ok (X : Nat → Prop) (l bl n : Nat) (p : Plan) (g : Int → Str → Option Int) (k : Int) (u : Value) (hs : List Obj) (v : Val) (t : Knd) (w : World) (h : Lodge w l bl n p g) (hh : Sl X w 3 (ObjC X w) u hs) (hn : v.kind = 2 → ∃ i : Nat, v.n = i ∧ i < hs.length) (ht : t.name.size ≤ maxLen) :
  Calls Tryz.prog 79 #[.pointer (some ⟨l, 0, none⟩), .int .i64 k, u, .agg #[.int .i64 v.kind, .int .i64 v.n], .agg #[.int .i64 t.kind, .string t.name]] w (BoolFr (hasB p k hs v t) w) := by
 have HF := fun W (hW : Fr No w W) => find_ok l bl n p g k t.name W (h.keep hW) ht
 have HU := fun (i : Nat) (hi : i < hs.length) (ho : hs[i].of_.name.size ≤ maxLen) W (hW : Fr No w W) => under_ok l bl n p g hs[i].of_ (findK p k t.name).1 W (h.keep hW) ho
 obtain ⟨V, hV⟩ : ∃ V, V = hasB p k hs v t := ⟨_, rfl⟩
 rw [← hV]
 unfold hasB at hV
 obtain ⟨vk, vn⟩ := v
 obtain ⟨tk, tn⟩ := t
 obtain ⟨A, cap, rfl, _, hlen⟩ := hh.form
 unfold maxLen at hlen
 dsimp only at *
 clear h
 by_cases h1 : tk = 1
 ·subst h1
  rw [if_pos rfl] at hV
  clear HF HU hh hn
  by_cases h2 : vk = 1
  ·have hE : Hid (V = true) := by rw [hV]; simp [Hid, h2]
   clear hV
   subst h2
   go_enter Tryz.func79, Tryz.ntmps79
   go_wp2
   go_ret
   exact .mk hE.out.symm frc
  ·have hE : Hid (V = false) := by rw [hV]; simp [Hid, h2]
   clear hV
   go_enter Tryz.func79, Tryz.ntmps79
   go_wp2
   go_ret
   exact .mk (by rw [hE.out]; simp [h2]) frc
 rw [if_neg h1] at hV
 by_cases h3 : vk = 3
 ·subst h3
  rw [if_pos rfl] at hV
  replace hV := Lib.hid hV
  clear HF HU hh hn
  go_enter Tryz.func79, Tryz.ntmps79
  go_wp2
  go_ret
  exact .mk hV.out.symm frc
 rw [if_neg h3] at hV
 by_cases h2 : vk = 2
 ·subst h2
  rw [if_pos rfl] at hV
  obtain ⟨i, rfl, hi⟩ := hn rfl
  rw [getD_nat hi] at hV
  obtain ⟨wA, hwA⟩ : ∃ wA, wA = ((w.alloc (.cells #[.int .i64 2, .int .i64 i] 40)).alloc (.cells #[.int .i64 tk, .string tn] 55)) := ⟨_, rfl⟩
  have hfA : Fr No w wA := hwA ▸ frc
  have K0 := (hwA ▸ bxc : Bx wA w.heap.size 40 #[.int .i64 2, .int .i64 i])
  have hkw := fun W (hW : Fr No w W) => hh.keep (R' := ObjC X W) hW (fun _ h => h.elim) (fun _ _ _ h => h.keep hW (fun _ h => h.elim))
  clear hh hn
  unfold refV at HF
  have HU' := HU i hi
  clear HU
  generalize underK p hs[i].of_ (findK p k tn).1 = U at *
  generalize findK p k tn = q at *
  obtain ⟨⟨qk, qn⟩, qc⟩ := q
  dsimp only at *
  by_cases hc : qc = 1
  ·subst hc
   have hE : Hid (V = U) := by rw [hV]; simp [Hid]
   clear hV
   go_enter Tryz.func79, Tryz.ntmps79
   go_wp2_with fail
   rw [← hwA]
   replace hwA := Lib.hid hwA
   refine (HF _ hfA).mono ?_
   rintro e w1 ⟨rfl, hf1⟩
   go_wp2_with fail
   obtain ⟨w2, hw2⟩ : ∃ w2, w2 = w1.alloc (.cells #[.int .i64 qk, .string qn] 54) := ⟨_, rfl⟩
   rw [← hw2]
   have hf2 : Fr No w1 w2 := hw2 ▸ frc
   have q2 : Fr No w w2 := (hfA.trans0 hf1).trans0 hf2
   have B2 : Bx w2 w1.heap.size 54 #[.int .i64 qk, .string qn] := hw2 ▸ bxc
   obtain ⟨b, bf, Af, cf, rfl, _, c0, c1, _, z0, _, _, _⟩ := (hkw _ q2).obj hi
   have K2 := (K0.keep (hf1.trans0 hf2)).r2
   have R2 := B2.r2
   have HU2 := fun W (hW : Fr No w2 W) => HU' z0 W (q2.trans0 hW)
   have c0 := fun W (h : Fr No w2 W) => h.keep0 c0
   have c1 := fun W (h : Fr No w2 W) => h.keep0 c1
   clear hw2 hkw HU' HF K0 B2 hf1 hf2
   generalize hs[i] = o at *
   obtain ⟨⟨ok, on⟩, fs⟩ := o
   dsimp only at *
   (refine wp_region_fr (X := No) (by kernel_rfl) (by kernel_rfl) ?_)
   (repeat (first | (go_big_quiet_skip; (try simp only [Act.put, List.setIfInBounds_toArray, List.set_cons_zero, List.set_cons_succ])) | (go_big_quiet_want; (apply Exists.intro; refine ⟨fun W hW => ?_, ?_⟩); (focus (go_simp; (try simp only [↓IntWalk.iteOmega]); (try simp only [reduceIte]); first | done | exact rfl | exact ⟨trivial, rfl⟩ | exact ⟨rfl, rfl⟩ | (go_at_call 91; exact (HU2 W hW).mono (fun _ _ h => ⟨h.1, hW.trans0 h.2⟩)))); go_big_quiet_on; (try simp only [Act.put, List.setIfInBounds_toArray, List.set_cons_zero, List.set_cons_succ])))); refine wpQuiet_nil ?_
   intro w9 hf9
   clear c0 c1 K2 R2 HU2
   go_wp2
   go_ret
   exact .mk hE.out.symm (q2.trans0 hf9)
  ·have hE : Hid (V = false) := by rw [hV]; simp [Hid, hc]
   clear hV HU' hkw
   go_enter Tryz.func79, Tryz.ntmps79
   go_wp2_with fail
   rw [← hwA]
   replace hwA := Lib.hid hwA
   refine (HF _ hfA).mono ?_
   rintro e w1 ⟨rfl, hf1⟩
   have q1 : Fr No w w1 := hfA.trans0 hf1
   clear HF K0
   have hcb : (qc == 1) = false := by simpa using hc
   go_wp2_with fail
   (refine wp_region_fr (X := No) (by kernel_rfl) (by kernel_rfl) ?_)
   (repeat (first | (go_big_quiet_skip; (try simp only [Act.put, List.setIfInBounds_toArray, List.set_cons_zero, List.set_cons_succ])) | (go_big_quiet_want; (apply Exists.intro; refine ⟨fun W hW => ?_, ?_⟩); (focus (go_simp; (try simp only [↓IntWalk.iteOmega]); (try simp only [reduceIte]); first | done | exact rfl | exact ⟨trivial, rfl⟩ | exact ⟨rfl, rfl⟩ | fail)); go_big_quiet_on; (try simp only [Act.put, List.setIfInBounds_toArray, List.set_cons_zero, List.set_cons_succ])))); refine wpQuiet_nil ?_
   intro w9 hf9
   go_wp2
   go_ret
   exact .mk hE.out.symm (q1.trans0 ((Fr.refl _ _).alloc _ |>.trans0 hf9))
 ·have hE : Hid (V = false) := by rw [hV, if_neg h2]; rfl
  clear HF HU hh hn hV
  go_enter Tryz.func79, Tryz.ntmps79
  go_wp2
  go_ret
  exact .mk hE.out.symm frc

end Go.Proofs.YtbalicnnlfennaaGreat

namespace Go.Proofs.YtbalicnnlfennaaGreat
open Go.RowKit

end Go.Proofs.YtbalicnnlfennaaGreat

namespace Go.Proofs.YtbalicnnlfennaaGreat
open Go.RowKit

theorem McS.heapSl {K : McP} {n : Nat} {s : St} {m : MLay} {w : World} (h : McS K n s m w) : Sl No w 3 (ObjC No w) m.vh s.heap :=
 RowV.slW objL.len h.hrow h.hels.length (fun i h1 h2 => by
  obtain ⟨e1, e2, e3⟩ := h.hels.get i h1 h2
  exact ⟨_, by simp only [objL, e1], e2, ValRow.sl e3 (fun _ _ h => h)⟩) (fun _ _ h => h)
theorem McS.setBack {K : McP} {n : Nat} {s : St} {m : MLay} {w : World} (h : McS K n s m w) (E : McE K) (hs : s.status = 1) (v : Val) : OpOk K n ((s.withBack v).ends 2) m w ((w.setCell ⟨K.mb, 6, none⟩ (.int .i64 v.kind)).setCell ⟨K.mb, 7, none⟩ (.int .i64 v.n)) := by
 have hst : Fr (fun b => b = K.mb) w ((w.setCell ⟨K.mb, 6, none⟩ (.int .i64 v.kind)).setCell ⟨K.mb, 7, none⟩ (.int .i64 v.n)) := (Fr.one _ _ _ _).same (Fr.one _ _ _ _)
 have hb := (h.box.set_ 6 (.int .i64 v.kind)).set_ 7 (.int .i64 v.n)
 have := h.boxOnly E hst (st := s.status) (bk := v) hb
 rw [hs] at this
 exact ⟨s.frames, m, this, fun e => absurd e (by show ¬ ((2 : Int) = 1); decide), fun b hb => .inl hb, hst.mono (fun b _ e => .inr (by subst e; exact mem_mcB.2 (.inl rfl)))⟩

set_option maxRecDepth 100000 in
set_option maxHeartbeats 4000000 in
theorem doRet_ok (K : McP) (E : McE K) (n : Nat) (s : St) (f : Cal) (m : MLay) (ks : List KC) (k : KC) (w : World) (h : McT K n s [] f m ks k w) (hst : f.stack.length ≤ 100) (i : Ins) (hvs : ∀ v ∈ f.stack, v.kind = 2 → ∃ j : Nat, v.n = j ∧ j < s.heap.length) :
  Calls Tryz.prog 56 #[.pointer (some ⟨K.mb, 0, none⟩), insV i] w (OpPost K n (match popV f.stack with
   | none => s.ends 10
   | some (v, _) => if hasB K.p f.of_.of_.keeper s.heap v (mthOf K.p f.of_).ret then retM K.p s [] v else s.ends 10) m w) := by
 obtain ⟨op, ia, nm, mbr⟩ := i
 have HT := fun W (hW : Fr No w W) => top_ok K n s [] f m ks k W (h.keep E hW)
 have HP := fun W (hW : Fr No w W) => pop_ok K E n s [] f m ks k W (h.keep E hW) hst
 unfold PopPost at HP
 obtain ⟨wA, hwA⟩ : ∃ wA, wA = (w.alloc (.cells #[.int .i64 op, .int .i64 ia, .string nm, .string mbr] 27)) := ⟨_, rfl⟩
 have hfA : Fr No w wA := hwA ▸ frc
 obtain ⟨RES, hRES⟩ : ∃ R : St, R = (match popV f.stack with
   | none => s.ends 10
   | some (v, _) => if hasB K.p f.of_.of_.keeper s.heap v (mthOf K.p f.of_).ret then retM K.p s [] v else s.ends 10) := ⟨_, rfl⟩
 rw [← hRES]
 rcases popV_cases f.stack with ⟨hs, q1, _⟩ | ⟨ys, x, hs, q1, _⟩
 ·rw [q1] at HP hRES
  dsimp only at HP hRES
  subst hRES
  have hE := fun W (hW : Fr No w W) => (h.keep E hW).ends 10 (by decide) (Fr.refl No W)
  clear h hs q1
  go_enter Tryz.func56, Tryz.ntmps56
  go_wp2_with (first
   | (go_at_call 62; rw [← hwA]; refine (HT _ hfA).mono ?_; rintro e w1 ⟨rfl, hf1⟩)
   | (go_at_call 82; refine (HP _ (hfA.trans0 hf1)).mono ?_; rintro e w2 ⟨rfl, hf2⟩; have hfE : Fr No w w2 := (hfA.trans0 hf1).trans0 hf2))
  obtain ⟨wB, hwB⟩ : ∃ wB, wB = (w2.alloc (.cells #[.int .i64 0, .int .i64 0] 40)) := ⟨_, rfl⟩
  rw [← hwB]
  have hfB : Fr No w2 wB := hwB ▸ frc
  replace hwA := Lib.hid hwA
  replace hwB := Lib.hid hwB
  (refine wp_region_fr (X := No) (by kernel_rfl) (by kernel_rfl) ?_)
  (repeat (first | (go_big_quiet_skip; (try simp only [Act.put, List.setIfInBounds_toArray, List.set_cons_zero, List.set_cons_succ])) | (go_big_quiet_want; (apply Exists.intro; refine ⟨fun W hW => ?_, ?_⟩); (focus (go_simp; (try simp only [↓IntWalk.iteOmega]); (try simp only [reduceIte]); first | done | exact rfl | exact ⟨trivial, rfl⟩ | exact ⟨rfl, rfl⟩ | fail)); go_big_quiet_on; (try simp only [Act.put, List.setIfInBounds_toArray, List.set_cons_zero, List.set_cons_succ])))); refine wpQuiet_nil ?_
  intro w3 hf3
  go_wp2_with fail
  go_ret
  have hfZ := (hfE.trans0 hfB).trans0 hf3
  exact ⟨rfl, (hE _ hfZ).from hfZ⟩
 ·have hv2 := hvs x (by rw [hs]; simp)
  have hfr := h.cal.2.2.2.2.2
  rw [q1] at HP hRES
  dsimp only at HP hRES
  clear hvs hs q1 h
  obtain ⟨bv, hbv⟩ : ∃ b, b = hasB K.p f.of_.of_.keeper s.heap x (mthOf K.p f.of_).ret := ⟨_, rfl⟩
  rw [← hbv] at hRES
  have hhy : Hid (∀ (n' : Nat) (m' : MLay) (W : World) (s' : St), s'.heap = s.heap → McS K n' s' m' W → Calls Tryz.prog 79 #[.pointer (some ⟨K.l, 0, none⟩), .int .i64 f.of_.of_.keeper, m'.vh, .agg #[.int .i64 x.kind, .int .i64 x.n], .agg #[.int .i64 (mthOf K.p f.of_).ret.kind, .string (mthOf K.p f.of_).ret.name]] W (BoolFr bv W)) := Lib.hid (fun n' m' W s' he hS => by
   obtain ⟨gg, hg1, _⟩ := hS.lg
   have := hS.heapSl
   rw [he] at this
   rw [hbv]
   exact hasType_ok No K.l K.bl n' K.p gg f.of_.of_.keeper m'.vh s.heap x (mthOf K.p f.of_).ret W hg1 this hv2 hfr)
  clear hbv hv2
  obtain ⟨xk, xn⟩ := x
  dsimp only at *
  cases bv
  all_goals
   go_enter Tryz.func56, Tryz.ntmps56
   go_wp2_with (first
    | (go_at_call 62; rw [← hwA]; refine (HT _ hfA).mono ?_; rintro e w1 ⟨rfl, hf1⟩)
    | (go_at_call 82; refine (HP _ (hfA.trans0 hf1)).mono ?_; rintro e w2 ⟨rfl, m2, ks2, k2, hT2, hk2, hB2, hf2⟩))
   obtain ⟨wB, hwB⟩ : ∃ wB, wB = (w2.alloc (.cells #[.int .i64 xk, .int .i64 xn] 40)) := ⟨_, rfl⟩
   rw [← hwB]
   have hfB : Fr No w2 wB := hwB ▸ frc
   have BB : Bx wB w2.heap.size 40 #[.int .i64 xk, .int .i64 xn] := hwB ▸ bxc
   have hf01 := hfA.trans0 hf1
   have hTB := hT2.keep E hfB
   have KM := hTB.st.cells
   have KCc := hTB.ccells
   rw [hk2] at KCc
   dsimp only [Cal.left] at KCc
   have KX := BB.r2
   have HK := fun W (hW : Fr No wB W) => ckeeper_ok K n _ [] _ m2 ks2 k2 W (hTB.keep E hW)
   rw [hk2] at HK
   dsimp only [Cal.left] at HK
   have HH := fun W (hW : Fr No wB W) => hhy.out n m2 W ⟨s.status, [] ++ [f.left ys], s.heap, s.outs, s.back⟩ rfl (hTB.keep E hW).st
   have hln := hTB.st.crow
   obtain ⟨Ac, cc, hvc, hc1, hc2⟩ := hln.form
   change m2.vc = .slice Ac 1 cc at hvc
   unfold maxLen at hc2
   have hkmb : K.mb < wB.heap.size := hTB.st.box.lt
   replace hwA := Lib.hid hwA
   replace hwB := Lib.hid hwB
   replace hvc := Lib.hid hvc
   replace hTB := Lib.hid hTB
   clear hln HT HP hT2
   (refine wp_region_fr (X := No) (by kernel_rfl) (by kernel_rfl) ?_)
   (repeat (first | (go_big_quiet_skip; (try simp only [Act.put, List.setIfInBounds_toArray, List.set_cons_zero, List.set_cons_succ])) | (go_big_quiet_want; (apply Exists.intro; refine ⟨fun W hW => ?_, ?_⟩); (focus (go_simp; (try simp only [↓IntWalk.iteOmega]); (try simp only [reduceIte]); first | done | exact rfl | exact ⟨trivial, rfl⟩ | exact ⟨rfl, rfl⟩ | (first | (go_at_call 87; exact (HK W hW).mono (fun _ _ h => ⟨h.1, hW.trans0 h.2⟩)) | (go_at_call 79; exact (HH W hW).mono (fun _ _ h => ⟨h.1, hW.trans0 h.2⟩))))); go_big_quiet_on; (try simp only [Act.put, List.setIfInBounds_toArray, List.set_cons_zero, List.set_cons_succ])))); refine wpQuiet_nil ?_
   intro w3 hf3
   obtain ⟨_, _, _, z3, _, _, z6, z7, zf, zl⟩ := KM w3 hf3
   rw [hvc.out] at z3
   obtain ⟨x0, x1, xf, xl⟩ := KX w3 hf3
   clear KM KCc KX HK HH
  ·go_wp2_with fail
   go_ret
   simp only [Bool.false_eq_true, if_false] at hRES
   subst hRES
   exact ⟨rfl, ((((hTB.out.keep E hf3).ends 10 (by decide) (Fr.refl No w3)).from (hfB.trans0 hf3)).then hB2 hf2).from hf01⟩
  ·go_wp2_with fail
   go_ret
   simp only [if_true] at hRES
   subst hRES
   exact ⟨rfl, ((((hTB.out.keep E hf3).st.setBack E hTB.out.go ⟨xk, xn⟩).from (hfB.trans0 hf3)).then hB2 hf2).from hf01⟩
end Go.Proofs.YtbalicnnlfennaaGreat
