/- The program's checks of what a value is: hasType, fits; ValFits. -/
import Derived.Test.YtbalicnnlfennaaGreatBG32
import Derived.Laws.EntriesVeiled
namespace Go.Proofs.YtbalicnnlfennaaGreat
open Go.RowKit

set_option maxRecDepth 100000 in
set_option maxHeartbeats 4000000 in
theorem hasType_ok (X : Nat → Prop) (l bl n : Nat) (p : Plan) (g : Int → Str → Option Int) (k : Int) (u : Value) (hs : List Obj) (v : Val) (t : Knd) (w : World) (h : Lodge w l bl n p g) (hh : Sl X w 3 (ObjC X w) u hs) (hn : v.kind = 2 → ∃ i : Nat, v.n = i ∧ i < hs.length) (ht : t.name.size ≤ maxLen) :
    Calls Tryz.prog 79 #[.pointer (some ⟨l, 0, none⟩), .int .i64 k, u, .agg #[.int .i64 v.kind, .int .i64 v.n], .agg #[.int .i64 t.kind, .string t.name]] w (BoolFr (hasB p k hs v t) w) := by
  have HF := fun W (hW : Fr No w W) => find_ok l bl n p g k t.name W (h.keep hW) ht
  have HU := fun (i : Nat) (hi : i < hs.length) (ho : hs[i].of_.name.size ≤ maxLen) W (hW : Fr No w W) => under_ok l bl n p g hs[i].of_ (findK p k t.name).1 W (h.keep hW) ho
  obtain ⟨V, hV⟩ : ∃ V, V = hasB p k hs v t := ⟨_, rfl⟩
  rw [← hV]
  unfold hasB at hV
  obtain ⟨vk, vn⟩ := v
  obtain ⟨tk, tn⟩ := t
  obtain ⟨A, cap, rfl, _, hlen⟩ := hh.form
  unfold maxLen at hlen
  dsimp only at *
  clear h
  by_cases h1 : tk = 1
  · subst h1
    rw [if_pos rfl] at hV
    clear HF HU hh hn
    by_cases h2 : vk = 1
    · have hE : Hid (V = true) := by rw [hV]; simp [Hid, h2]
      clear hV
      subst h2
      go_enter Tryz.func79, Tryz.ntmps79
      go_wp2
      go_ret
      exact .mk hE.out.symm frc
    · have hE : Hid (V = false) := by rw [hV]; simp [Hid, h2]
      clear hV
      go_enter Tryz.func79, Tryz.ntmps79
      go_wp2
      go_ret
      exact .mk (by rw [hE.out]; simp [h2]) frc
  rw [if_neg h1] at hV
  by_cases h3 : vk = 3
  · subst h3
    rw [if_pos rfl] at hV
    replace hV := Lib.hid hV
    clear HF HU hh hn
    go_enter Tryz.func79, Tryz.ntmps79
    go_wp2
    go_ret
    exact .mk hV.out.symm frc
  rw [if_neg h3] at hV
  by_cases h2 : vk = 2
  · subst h2
    rw [if_pos rfl] at hV
    obtain ⟨i, rfl, hi⟩ := hn rfl
    rw [getD_nat hi] at hV
    obtain ⟨wA, hwA⟩ : ∃ wA, wA = ((w.alloc (.cells #[.int .i64 2, .int .i64 i] 40)).alloc (.cells #[.int .i64 tk, .string tn] 55)) := ⟨_, rfl⟩
    have hfA : Fr No w wA := hwA ▸ frc
    have K0 := (hwA ▸ bxc : Bx wA w.heap.size 40 #[.int .i64 2, .int .i64 i])
    have hkw := fun W (hW : Fr No w W) => hh.keep (R' := ObjC X W) hW (fun _ h => h.elim) (fun _ _ _ h => h.keep hW (fun _ h => h.elim))
    clear hh hn
    unfold refV at HF
    have HU' := HU i hi
    clear HU
    generalize underK p hs[i].of_ (findK p k tn).1 = U at *
    generalize findK p k tn = q at *
    obtain ⟨⟨qk, qn⟩, qc⟩ := q
    dsimp only at *
    by_cases hc : qc = 1
    · subst hc
      have hE : Hid (V = U) := by rw [hV]; simp [Hid]
      clear hV
      go_enter Tryz.func79, Tryz.ntmps79
      go_wp2_with fail
      rw [← hwA]
      replace hwA := Lib.hid hwA
      refine (HF _ hfA).mono ?_
      rintro e w1 ⟨rfl, hf1⟩
      go_wp2_with fail
      obtain ⟨w2, hw2⟩ : ∃ w2, w2 = w1.alloc (.cells #[.int .i64 qk, .string qn] 54) := ⟨_, rfl⟩
      rw [← hw2]
      have hf2 : Fr No w1 w2 := hw2 ▸ frc
      have q2 : Fr No w w2 := (hfA.trans0 hf1).trans0 hf2
      have B2 : Bx w2 w1.heap.size 54 #[.int .i64 qk, .string qn] := hw2 ▸ bxc
      obtain ⟨b, bf, Af, cf, rfl, _, c0, c1, _, z0, _, _, _⟩ := (hkw _ q2).obj hi
      have K2 := (K0.keep (hf1.trans0 hf2)).r2
      have R2 := B2.r2
      have HU2 := fun W (hW : Fr No w2 W) => HU' z0 W (q2.trans0 hW)
      have c0 := fun W (h : Fr No w2 W) => h.keep0 c0
      have c1 := fun W (h : Fr No w2 W) => h.keep0 c1
      clear hw2 hkw HU' HF K0 B2 hf1 hf2
      generalize hs[i] = o at *
      obtain ⟨⟨ok, on⟩, fs⟩ := o
      dsimp only at *
      (refine wp_region_fr (X := No) (by kernel_rfl) (by kernel_rfl) ?_)
      (repeat (first | (go_big_quiet_skip; (try simp only [Act.put, List.setIfInBounds_toArray, List.set_cons_zero, List.set_cons_succ])) | (go_big_quiet_want; (apply Exists.intro; refine ⟨fun W hW => ?_, ?_⟩); (focus (go_simp; (try simp only [↓IntWalk.iteOmega]); (try simp only [reduceIte]); first | done | exact rfl | exact ⟨trivial, rfl⟩ | exact ⟨rfl, rfl⟩ | (go_at_call 91; exact (HU2 W hW).mono (fun _ _ h => ⟨h.1, hW.trans0 h.2⟩)))); go_big_quiet_on; (try simp only [Act.put, List.setIfInBounds_toArray, List.set_cons_zero, List.set_cons_succ])))); refine wpQuiet_nil ?_
      intro w9 hf9
      clear c0 c1 K2 R2 HU2
      go_wp2
      go_ret
      exact .mk hE.out.symm (q2.trans0 hf9)
    · have hE : Hid (V = false) := by rw [hV]; simp [Hid, hc]
      clear hV HU' hkw
      go_enter Tryz.func79, Tryz.ntmps79
      go_wp2_with fail
      rw [← hwA]
      replace hwA := Lib.hid hwA
      refine (HF _ hfA).mono ?_
      rintro e w1 ⟨rfl, hf1⟩
      have q1 : Fr No w w1 := hfA.trans0 hf1
      clear HF K0
      have hcb : (qc == 1) = false := by simpa using hc
      go_wp2_with fail
      (refine wp_region_fr (X := No) (by kernel_rfl) (by kernel_rfl) ?_)
      (repeat (first | (go_big_quiet_skip; (try simp only [Act.put, List.setIfInBounds_toArray, List.set_cons_zero, List.set_cons_succ])) | (go_big_quiet_want; (apply Exists.intro; refine ⟨fun W hW => ?_, ?_⟩); (focus (go_simp; (try simp only [↓IntWalk.iteOmega]); (try simp only [reduceIte]); first | done | exact rfl | exact ⟨trivial, rfl⟩ | exact ⟨rfl, rfl⟩ | fail)); go_big_quiet_on; (try simp only [Act.put, List.setIfInBounds_toArray, List.set_cons_zero, List.set_cons_succ])))); refine wpQuiet_nil ?_
      intro w9 hf9
      go_wp2
      go_ret
      exact .mk hE.out.symm (q1.trans0 ((Fr.refl _ _).alloc _ |>.trans0 hf9))
  · have hE : Hid (V = false) := by rw [hV, if_neg h2]; rfl
    clear HF HU hh hn hV
    go_enter Tryz.func79, Tryz.ntmps79
    go_wp2
    go_ret
    exact .mk hE.out.symm frc

end Go.Proofs.YtbalicnnlfennaaGreat

/- The program's ValFits. -/
namespace Go.Proofs.YtbalicnnlfennaaGreat
open Go.RowKit

end Go.Proofs.YtbalicnnlfennaaGreat

/- The program's own machine: the end of a run's one method. -/
namespace Go.Proofs.YtbalicnnlfennaaGreat
open Go.RowKit

theorem McS.heapSl {K : McP} {n : Nat} {s : St} {m : MLay} {w : World} (h : McS K n s m w) : Sl No w 3 (ObjC No w) m.vh s.heap :=
  RowV.slW objL.len h.hrow h.hels.length (fun i h1 h2 => by
    obtain ⟨e1, e2, e3⟩ := h.hels.get i h1 h2
    exact ⟨_, by simp only [objL, e1], e2, ValRow.sl e3 (fun _ _ h => h)⟩) (fun _ _ h => h)
theorem McS.setBack {K : McP} {n : Nat} {s : St} {m : MLay} {w : World} (h : McS K n s m w) (E : McE K) (hs : s.status = 1) (v : Val) : OpOk K n ((s.withBack v).ends 2) m w ((w.setCell ⟨K.mb, 6, none⟩ (.int .i64 v.kind)).setCell ⟨K.mb, 7, none⟩ (.int .i64 v.n)) := by
  have hst : Fr (fun b => b = K.mb) w ((w.setCell ⟨K.mb, 6, none⟩ (.int .i64 v.kind)).setCell ⟨K.mb, 7, none⟩ (.int .i64 v.n)) := (Fr.one _ _ _ _).same (Fr.one _ _ _ _)
  have hb := (h.box.set_ 6 (.int .i64 v.kind)).set_ 7 (.int .i64 v.n)
  have := h.boxOnly E hst (st := s.status) (bk := v) hb
  rw [hs] at this
  exact ⟨s.frames, m, this, fun e => absurd e (by show ¬ ((2 : Int) = 1); decide), fun b hb => .inl hb, hst.mono (fun b _ e => .inr (by subst e; exact mem_mcB.2 (.inl rfl)))⟩

set_option maxRecDepth 100000 in
set_option maxHeartbeats 4000000 in
theorem doRet_ok (K : McP) (E : McE K) (n : Nat) (s : St) (f : Cal) (m : MLay) (ks : List KC) (k : KC) (w : World) (h : McT K n s [] f m ks k w) (hst : f.stack.length ≤ 100) (i : Ins) (hvs : ∀ v ∈ f.stack, v.kind = 2 → ∃ j : Nat, v.n = j ∧ j < s.heap.length) :
    Calls Tryz.prog 56 #[.pointer (some ⟨K.mb, 0, none⟩), insV i] w (OpPost K n (match popV f.stack with
      | none => s.ends 10
      | some (v, _) => if hasB K.p f.of_.of_.keeper s.heap v (mthOf K.p f.of_).ret then retM K.p s [] v else s.ends 10) m w) := by
  obtain ⟨op, ia, nm, mbr⟩ := i
  have HT := fun W (hW : Fr No w W) => top_ok K n s [] f m ks k W (h.keep E hW)
  have HP := fun W (hW : Fr No w W) => pop_ok K E n s [] f m ks k W (h.keep E hW) hst
  unfold PopPost at HP
  obtain ⟨wA, hwA⟩ : ∃ wA, wA = (w.alloc (.cells #[.int .i64 op, .int .i64 ia, .string nm, .string mbr] 27)) := ⟨_, rfl⟩
  have hfA : Fr No w wA := hwA ▸ frc
  obtain ⟨RES, hRES⟩ : ∃ R : St, R = (match popV f.stack with
      | none => s.ends 10
      | some (v, _) => if hasB K.p f.of_.of_.keeper s.heap v (mthOf K.p f.of_).ret then retM K.p s [] v else s.ends 10) := ⟨_, rfl⟩
  rw [← hRES]
  rcases popV_cases f.stack with ⟨hs, q1, _⟩ | ⟨ys, x, hs, q1, _⟩
  · rw [q1] at HP hRES
    dsimp only at HP hRES
    subst hRES
    have hE := fun W (hW : Fr No w W) => (h.keep E hW).ends 10 (by decide) (Fr.refl No W)
    clear h hs q1
    go_enter Tryz.func56, Tryz.ntmps56
    go_wp2_with (first
      | (go_at_call 62; rw [← hwA]; refine (HT _ hfA).mono ?_; rintro e w1 ⟨rfl, hf1⟩)
      | (go_at_call 82; refine (HP _ (hfA.trans0 hf1)).mono ?_; rintro e w2 ⟨rfl, hf2⟩; have hfE : Fr No w w2 := (hfA.trans0 hf1).trans0 hf2))
    obtain ⟨wB, hwB⟩ : ∃ wB, wB = (w2.alloc (.cells #[.int .i64 0, .int .i64 0] 40)) := ⟨_, rfl⟩
    rw [← hwB]
    have hfB : Fr No w2 wB := hwB ▸ frc
    replace hwA := Lib.hid hwA
    replace hwB := Lib.hid hwB
    (refine wp_region_fr (X := No) (by kernel_rfl) (by kernel_rfl) ?_)
    (repeat (first | (go_big_quiet_skip; (try simp only [Act.put, List.setIfInBounds_toArray, List.set_cons_zero, List.set_cons_succ])) | (go_big_quiet_want; (apply Exists.intro; refine ⟨fun W hW => ?_, ?_⟩); (focus (go_simp; (try simp only [↓IntWalk.iteOmega]); (try simp only [reduceIte]); first | done | exact rfl | exact ⟨trivial, rfl⟩ | exact ⟨rfl, rfl⟩ | fail)); go_big_quiet_on; (try simp only [Act.put, List.setIfInBounds_toArray, List.set_cons_zero, List.set_cons_succ])))); refine wpQuiet_nil ?_
    intro w3 hf3
    go_wp2_with fail
    go_ret
    have hfZ := (hfE.trans0 hfB).trans0 hf3
    exact ⟨rfl, (hE _ hfZ).from hfZ⟩
  · have hv2 := hvs x (by rw [hs]; simp)
    have hfr := h.cal.2.2.2.2.2
    rw [q1] at HP hRES
    dsimp only at HP hRES
    clear hvs hs q1 h
    obtain ⟨bv, hbv⟩ : ∃ b, b = hasB K.p f.of_.of_.keeper s.heap x (mthOf K.p f.of_).ret := ⟨_, rfl⟩
    rw [← hbv] at hRES
    have hhy : Hid (∀ (n' : Nat) (m' : MLay) (W : World) (s' : St), s'.heap = s.heap → McS K n' s' m' W → Calls Tryz.prog 79 #[.pointer (some ⟨K.l, 0, none⟩), .int .i64 f.of_.of_.keeper, m'.vh, .agg #[.int .i64 x.kind, .int .i64 x.n], .agg #[.int .i64 (mthOf K.p f.of_).ret.kind, .string (mthOf K.p f.of_).ret.name]] W (BoolFr bv W)) := Lib.hid (fun n' m' W s' he hS => by
      obtain ⟨gg, hg1, _⟩ := hS.lg
      have := hS.heapSl
      rw [he] at this
      rw [hbv]
      exact hasType_ok No K.l K.bl n' K.p gg f.of_.of_.keeper m'.vh s.heap x (mthOf K.p f.of_).ret W hg1 this hv2 hfr)
    clear hbv hv2
    obtain ⟨xk, xn⟩ := x
    dsimp only at *
    cases bv
    all_goals
      go_enter Tryz.func56, Tryz.ntmps56
      go_wp2_with (first
        | (go_at_call 62; rw [← hwA]; refine (HT _ hfA).mono ?_; rintro e w1 ⟨rfl, hf1⟩)
        | (go_at_call 82; refine (HP _ (hfA.trans0 hf1)).mono ?_; rintro e w2 ⟨rfl, m2, ks2, k2, hT2, hk2, hB2, hf2⟩))
      obtain ⟨wB, hwB⟩ : ∃ wB, wB = (w2.alloc (.cells #[.int .i64 xk, .int .i64 xn] 40)) := ⟨_, rfl⟩
      rw [← hwB]
      have hfB : Fr No w2 wB := hwB ▸ frc
      have BB : Bx wB w2.heap.size 40 #[.int .i64 xk, .int .i64 xn] := hwB ▸ bxc
      have hf01 := hfA.trans0 hf1
      have hTB := hT2.keep E hfB
      have KM := hTB.st.cells
      have KCc := hTB.ccells
      rw [hk2] at KCc
      dsimp only [Cal.left] at KCc
      have KX := BB.r2
      have HK := fun W (hW : Fr No wB W) => ckeeper_ok K n _ [] _ m2 ks2 k2 W (hTB.keep E hW)
      rw [hk2] at HK
      dsimp only [Cal.left] at HK
      have HH := fun W (hW : Fr No wB W) => hhy.out n m2 W ⟨s.status, [] ++ [f.left ys], s.heap, s.outs, s.back⟩ rfl (hTB.keep E hW).st
      have hln := hTB.st.crow
      obtain ⟨Ac, cc, hvc, hc1, hc2⟩ := hln.form
      change m2.vc = .slice Ac 1 cc at hvc
      unfold maxLen at hc2
      have hkmb : K.mb < wB.heap.size := hTB.st.box.lt
      replace hwA := Lib.hid hwA
      replace hwB := Lib.hid hwB
      replace hvc := Lib.hid hvc
      replace hTB := Lib.hid hTB
      clear hln HT HP hT2
      (refine wp_region_fr (X := No) (by kernel_rfl) (by kernel_rfl) ?_)
      (repeat (first | (go_big_quiet_skip; (try simp only [Act.put, List.setIfInBounds_toArray, List.set_cons_zero, List.set_cons_succ])) | (go_big_quiet_want; (apply Exists.intro; refine ⟨fun W hW => ?_, ?_⟩); (focus (go_simp; (try simp only [↓IntWalk.iteOmega]); (try simp only [reduceIte]); first | done | exact rfl | exact ⟨trivial, rfl⟩ | exact ⟨rfl, rfl⟩ | (first | (go_at_call 87; exact (HK W hW).mono (fun _ _ h => ⟨h.1, hW.trans0 h.2⟩)) | (go_at_call 79; exact (HH W hW).mono (fun _ _ h => ⟨h.1, hW.trans0 h.2⟩))))); go_big_quiet_on; (try simp only [Act.put, List.setIfInBounds_toArray, List.set_cons_zero, List.set_cons_succ])))); refine wpQuiet_nil ?_
      intro w3 hf3
      obtain ⟨_, _, _, z3, _, _, z6, z7, zf, zl⟩ := KM w3 hf3
      rw [hvc.out] at z3
      obtain ⟨x0, x1, xf, xl⟩ := KX w3 hf3
      clear KM KCc KX HK HH
    · go_wp2_with fail
      go_ret
      simp only [Bool.false_eq_true, if_false] at hRES
      subst hRES
      exact ⟨rfl, ((((hTB.out.keep E hf3).ends 10 (by decide) (Fr.refl No w3)).from (hfB.trans0 hf3)).then hB2 hf2).from hf01⟩
    · go_wp2_with fail
      go_ret
      simp only [if_true] at hRES
      subst hRES
      exact ⟨rfl, ((((hTB.out.keep E hf3).st.setBack E hTB.out.go ⟨xk, xn⟩).from (hfB.trans0 hf3)).then hB2 hf2).from hf01⟩
end Go.Proofs.YtbalicnnlfennaaGreat

/- The program's own machine: any instruction, by its number; one step. -/
namespace Go.Proofs.YtbalicnnlfennaaGreat
open Go.RowKit

def mopFn (o : Int) : FuncId :=
  if o = 1 then 47 else if o = 2 then 48 else if o = 3 then 49
  else if o = 4 then 50 else if o = 5 then 51 else if o = 6 then 52
  else if o = 7 then 53 else if o = 8 then 54 else if o = 9 then 55
  else if o = 10 then 56 else if o = 11 then 57 else if o = 12 then 58
  else if o = 13 then 59 else if o = 14 then 60 else 61
def mopV (mb : Nat) (o : Int) : Value := .func (.func (mopFn o)) #[.pointer (some ⟨mb, 0, none⟩)] #[]
def mopTab (mb : Nat) : Array Value := #[.nilFunc, mopV mb 1, mopV mb 2, mopV mb 3, mopV mb 4, mopV mb 5, mopV mb 6, mopV mb 7, mopV mb 8, mopV mb 9, mopV mb 10, mopV mb 11, mopV mb 12, mopV mb 13, mopV mb 14, mopV mb 15]
theorem mopTab_at {mb o : Nat} (h : 1 ≤ o ∧ o ≤ 15) : (mopTab mb)[o]? = some (mopV mb (o : Int)) := by
  have h15 : o = 1 ∨ o = 2 ∨ o = 3 ∨ o = 4 ∨ o = 5 ∨ o = 6 ∨ o = 7 ∨ o = 8 ∨ o = 9 ∨ o = 10 ∨ o = 11 ∨ o = 12 ∨ o = 13 ∨ o = 14 ∨ o = 15 := by omega
  rcases h15 with rfl | rfl | rfl | rfl | rfl | rfl | rfl | rfl | rfl | rfl | rfl | rfl | rfl | rfl | rfl <;> rfl
theorem mcallFn_gen {P : Program} {f : FuncId} (h : (P.funcs[f]?).map (fun fn => (fn.name == "runtime.NumGoroutine", fn.body.isNone)) = some (false, false)) (args : Array Value) (W : World) : (callFunc f args).run P W = .ok (.enter f args) W := by
  cases hf : P.funcs[f]? with
  | none => rw [hf] at h; cases h
  | some fn =>
    rw [hf] at h
    simp only [Option.map_some, Option.some.injEq, Prod.mk.injEq] at h
    have h1 : ¬ fn.name = "runtime.NumGoroutine" := by simpa using h.1
    have h2 : ¬ fn.body = none := fun e => by rw [e] at h; exact absurd h.2 (by decide)
    simp [callFunc, go_sem, hf, h1, h2]
theorem mcallFn_op {o : Nat} (h : 1 ≤ o ∧ o ≤ 15) (args : Array Value) (W : World) : (callFunc (mopFn (o : Int)) args).run Tryz.prog W = .ok (.enter (mopFn (o : Int)) args) W := by
  have h15 : o = 1 ∨ o = 2 ∨ o = 3 ∨ o = 4 ∨ o = 5 ∨ o = 6 ∨ o = 7 ∨ o = 8 ∨ o = 9 ∨ o = 10 ∨ o = 11 ∨ o = 12 ∨ o = 13 ∨ o = 14 ∨ o = 15 := by omega
  rcases h15 with rfl | rfl | rfl | rfl | rfl | rfl | rfl | rfl | rfl | rfl | rfl | rfl | rfl | rfl | rfl
  all_goals exact mcallFn_gen (by kernel_rfl) args W
theorem opsL_range {o : Int} (h : opsL.contains o = true) : 1 ≤ o ∧ o ≤ 15 := by
  have := opsL_of h
  omega
/-- What an instruction needs (of a run of one method; no call, nothing is set). -/
structure StepOk (p : Plan) (s : St) (f : Cal) (i : Ins) : Prop where
  op : opsL.contains i.op = true
  stack : f.stack.length ≤ 100
  pc0 : 0 ≤ f.pc
  pc1 : f.pc < (mthOf p f.of_).code.length ∧ f.pc < 1000
  loc : i.op = 2 ∨ i.op = 3 → ∃ a : Nat, i.a = a ∧ a < f.locals.length ∧ a < 100
  num : ∀ v ∈ f.stack, v.kind = 1 → numB v.n = true
  ref : ∀ v ∈ f.stack, v.kind = 2 → ∃ j : Nat, v.n = j ∧ j < s.heap.length
  heap : s.heap.length ≤ 12
  outs : s.outs.length ≤ 40
  lay : ∀ r, classM p f.of_.of_.keeper i.name = some r → (layB p r).length ≤ 1000
  got : i.op = 7 → ∀ v r, popV f.stack = some (v, r) → objM p s.heap v (getB p f.of_.of_.keeper i.name i.member).1.of_ = 1 → ∃ a : Nat, (getB p f.of_.of_.keeper i.name i.member).1.at_ = a ∧ a < (s.heap.getD v.n.toNat noObj).fields.length ∧ (s.heap.getD v.n.toNat noObj).fields.length ≤ 1000
theorem OpPost.mono {K : McP} {n n' : Nat} {s' : St} {m : MLay} {w w' : World} {e : Ending} (h : OpPost K n s' m w e w') (hn : n ≤ n') : OpPost K n' s' m w e w' := ⟨h.1, h.2.mono hn⟩
theorem mop_join {K : McP} {n n' : Nat} {s1 s2 : St} {m : MLay} {w : World} {g : FuncId} {args : Array Value} (hn : n ≤ n') (h : Calls Tryz.prog g args w (OpPost K n s1 m w)) (e : s2 = s1) : Calls Tryz.prog g args w (OpPost K n' s2 m w) := by
  subst e
  exact h.mono fun _ _ h => h.mono hn
theorem mop_ok (K : McP) (E : McE K) (n : Nat) (s : St) (f : Cal) (m : MLay) (ks : List KC) (k : KC) (w : World) (h : McT K n s [] f m ks k w) (hn : n < 980000) (i : Ins) (h1 : i.name.size ≤ maxLen) (_ : i.member.size ≤ maxLen) (hs : StepOk K.p s f i) :
    Calls Tryz.prog (mopFn i.op) #[.pointer (some ⟨K.mb, 0, none⟩), insV i] w (OpPost K (n + 3) (insM K.p K.look s [] f i) m w) := by
  have ho := opsL_of hs.op
  rcases ho with ho | ho | ho | ho | ho | ho | ho
  · rw [show mopFn i.op = 47 from by rw [ho]; rfl]
    exact mop_join (by omega) (doNum_ok K E n s [] f m ks k w h hs.stack hs.pc0 hs.pc1.2 i) (by unfold insM; simp [ho])
  · rw [show mopFn i.op = 48 from by rw [ho]; rfl]
    obtain ⟨a, ha1, ha2, ha3⟩ := hs.loc (.inl ho)
    exact mop_join (by omega) (doTake_ok K E n s [] f m ks k w h hs.stack hs.pc0 hs.pc1.2 i a ha1 ha2 ha3) (by unfold insM; rw [ha1, getD_nat ha2 noVal]; simp [ho])
  · rw [show mopFn i.op = 49 from by rw [ho]; rfl]
    obtain ⟨a, ha1, ha2, ha3⟩ := hs.loc (.inr ho)
    exact mop_join (by omega) (doPut_ok K E n s [] f m ks k w h hs.stack hs.pc0 hs.pc1.2 i a ha1 ha2 ha3) (by unfold insM; rw [ha1]; simp [ho]; rfl)
  · rw [show mopFn i.op = 51 from by rw [ho]; rfl]
    exact mop_join (by omega) (doNull_ok K E n s [] f m ks k w h hs.stack hs.pc0 hs.pc1.2 i) (by unfold insM; simp [ho])
  · rw [show mopFn i.op = 52 from by rw [ho]; rfl]
    exact mop_join (by omega) (doNew_ok K E n s [] f m ks k w h hs.stack hs.pc0 hs.pc1.2 hs.heap hn i h1 hs.lay) (by unfold insM; simp [ho]; rfl)
  · rw [show mopFn i.op = 56 from by rw [ho]; rfl]
    exact mop_join (by omega) (doRet_ok K E n s f m ks k w h hs.stack i hs.ref) (by unfold insM; simp [ho]; rfl)
  · rw [show mopFn i.op = 61 from by rw [ho]; rfl]
    exact mop_join (by omega) (doCast_ok K E n s [] f m ks k w h hs.stack hs.pc0 hs.pc1.2 (by have := hs.heap; omega) hs.ref (by omega) i h1) (by unfold insM; simp [ho]; rfl)
end Go.Proofs.YtbalicnnlfennaaGreat

/- The program's own machine: one step. -/
namespace Go.Proofs.YtbalicnnlfennaaGreat
open Go.RowKit

/-- What becomes of a run. -/
def StOk (K : McP) (n : Nat) (s' : St) (m0 : MLay) (w w' : World) : Prop := ∃ m, McS K n s' m w' ∧ (∀ b ∈ mcB K m, b ∈ mcB K m0 ∨ w.heap.size ≤ b) ∧ Fr (K.own m0) w w'
theorem jumpM_nil {p : Plan} {s : St} {fs : List Cal} {f : Cal} {to : Int} (h : (jumpM p s fs f to).status ≠ 1) : (jumpM p s fs f to).frames = [] := by
  unfold jumpM at *
  split at h
  · rw [if_pos (by assumption)]; rfl
  · exact absurd rfl h
theorem putM_nil {p : Plan} {s : St} {fs : List Cal} {f : Cal} {v : Val} (h : (putM p s fs f v).status ≠ 1) : (putM p s fs f v).frames = [] := by
  unfold putM at *
  split at h
  · rw [if_pos (by assumption)]; rfl
  · rw [if_neg (by assumption)]; exact jumpM_nil h
theorem enterM_nil {p : Plan} {look : Bool} {s : St} {fs : List Cal} {o : LMth} {vs : List Val} (h : (enterM p look s fs o vs).status ≠ 1) : (enterM p look s fs o vs).frames = [] := by
  unfold enterM at *
  repeat' split at h
  all_goals first
    | exact absurd rfl h
    | (simp only [*, if_true, if_false]; rfl)
theorem retM_nil {p : Plan} {s : St} {fs : List Cal} {v : Val} (h : (retM p s fs v).status ≠ 1) : (retM p s fs v).frames = [] := by
  unfold retM at *
  split
  · rfl
  · rename_i g hg
    rw [hg] at h
    exact putM_nil h
/-- A run that has ended does nothing any more. -/
def NilOk (s : St) : Prop := s.status ≠ 1 → s.frames = []
theorem nil_ite {c : Prop} [Decidable c] {a b : St} (ha : NilOk a) (hb : NilOk b) : NilOk (if c then a else b) := by split <;> assumption
theorem insM_nil {p : Plan} {look : Bool} {s : St} {f : Cal} {i : Ins} : NilOk (insM p look s [] f i) := by
  have hp : ∀ {s : St} {fs f v}, NilOk (putM p s fs f v) := fun {_ _ _ _} => putM_nil
  have hj : ∀ {s : St} {fs f t}, NilOk (jumpM p s fs f t) := fun {_ _ _ _} => jumpM_nil
  have hn : ∀ {s : St} {fs f}, NilOk (nextM p s fs f) := fun {_ _ _} => jumpM_nil
  have hr : ∀ {s : St} {fs v}, NilOk (retM p s fs v) := fun {_ _ _} => retM_nil
  have he : ∀ {s : St} {fs o vs}, NilOk (enterM p look s fs o vs) := fun {_ _ _ _} => enterM_nil
  have hz : ∀ {s : St} {c}, NilOk (s.ends c) := fun {_ _} _ => rfl
  unfold insM
  repeat' (first | exact hz | exact hp | exact hn | exact hj | exact hr | exact he | refine nil_ite ?_ ?_ | split)

set_option maxRecDepth 100000 in
set_option maxHeartbeats 4000000 in
theorem mend_ok (K : McP) (E : McE K) (n : Nat) (s' : St) (fs : List Cal) (m : MLay) (w : World) (h : McS K n ⟨1, fs, s'.heap, s'.outs, s'.back⟩ m w) (h1 : s'.status = 1 → fs = s'.frames) (h2 : s'.status ≠ 1 → s'.frames = []) :
    Calls Tryz.prog 39 #[.pointer (some ⟨K.mb, 0, none⟩), .int .i64 s'.status] w (fun e w' => e = .returned (.tuple #[]) ∧ StOk K n s' m w w') := by
  obtain ⟨st, fr, hp, ou, bk⟩ := s'
  dsimp only at *
  have KM := h.cells w (Fr.refl _ _)
  obtain ⟨_, _, z2, z3, _, _, _, _, zf, zl⟩ := KM
  by_cases hc : st = 1
  · subst hc
    have := h1 rfl
    subst this
    have hfin : StOk K n ⟨1, fs, hp, ou, bk⟩ m w w := ⟨m, h, fun b hb => .inl hb, Fr.refl _ _⟩
    clear h h1 h2
    go_enter Tryz.func39, Tryz.ntmps39
    go_wp2
    go_end0
    exact ⟨rfl, hfin⟩
  · have := h2 hc
    subst this
    have hst : Fr (fun b => b = K.mb) w ((w.setCell ⟨K.mb, 2, none⟩ (.int .i64 st)).setCell ⟨K.mb, 3, none⟩ (.slice none 0 0)) := (Fr.one _ _ _ _).same (Fr.one _ _ _ _)
    have hb := (h.box.set_ 2 (.int .i64 st)).set_ 3 (.slice none 0 0)
    have hM := h.noCalls E hst (st := st) hb
    have hfin : StOk K n ⟨st, [], hp, ou, bk⟩ m w ((w.setCell ⟨K.mb, 2, none⟩ (.int .i64 st)).setCell ⟨K.mb, 3, none⟩ (.slice none 0 0)) := ⟨_, hM, fun b hb => by
      rcases mem_mcB.1 hb with hb | hb | hb | hb | hb | hb
      · exact .inl (mem_mcB.2 (.inl hb))
      · cases hb
      · simp at hb
      · exact .inl (mem_mcB.2 (.inr (.inr (.inr (.inl hb)))))
      · exact .inl (mem_mcB.2 (.inr (.inr (.inr (.inr (.inl hb))))))
      · exact .inl (mem_mcB.2 (.inr (.inr (.inr (.inr (.inr hb)))))), hst.mono (fun b _ e => .inr (by subst e; exact mem_mcB.2 (.inl rfl)))⟩
    clear h h1 h2 hM hb
    go_enter Tryz.func39, Tryz.ntmps39
    go_wp2
    go_end0
    exact ⟨rfl, hfin⟩
end Go.Proofs.YtbalicnnlfennaaGreat

/- What lay in the machine's memory at its beginning. -/
namespace Go.Proofs.YtbalicnnlfennaaGreat
open Go.RowKit

section
variable {K : McP} {w : World}
theorem Sl.mlate {α : Type} {sz : Nat} {R R' : List Value → α → Prop} {v : Value} {xs : List α} (h : Sl (fun b => b = K.bl) K.w0 sz R v xs) (hsz : 0 < sz) (hf : Fr K.late K.w0 w) (hR : ∀ cs x, x ∈ xs → R cs x → R' cs x) : Sl K.late w sz R' v xs := by
  have h1 := h.oldX (R' := R') hsz hR
  exact (h1.weaken (Y := K.late) (fun _ h => h) (fun _ _ _ h => h)).keep hf (fun _ h => h) (fun _ _ _ h => h)
/-- What lies elsewhere lay there at the beginning. -/
theorem Sl.back {α : Type} {sz : Nat} {R : List Value → α → Prop} {v : Value} {xs : List α} (h : Sl K.late w sz R v xs) (hf : Fr K.late K.w0 w) : Sl (fun b => b = K.bl) K.w0 sz R v xs := by
  obtain ⟨A, cap, rfl, h1, h2, h3⟩ := h
  refine ⟨A, cap, rfl, h1, h2, fun h0 => ?_⟩
  obtain ⟨b, off, rfl, hX, hc⟩ := h3 h0
  have hb : b < K.w0.heap.size := by
    rcases Nat.lt_or_ge b K.w0.heap.size with h9 | h9
    · exact h9
    · exact absurd (.inr h9) hX
  refine ⟨b, off, rfl, fun e => hX (.inl e), fun k hk => ?_⟩
  obtain ⟨cs, hR, hl, hcs⟩ := hc k hk
  exact ⟨cs, hR, hl, fun j hj => by rw [← hf.cellX _ hb hX]; exact hcs j hj⟩
end
end Go.Proofs.YtbalicnnlfennaaGreat

/- The program's own machine: one step. -/
namespace Go.Proofs.YtbalicnnlfennaaGreat
open Go.RowKit

/-- The topmost method's instruction in memory. -/
theorem McT.ins {K : McP} {n : Nat} {s : St} {fs : List Cal} {f : Cal} {m : MLay} {ks : List KC} {k : KC} {w : World} (h : McT K n s fs f m ks k w) {a : Nat} (ha : a < (mthOf K.p f.of_).code.length) :
    ∃ b off c, k.vc = .slice (some ⟨b, off, none⟩) (mthOf K.p f.of_).code.length c ∧ (mthOf K.p f.of_).code[a].name.size ≤ maxLen ∧ (mthOf K.p f.of_).code[a].member.size ≤ maxLen ∧ ∀ W, Fr No w W → W.cell? ⟨b, off + a * 4, none⟩ = some (.int .i64 (mthOf K.p f.of_).code[a].op) ∧ W.cell? ⟨b, off + a * 4 + 1, none⟩ = some (.int .i64 (mthOf K.p f.of_).code[a].a) ∧ W.cell? ⟨b, off + a * 4 + 2, none⟩ = some (.string (mthOf K.p f.of_).code[a].name) ∧ W.cell? ⟨b, off + a * 4 + 3, none⟩ = some (.string (mthOf K.p f.of_).code[a].member) ∧ b < W.heap.size := by
  have hS := h.cal.2.2.2.1.mlate (R' := InsC) (by decide) h.st.anchor (fun _ _ _ h => h)
  obtain ⟨A, c, hv, _, _⟩ := hS.form
  rw [hv] at hS
  obtain ⟨b, off, rfl, _, i0, i1, i2, i3, z1, z2⟩ := hS.ins ha
  exact ⟨b, off, c, hv, z1, z2, fun W hW => ⟨hW.keep0 i0, hW.keep0 i1, hW.keep0 i2, hW.keep0 i3, lt_of_cell (hW.keep0 i0)⟩⟩

set_option maxRecDepth 100000 in
set_option maxHeartbeats 4000000 in
theorem step_idle (K : McP) (n : Nat) (s : St) (m : MLay) (w : World) (h : McS K n s m w) (hs : s.status ≠ 1) :
    Calls Tryz.prog 26 #[.pointer (some ⟨K.mb, 0, none⟩)] w (fun e w' => e = .returned (.tuple #[]) ∧ StOk K n s m w w') := by
  have hfin : StOk K n s m w w := ⟨m, h, fun b hb => .inl hb, Fr.refl _ _⟩
  obtain ⟨_, _, z2, _, _, _, _, _, _, zl⟩ := h.cells w (Fr.refl _ _)
  clear h
  go_enter Tryz.func26, Tryz.ntmps26
  go_wp2
  refine bodyPost_ret (results_none rfl _ _ _) rfl ?_
  exact ⟨rfl, hfin⟩

set_option maxRecDepth 100000 in
set_option maxHeartbeats 4000000 in
theorem step_ok (K : McP) (E : McE K) (n : Nat) (s : St) (f : Cal) (m : MLay) (ks : List KC) (k : KC) (w : World) (h : McT K n s [] f m ks k w) (hn : n < 980000) (a : Nat) (hpc : f.pc = a) (ha : a < (mthOf K.p f.of_).code.length) (_ : a < 1000) (hs : StepOk K.p s f (mthOf K.p f.of_).code[a]) :
    Calls Tryz.prog 26 #[.pointer (some ⟨K.mb, 0, none⟩)] w (fun e w' => e = .returned (.tuple #[]) ∧ StOk K (n + 3) (insM K.p K.look s [] f (mthOf K.p f.of_).code[a]) m w w') := by
  obtain ⟨b, off, c, hvc, h1, h2, KI⟩ := h.ins ha
  have HM := fun W (hW : Fr No w W) => mop_ok K E n s f m ks k W (h.keep E hW) hn _ h1 h2 hs
  have HT := fun W (hW : Fr No w W) => top_ok K n s [] f m ks k W (h.keep E hW)
  have hop := opsL_range hs.op
  have hnil := @insM_nil K.p K.look s f (mthOf K.p f.of_).code[a]
  have HE := fun (fs : List Cal) (m' : MLay) W (hS : McS K (n + 3) ⟨1, fs, (insM K.p K.look s [] f (mthOf K.p f.of_).code[a]).heap, (insM K.p K.look s [] f (mthOf K.p f.of_).code[a]).outs, (insM K.p K.look s [] f (mthOf K.p f.of_).code[a]).back⟩ m' W) (h1 : (insM K.p K.look s [] f (mthOf K.p f.of_).code[a]).status = 1 → fs = (insM K.p K.look s [] f (mthOf K.p f.of_).code[a]).frames) => mend_ok K E (n + 3) (insM K.p K.look s [] f (mthOf K.p f.of_).code[a]) fs m' W hS h1 hnil
  obtain ⟨_, _, z2, _, _, _, _, _, _, zl⟩ := h.st.cells w (Fr.refl _ _)
  rw [h.go] at z2
  have KK := h.ccells
  rw [hvc, hpc] at KK
  have hcl := h.code
  obtain ⟨Ax, cx, hvx, hlx⟩ := hcl
  unfold maxLen at hlx
  generalize insM K.p K.look s [] f (mthOf K.p f.of_).code[a] = s' at *
  generalize (mthOf K.p f.of_).code[a] = i at *
  generalize (mthOf K.p f.of_).code.length = len at *
  obtain ⟨iop, ia, inm, imb⟩ := i
  dsimp only at *
  obtain ⟨o, rfl⟩ : ∃ o : Nat, iop = (o : Int) := ⟨iop.toNat, by omega⟩
  have ho15 : 1 ≤ o ∧ o ≤ 15 := by omega
  have hTab := mopTab_at (mb := K.mb) ho15
  have hmf : ∀ (fn : Fn) (first cap : Array Value) (w : World), (Instr.makeFunc fn first cap).run Tryz.prog w = .ok (.func fn first cap) w := fun _ _ _ _ => rfl
  obtain ⟨wA, hwA⟩ : ∃ wA, wA = (w.alloc (.cells (mopTab K.mb) 120)) := ⟨_, rfl⟩
  have hfA : Fr No w wA := hwA ▸ frc
  have B0 := (hwA ▸ bxc : Bx wA w.heap.size 120 (mopTab K.mb))
  clear h hvc hpc hs hvx hnil hop
  go_enter Tryz.func26, Tryz.ntmps26
  go_wp2_with fail
  have HT2 := hwA ▸ HT _ hfA
  clear HT
  refine HT2.mono ?_
  rintro e w1 ⟨rfl, hf1⟩
  rw [← hwA] at hf1
  replace hwA := Lib.hid hwA
  clear HT2
  have hf2 : Fr No w w1 := hfA.trans0 hf1
  have KO : ∀ W, Fr No w1 W → W.cell? ⟨w.heap.size, o, none⟩ = some (.func (.func (mopFn o)) #[.pointer (some ⟨K.mb, 0, none⟩)] #[]) ∧ W.frozen? ⟨w.heap.size, o, none⟩ = false ∧ w.heap.size < W.heap.size := fun W hW => by
    have B := (B0.keep hf1).keep hW
    have h15 : o = 1 ∨ o = 2 ∨ o = 3 ∨ o = 4 ∨ o = 5 ∨ o = 6 ∨ o = 7 ∨ o = 8 ∨ o = 9 ∨ o = 10 ∨ o = 11 ∨ o = 12 ∨ o = 13 ∨ o = 14 ∨ o = 15 := by omega
    rcases h15 with rfl | rfl | rfl | rfl | rfl | rfl | rfl | rfl | rfl | rfl | rfl | rfl | rfl | rfl | rfl
    all_goals exact ⟨B.cell _, B.frozen _, B.lt⟩
  have KI1 : ∀ W, Fr No w1 W → W.cell? ⟨b, off + a * 4, none⟩ = some (.int .i64 o) ∧ W.cell? ⟨b, off + a * 4 + 1, none⟩ = some (.int .i64 ia) ∧ W.cell? ⟨b, off + a * 4 + 2, none⟩ = some (.string inm) ∧ W.cell? ⟨b, off + a * 4 + 3, none⟩ = some (.string imb) ∧ b < W.heap.size := fun W hW => KI W (hf2.trans0 hW)
  have KK1 : ∀ W, Fr No w1 W → W.cell? ⟨k.c, 9, none⟩ = some (.slice (some ⟨b, off, none⟩) len c) ∧ W.cell? ⟨k.c, 11, none⟩ = some (.int .i64 (a : Int)) ∧ k.c < W.heap.size := fun W hW => by
    have h9 := KK _ (hf2.trans0 hW)
    exact ⟨h9.2.2.2.2.2.1, h9.2.2.2.2.2.2.1, h9.2.2.2.2.2.2.2.2.2.2.2⟩
  have hlt1 : ∀ W, Fr No w1 W → w1.heap.size ≤ W.heap.size := fun W hW => hW.size
  clear KI KK B0
  go_wp2_with fail
  refine wp_region_monR 12 54 [mV (.pointer (some ⟨k.c, 0, none⟩)), mV (.pointer (some ⟨k.c, 0, none⟩)), mV (.pointer (some ⟨k.c, 3, none⟩)), mV (.pointer (some ⟨k.c, 9, none⟩)), mV (.slice (some ⟨b, off, none⟩) len c), mV (.pointer (some ⟨k.c, 0, none⟩)), mV (.pointer (some ⟨k.c, 0, none⟩)), mV (.pointer (some ⟨k.c, 11, none⟩)), mV (.int .i64 (a : Int)), mV (.pointer (some ⟨b, off + a * 4, none⟩)), mV (.agg #[.int .i64 o, .int .i64 ia, .string inm, .string imb]), mB 27 (#[.int .i64 0, .int .i64 0, .string ⟨#[]⟩, .string ⟨#[]⟩]) w1.heap.size] (by kernel_rfl) (by kernel_rfl) (by simp) ?_ ?_
  · refine hopC ?_ <| hopC ?_ <| hopC ?_ <| hopC ?_ <| hopC ?_ <| hopC ?_ <| hopC ?_ <| hopC ?_ <| hopC ?_ <| hopC ?_ <| hopC ?_ <| hopC ?_ <| hopZ
    all_goals (intro a' W hW hoff hdep; have hbs := hW.size; have H3 := hoff 3 rfl; refine nE rfl ?_)
    · simp [execOp, Act.eval, H3, go_sem, givesUpon]; exact fr1 rfl
    · have D43 : _ = _ := hdep 0 43 rfl; simp [execOp, Act.eval, D43, go_sem, givesUpon]; exact fr1 rfl
    · have D44 : _ = _ := hdep 1 44 rfl; simp [execOp, Act.eval, D44, go_sem, givesUpon]; exact fr1 rfl
    · have D45 : _ = _ := hdep 2 45 rfl; simp [execOp, Act.eval, D45, go_sem, givesUpon]; exact fr1 rfl
    · have D46 : _ = _ := hdep 3 46 rfl; clear hoff hdep; simp [execOp, Act.eval, go_sem, givesUpon, *]; exact fr1 rfl
    · simp [execOp, Act.eval, H3, go_sem, givesUpon]; exact fr1 rfl
    · have D48 : _ = _ := hdep 5 48 rfl; simp [execOp, Act.eval, D48, go_sem, givesUpon]; exact fr1 rfl
    · have D49 : _ = _ := hdep 6 49 rfl; simp [execOp, Act.eval, D49, go_sem, givesUpon]; exact fr1 rfl
    · have D50 : _ = _ := hdep 7 50 rfl; clear hoff hdep; simp [execOp, Act.eval, go_sem, givesUpon, *]; exact fr1 rfl
    · have D47 : _ = _ := hdep 4 47 rfl; have D51 : _ = _ := hdep 8 51 rfl; clear hoff hdep; simp [execOp, Act.eval, go_sem, givesUpon, *]; exact fr1 rfl
    · have D52 : _ = _ := hdep 9 52 rfl; clear hoff hdep; simp [execOp, Act.eval, go_sem, givesUpon, *]; exact fr1 rfl
    · simp [execOp, go_sem, givesUpon]; exact ⟨(Fr.refl _ _).alloc _, ⟨_, rfl, Bx.new_ rfl, hbs⟩, Nat.le_refl _⟩
  intro vs WR hWR hv hne
  obtain ⟨b11, e11, hb11, hl11⟩ := hv 11 (by omega)
  simp only [List.drop_succ_cons, List.drop_zero, putsR_B, putsR_V, putsR_0, Nat.zero_add, Nat.reduceAdd, e11]
  simp only [Act.put, List.setIfInBounds_toArray, List.set_cons_zero, List.set_cons_succ]
  clear e11 hv
  obtain ⟨p0, p1, p2, p3⟩ := hb11.c4
  have pf := fun i => hb11.frozen i
  have pl := hb11.lt
  have hwR := hWR.size
  have h1R := hlt1 _ (Fr.refl _ _)
  have hf2s := hf2.size
  have hBI := hb11.fill4 (c0 := .int .i64 o) (c1 := .int .i64 ia) (c2 := .string inm) (c3 := .string imb)
  have hf3 := (((hWR.setCell (p := ⟨b11, 0, none⟩) (by dsimp only; omega) (.int .i64 o)).setCell (p := ⟨b11, 1, none⟩) (by dsimp only; omega) (.int .i64 ia)).setCell (p := ⟨b11, 2, none⟩) (by dsimp only; omega) (.string inm)).setCell (p := ⟨b11, 3, none⟩) (by dsimp only; omega) (.string imb)
  clear hb11 hne KI1 KK1
  go_wp2_with fail
  obtain ⟨w3, hw3⟩ : ∃ w3, w3 = ((((WR.setCell ⟨b11, 0, none⟩ (.int .i64 o)).setCell ⟨b11, 1, none⟩ (.int .i64 ia)).setCell ⟨b11, 2, none⟩ (.string inm)).setCell ⟨b11, 3, none⟩ (.string imb)) := ⟨_, rfl⟩
  rw [← hw3] at hf3 hBI ⊢
  replace hw3 := Lib.hid hw3
  have KB := hBI.r4
  have KO3 := fun W hW => KO W (hf3.trans0 hW)
  have hf4 := hf2.trans0 hf3
  have HM2 := fun W (hW : Fr No w3 W) => HM W (hf4.trans0 hW)
  clear KO p0 p1 p2 p3 pf pl hwR h1R hBI HM hlt1
  have h015 : o < 16 := by omega
  refine wp_region_monR 6 60 [mE (mV (.pointer (some ⟨K.mb, 0, none⟩))), mV (.pointer (some ⟨b11, 0, none⟩)), mV (.int .i64 o), mV (.pointer (some ⟨w.heap.size, o, none⟩)), mV (.func (.func (mopFn o)) #[.pointer (some ⟨K.mb, 0, none⟩)] #[]), mV (.agg #[.int .i64 o, .int .i64 ia, .string inm, .string imb])] (by kernel_rfl) (by kernel_rfl) (by simp) ?_ ?_
  · refine hopC ?_ <| hopC ?_ <| hopC ?_ <| hopC ?_ <| hopC ?_ <| hopC ?_ <| hopZ
    all_goals (intro a' W hW hoff hdep; have hbs := hW.size; have H0 := hoff 0 rfl; have H4 := hoff 4 rfl; have H2 := hoff 2 rfl)
    · exact yE rfl ⟨.pointer (some ⟨K.mb, 0, none⟩), fun W => by simp [execOp, Act.eval, H0, go_sem], rfl, rfl⟩
    · refine nE rfl ?_; simp [execOp, Act.eval, H4, go_sem, givesUpon]; exact fr1 rfl
    · have D55 : _ = _ := hdep 1 55 rfl; refine nE rfl ?_; clear hoff hdep; simp [execOp, Act.eval, go_sem, givesUpon, *]; exact fr1 rfl
    · have D56 : _ = _ := hdep 2 56 rfl; refine nE rfl ?_; clear hoff hdep; simp [execOp, Act.eval, go_sem, givesUpon, ↓IntWalk.iteOmega, *]; exact fr1 rfl
    · have D57 : _ = _ := hdep 3 57 rfl; refine nE rfl ?_; clear hoff hdep; simp [execOp, Act.eval, go_sem, givesUpon, *]; exact fr1 rfl
    · refine nE rfl ?_; clear hoff hdep; simp [execOp, Act.eval, go_sem, givesUpon, *]; exact fr1 rfl
  intro vs WR hWR hv hne
  simp only [List.drop_succ_cons, List.drop_zero, putsR_EV, putsR_V, putsR_0, Nat.zero_add, Nat.reduceAdd]
  simp only [Act.put, List.setIfInBounds_toArray, List.set_cons_zero, List.set_cons_succ]
  clear hv
  clear hne
  have hM4 := HM2 WR hWR
  have hf5 := hf4.trans0 hWR
  clear HM2 KO3 KB
  go_wp2_with fail
  rw [mcallFn_op ho15, Oper.upon_enter]
  refine hM4.mono ?_
  rintro e w6 ⟨rfl, fs6, m6, hS6, h16, hm6, hf6⟩
  have hE6 := HE fs6 m6 w6 hS6 h16
  clear HE
  have hfin : ∀ w7, StOk K (n + 3) s' m6 w6 w7 → StOk K (n + 3) s' m w w7 := fun w7 ⟨m7, hS7, hm7, hf7⟩ => ⟨m7, hS7, fun b hb => (hm7 b hb).elim (fun h => (hm6 b h).imp id (fun h => Nat.le_trans hf5.size h)) (fun h => .inr (Nat.le_trans hf5.size (Nat.le_trans hf6.size h))), (hf5.of0.same hf6).trans hf7 (fun b hb h => h.elim .inl (fun h => (hm6 b h).elim .inr (fun h => absurd hb (Nat.not_lt.2 (Nat.le_trans hf5.size h)))))⟩
  go_wp2_with (go_at_call 39; go_loud (refine hE6.mono ?_); rintro e w7 ⟨rfl, h7⟩)
  refine bodyPost_end (results_none rfl _ _ _) rfl ?_
  exact ⟨rfl, hfin _ h7⟩
end Go.Proofs.YtbalicnnlfennaaGreat
