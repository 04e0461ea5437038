/- The program's own machine: any instruction, by its number; one step. -/
import Derived.Test.YtbalicnnlfennaaGreatCK12
import Derived.Test.YtbalicnnlfennaaGreatCK11
import Derived.Test.YtbalicnnlfennaaGreatCK17
import Derived.Laws.EntriesVeiled
namespace Go.Proofs.YtbalicnnlfennaaGreat
open Go.RowKit

def mopFn (o : Int) : FuncId :=
 if o = 1 then 47 else if o = 2 then 48 else if o = 3 then 49
 else if o = 4 then 50 else if o = 5 then 51 else if o = 6 then 52
 else if o = 7 then 53 else if o = 8 then 54 else if o = 9 then 55
 else if o = 10 then 56 else if o = 11 then 57 else if o = 12 then 58
 else if o = 13 then 59 else if o = 14 then 60 else 61
def mopV (mb : Nat) (o : Int) : Value := .func (.func (mopFn o)) #[.pointer (some ⟨mb, 0, none⟩)] #[]
def mopTab (mb : Nat) : Array Value := #[.nilFunc, mopV mb 1, mopV mb 2, mopV mb 3, mopV mb 4, mopV mb 5, mopV mb 6, mopV mb 7, mopV mb 8, mopV mb 9, mopV mb 10, mopV mb 11, mopV mb 12, mopV mb 13, mopV mb 14, mopV mb 15]
theorem mopTab_at {mb o : Nat} (h : 1 ≤ o ∧ o ≤ 15) : (mopTab mb)[o]? = some (mopV mb (o : Int)) := by
 have h15 : o = 1 ∨ o = 2 ∨ o = 3 ∨ o = 4 ∨ o = 5 ∨ o = 6 ∨ o = 7 ∨ o = 8 ∨ o = 9 ∨ o = 10 ∨ o = 11 ∨ o = 12 ∨ o = 13 ∨ o = 14 ∨ o = 15 := by omega
 rcases h15 with rfl | rfl | rfl | rfl | rfl | rfl | rfl | rfl | rfl | rfl | rfl | rfl | rfl | rfl | rfl <;> rfl
theorem mcallFn_gen {P : Program} {f : FuncId} (h : (P.funcs[f]?).map (fun fn => (fn.name == "runtime.NumGoroutine", fn.body.isNone)) = some (false, false)) (args : Array Value) (W : World) : (callFunc f args).run P W = .ok (.enter f args) W := by
 cases hf : P.funcs[f]? with
 | none => rw [hf] at h; cases h
 | some fn =>
  rw [hf] at h
  simp only [Option.map_some, Option.some.injEq, Prod.mk.injEq] at h
  have h1 : ¬ fn.name = "runtime.NumGoroutine" := by simpa using h.1
  have h2 : ¬ fn.body = none := fun e => by rw [e] at h; exact absurd h.2 (by decide)
  simp [callFunc, go_sem, hf, h1, h2]
theorem mcallFn_op {o : Nat} (h : 1 ≤ o ∧ o ≤ 15) (args : Array Value) (W : World) : (callFunc (mopFn (o : Int)) args).run Tryz.prog W = .ok (.enter (mopFn (o : Int)) args) W := by
 have h15 : o = 1 ∨ o = 2 ∨ o = 3 ∨ o = 4 ∨ o = 5 ∨ o = 6 ∨ o = 7 ∨ o = 8 ∨ o = 9 ∨ o = 10 ∨ o = 11 ∨ o = 12 ∨ o = 13 ∨ o = 14 ∨ o = 15 := by omega
 rcases h15 with rfl | rfl | rfl | rfl | rfl | rfl | rfl | rfl | rfl | rfl | rfl | rfl | rfl | rfl | rfl
 all_goals exact mcallFn_gen (by kernel_rfl) args W
theorem opsL_range {o : Int} (h : opsL.contains o = true) : 1 ≤ o ∧ o ≤ 15 := by
 have := opsL_of h
 omega
structure StepOk (p : Plan) (s : St) (f : Cal) (i : Ins) : Prop where
 op : opsL.contains i.op = true
 stack : f.stack.length ≤ 100
 pc0 : 0 ≤ f.pc
 pc1 : f.pc < (mthOf p f.of_).code.length ∧ f.pc < 1000
 loc : i.op = 2 ∨ i.op = 3 → ∃ a : Nat, i.a = a ∧ a < f.locals.length ∧ a < 100
 num : ∀ v ∈ f.stack, v.kind = 1 → numB v.n = true
 ref : ∀ v ∈ f.stack, v.kind = 2 → ∃ j : Nat, v.n = j ∧ j < s.heap.length
 heap : s.heap.length ≤ 12
 outs : s.outs.length ≤ 40
 lay : ∀ r, classM p f.of_.of_.keeper i.name = some r → (layB p r).length ≤ 1000
 got : i.op = 7 → ∀ v r, popV f.stack = some (v, r) → objM p s.heap v (getB p f.of_.of_.keeper i.name i.member).1.of_ = 1 → ∃ a : Nat, (getB p f.of_.of_.keeper i.name i.member).1.at_ = a ∧ a < (s.heap.getD v.n.toNat noObj).fields.length ∧ (s.heap.getD v.n.toNat noObj).fields.length ≤ 1000
theorem OpPost.mono {K : McP} {n n' : Nat} {s' : St} {m : MLay} {w w' : World} {e : Ending} (h : OpPost K n s' m w e w') (hn : n ≤ n') : OpPost K n' s' m w e w' := ⟨h.1, h.2.mono hn⟩
theorem mop_join {K : McP} {n n' : Nat} {s1 s2 : St} {m : MLay} {w : World} {g : FuncId} {args : Array Value} (hn : n ≤ n') (h : Calls Tryz.prog g args w (OpPost K n s1 m w)) (e : s2 = s1) : Calls Tryz.prog g args w (OpPost K n' s2 m w) := by
 subst e
 exact h.mono fun _ _ h => h.mono hn
theorem mop_ok (K : McP) (E : McE K) (n : Nat) (s : St) (f : Cal) (m : MLay) (ks : List KC) (k : KC) (w : World) (h : McT K n s [] f m ks k w) (hn : n < 980000) (i : Ins) (h1 : i.name.size ≤ maxLen) (h2 : i.member.size ≤ maxLen) (hs : StepOk K.p s f i) :
  Calls Tryz.prog (mopFn i.op) #[.pointer (some ⟨K.mb, 0, none⟩), insV i] w (OpPost K (n + 3) (insM K.p K.look s [] f i) m w) := by
 have ho := opsL_of hs.op
 rcases ho with ho | ho | ho | ho | ho | ho | ho
 ·rw [show mopFn i.op = 47 from by rw [ho]; rfl]
  exact mop_join (by omega) (doNum_ok K E n s [] f m ks k w h hs.stack hs.pc0 hs.pc1.2 i) (by unfold insM; simp [ho])
 ·rw [show mopFn i.op = 48 from by rw [ho]; rfl]
  obtain ⟨a, ha1, ha2, ha3⟩ := hs.loc (.inl ho)
  exact mop_join (by omega) (doTake_ok K E n s [] f m ks k w h hs.stack hs.pc0 hs.pc1.2 i a ha1 ha2 ha3) (by unfold insM; rw [ha1, getD_nat ha2 noVal]; simp [ho])
 ·rw [show mopFn i.op = 52 from by rw [ho]; rfl]
  exact mop_join (by omega) (doNew_ok K E n s [] f m ks k w h hs.stack hs.pc0 hs.pc1.2 hs.heap hn i h1 hs.lay) (by unfold insM; simp [ho]; rfl)
 ·rw [show mopFn i.op = 53 from by rw [ho]; rfl]
  exact mop_join (by omega) (doGet_ok K E n s [] f m ks k w h hs.stack hs.pc0 hs.pc1.2 hs.heap hn i h1 h2 hs.ref (hs.got ho)) (by unfold insM; simp [ho]; rfl)
 ·rw [show mopFn i.op = 56 from by rw [ho]; rfl]
  exact mop_join (by omega) (doRet_ok K E n s f m ks k w h hs.stack i hs.ref) (by unfold insM; simp [ho]; rfl)
 ·rw [show mopFn i.op = 58 from by rw [ho]; rfl]
  exact mop_join (by omega) (doNil_ok K E n s [] f m ks k w h hs.stack hs.pc0 hs.pc1.2 i) (by unfold insM; simp [ho]; rfl)
 ·rw [show mopFn i.op = 61 from by rw [ho]; rfl]
  exact mop_join (by omega) (doCast_ok K E n s [] f m ks k w h hs.stack hs.pc0 hs.pc1.2 (by have := hs.heap; omega) hs.ref (by omega) i h1) (by unfold insM; simp [ho]; rfl)
end Go.Proofs.YtbalicnnlfennaaGreat

namespace Go.Proofs.YtbalicnnlfennaaGreat
open Go.RowKit

def StOk (K : McP) (n : Nat) (s' : St) (m0 : MLay) (w w' : World) : Prop := ∃ m, McS K n s' m w' ∧ (∀ b ∈ mcB K m, b ∈ mcB K m0 ∨ w.heap.size ≤ b) ∧ Fr (K.own m0) w w'
theorem jumpM_nil {p : Plan} {s : St} {fs : List Cal} {f : Cal} {to : Int} (h : (jumpM p s fs f to).status ≠ 1) : (jumpM p s fs f to).frames = [] := by
 unfold jumpM at *
 split at h
 ·rw [if_pos (by assumption)]; rfl
 ·exact absurd rfl h
theorem putM_nil {p : Plan} {s : St} {fs : List Cal} {f : Cal} {v : Val} (h : (putM p s fs f v).status ≠ 1) : (putM p s fs f v).frames = [] := by
 unfold putM at *
 split at h
 ·rw [if_pos (by assumption)]; rfl
 ·rw [if_neg (by assumption)]; exact jumpM_nil h
theorem enterM_nil {p : Plan} {look : Bool} {s : St} {fs : List Cal} {o : LMth} {vs : List Val} (h : (enterM p look s fs o vs).status ≠ 1) : (enterM p look s fs o vs).frames = [] := by
 unfold enterM at *
 repeat' split at h
 all_goals first
  | exact absurd rfl h
  | (simp only [*, if_true, if_false]; rfl)
theorem retM_nil {p : Plan} {s : St} {fs : List Cal} {v : Val} (h : (retM p s fs v).status ≠ 1) : (retM p s fs v).frames = [] := by
 unfold retM at *
 split
 ·rfl
 ·rename_i g hg
  rw [hg] at h
  exact putM_nil h
def NilOk (s : St) : Prop := s.status ≠ 1 → s.frames = []
theorem nil_ite {c : Prop} [Decidable c] {a b : St} (ha : NilOk a) (hb : NilOk b) : NilOk (if c then a else b) := by split <;> assumption
theorem insM_nil {p : Plan} {look : Bool} {s : St} {f : Cal} {i : Ins} : NilOk (insM p look s [] f i) := by
 have hp : ∀ {s : St} {fs f v}, NilOk (putM p s fs f v) := fun {_ _ _ _} => putM_nil
 have hj : ∀ {s : St} {fs f t}, NilOk (jumpM p s fs f t) := fun {_ _ _ _} => jumpM_nil
 have hn : ∀ {s : St} {fs f}, NilOk (nextM p s fs f) := fun {_ _ _} => jumpM_nil
 have hr : ∀ {s : St} {fs v}, NilOk (retM p s fs v) := fun {_ _ _} => retM_nil
 have he : ∀ {s : St} {fs o vs}, NilOk (enterM p look s fs o vs) := fun {_ _ _ _} => enterM_nil
 have hz : ∀ {s : St} {c}, NilOk (s.ends c) := fun {_ _} _ => rfl
 unfold insM
 repeat' (first | exact hz | exact hp | exact hn | exact hj | exact hr | exact he | refine nil_ite ?_ ?_ | split)

set_option maxRecDepth 100000 in
set_option maxHeartbeats 4000000 in
theorem mend_ok (K : McP) (E : McE K) (n : Nat) (s' : St) (fs : List Cal) (m : MLay) (w : World) (h : McS K n ⟨1, fs, s'.heap, s'.outs, s'.back⟩ m w) (h1 : s'.status = 1 → fs = s'.frames) (h2 : s'.status ≠ 1 → s'.frames = []) :
  Calls Tryz.prog 39 #[.pointer (some ⟨K.mb, 0, none⟩), .int .i64 s'.status] w (fun e w' => e = .returned (.tuple #[]) ∧ StOk K n s' m w w') := by
 obtain ⟨st, fr, hp, ou, bk⟩ := s'
 dsimp only at *
 have KM := h.cells w (Fr.refl _ _)
 obtain ⟨_, _, z2, z3, _, _, _, _, zf, zl⟩ := KM
 by_cases hc : st = 1
 ·subst hc
  have := h1 rfl
  subst this
  have hfin : StOk K n ⟨1, fs, hp, ou, bk⟩ m w w := ⟨m, h, fun b hb => .inl hb, Fr.refl _ _⟩
  clear h h1 h2
  go_enter Tryz.func39, Tryz.ntmps39
  go_wp2
  go_end0
  exact ⟨rfl, hfin⟩
 ·have := h2 hc
  subst this
  have hst : Fr (fun b => b = K.mb) w ((w.setCell ⟨K.mb, 2, none⟩ (.int .i64 st)).setCell ⟨K.mb, 3, none⟩ (.slice none 0 0)) := (Fr.one _ _ _ _).same (Fr.one _ _ _ _)
  have hb := (h.box.set_ 2 (.int .i64 st)).set_ 3 (.slice none 0 0)
  have hM := h.noCalls E hst (st := st) hb
  have hfin : StOk K n ⟨st, [], hp, ou, bk⟩ m w ((w.setCell ⟨K.mb, 2, none⟩ (.int .i64 st)).setCell ⟨K.mb, 3, none⟩ (.slice none 0 0)) := ⟨_, hM, fun b hb => by
   rcases mem_mcB.1 hb with hb | hb | hb | hb | hb | hb
   ·exact .inl (mem_mcB.2 (.inl hb))
   ·cases hb
   ·simp at hb
   ·exact .inl (mem_mcB.2 (.inr (.inr (.inr (.inl hb)))))
   ·exact .inl (mem_mcB.2 (.inr (.inr (.inr (.inr (.inl hb))))))
   ·exact .inl (mem_mcB.2 (.inr (.inr (.inr (.inr (.inr hb)))))), hst.mono (fun b _ e => .inr (by subst e; exact mem_mcB.2 (.inl rfl)))⟩
  clear h h1 h2 hM hb
  go_enter Tryz.func39, Tryz.ntmps39
  go_wp2
  go_end0
  exact ⟨rfl, hfin⟩
end Go.Proofs.YtbalicnnlfennaaGreat

namespace Go.Proofs.YtbalicnnlfennaaGreat
open Go.RowKit

theorem McT.ins {K : McP} {n : Nat} {s : St} {fs : List Cal} {f : Cal} {m : MLay} {ks : List KC} {k : KC} {w : World} (h : McT K n s fs f m ks k w) {a : Nat} (ha : a < (mthOf K.p f.of_).code.length) :
  ∃ b off c, k.vc = .slice (some ⟨b, off, none⟩) (mthOf K.p f.of_).code.length c ∧ (mthOf K.p f.of_).code[a].name.size ≤ maxLen ∧ (mthOf K.p f.of_).code[a].member.size ≤ maxLen ∧ ∀ W, Fr No w W → W.cell? ⟨b, off + a * 4, none⟩ = some (.int .i64 (mthOf K.p f.of_).code[a].op) ∧ W.cell? ⟨b, off + a * 4 + 1, none⟩ = some (.int .i64 (mthOf K.p f.of_).code[a].a) ∧ W.cell? ⟨b, off + a * 4 + 2, none⟩ = some (.string (mthOf K.p f.of_).code[a].name) ∧ W.cell? ⟨b, off + a * 4 + 3, none⟩ = some (.string (mthOf K.p f.of_).code[a].member) ∧ b < W.heap.size := by
 have hS := h.cal.2.2.2.1.mlate (R' := InsC) (by decide) h.st.anchor (fun _ _ _ h => h)
 obtain ⟨A, c, hv, _, _⟩ := hS.form
 rw [hv] at hS
 obtain ⟨b, off, rfl, _, i0, i1, i2, i3, z1, z2⟩ := hS.ins ha
 exact ⟨b, off, c, hv, z1, z2, fun W hW => ⟨hW.keep0 i0, hW.keep0 i1, hW.keep0 i2, hW.keep0 i3, lt_of_cell (hW.keep0 i0)⟩⟩

set_option maxRecDepth 100000 in
set_option maxHeartbeats 4000000 in
theorem step_idle (K : McP) (n : Nat) (s : St) (m : MLay) (w : World) (h : McS K n s m w) (hs : s.status ≠ 1) :
  Calls Tryz.prog 26 #[.pointer (some ⟨K.mb, 0, none⟩)] w (fun e w' => e = .returned (.tuple #[]) ∧ StOk K n s m w w') := by
 have hfin : StOk K n s m w w := ⟨m, h, fun b hb => .inl hb, Fr.refl _ _⟩
 obtain ⟨_, _, z2, _, _, _, _, _, _, zl⟩ := h.cells w (Fr.refl _ _)
 clear h
 go_enter Tryz.func26, Tryz.ntmps26
 go_wp2
 refine bodyPost_ret (results_none rfl _ _ _) rfl ?_
 exact ⟨rfl, hfin⟩

set_option maxRecDepth 100000 in
set_option maxHeartbeats 4000000 in
theorem step_ok (K : McP) (E : McE K) (n : Nat) (s : St) (f : Cal) (m : MLay) (ks : List KC) (k : KC) (w : World) (h : McT K n s [] f m ks k w) (hn : n < 980000) (a : Nat) (hpc : f.pc = a) (ha : a < (mthOf K.p f.of_).code.length) (_ : a < 1000) (hs : StepOk K.p s f (mthOf K.p f.of_).code[a]) :
  Calls Tryz.prog 26 #[.pointer (some ⟨K.mb, 0, none⟩)] w (fun e w' => e = .returned (.tuple #[]) ∧ StOk K (n + 3) (insM K.p K.look s [] f (mthOf K.p f.of_).code[a]) m w w') := by
 obtain ⟨b, off, c, hvc, h1, h2, KI⟩ := h.ins ha
 have HM := fun W (hW : Fr No w W) => mop_ok K E n s f m ks k W (h.keep E hW) hn _ h1 h2 hs
 have HT := fun W (hW : Fr No w W) => top_ok K n s [] f m ks k W (h.keep E hW)
 have hop := opsL_range hs.op
 have hnil := @insM_nil K.p K.look s f (mthOf K.p f.of_).code[a]
 have HE := fun (fs : List Cal) (m' : MLay) W (hS : McS K (n + 3) ⟨1, fs, (insM K.p K.look s [] f (mthOf K.p f.of_).code[a]).heap, (insM K.p K.look s [] f (mthOf K.p f.of_).code[a]).outs, (insM K.p K.look s [] f (mthOf K.p f.of_).code[a]).back⟩ m' W) (h1 : (insM K.p K.look s [] f (mthOf K.p f.of_).code[a]).status = 1 → fs = (insM K.p K.look s [] f (mthOf K.p f.of_).code[a]).frames) => mend_ok K E (n + 3) (insM K.p K.look s [] f (mthOf K.p f.of_).code[a]) fs m' W hS h1 hnil
 obtain ⟨_, _, z2, _, _, _, _, _, _, zl⟩ := h.st.cells w (Fr.refl _ _)
 rw [h.go] at z2
 have KK := h.ccells
 rw [hvc, hpc] at KK
 have hcl := h.code
 obtain ⟨Ax, cx, hvx, hlx⟩ := hcl
 unfold maxLen at hlx
 generalize insM K.p K.look s [] f (mthOf K.p f.of_).code[a] = s' at *
 generalize (mthOf K.p f.of_).code[a] = i at *
 generalize (mthOf K.p f.of_).code.length = len at *
 obtain ⟨iop, ia, inm, imb⟩ := i
 dsimp only at *
 obtain ⟨o, rfl⟩ : ∃ o : Nat, iop = (o : Int) := ⟨iop.toNat, by omega⟩
 have ho15 : 1 ≤ o ∧ o ≤ 15 := by omega
 have hTab := mopTab_at (mb := K.mb) ho15
 have hmf : ∀ (fn : Fn) (first cap : Array Value) (w : World), (Instr.makeFunc fn first cap).run Tryz.prog w = .ok (.func fn first cap) w := fun _ _ _ _ => rfl
 obtain ⟨wA, hwA⟩ : ∃ wA, wA = (w.alloc (.cells (mopTab K.mb) 120)) := ⟨_, rfl⟩
 have hfA : Fr No w wA := hwA ▸ frc
 have B0 := (hwA ▸ bxc : Bx wA w.heap.size 120 (mopTab K.mb))
 clear h hvc hpc hs hvx hnil hop
 go_enter Tryz.func26, Tryz.ntmps26
 go_wp2_with fail
 have HT2 := hwA ▸ HT _ hfA
 clear HT
 refine HT2.mono ?_
 rintro e w1 ⟨rfl, hf1⟩
 rw [← hwA] at hf1
 replace hwA := Lib.hid hwA
 clear HT2
 have hf2 : Fr No w w1 := hfA.trans0 hf1
 have KO : ∀ W, Fr No w1 W → W.cell? ⟨w.heap.size, o, none⟩ = some (.func (.func (mopFn o)) #[.pointer (some ⟨K.mb, 0, none⟩)] #[]) ∧ W.frozen? ⟨w.heap.size, o, none⟩ = false ∧ w.heap.size < W.heap.size := fun W hW => by
  have B := (B0.keep hf1).keep hW
  have h15 : o = 1 ∨ o = 2 ∨ o = 3 ∨ o = 4 ∨ o = 5 ∨ o = 6 ∨ o = 7 ∨ o = 8 ∨ o = 9 ∨ o = 10 ∨ o = 11 ∨ o = 12 ∨ o = 13 ∨ o = 14 ∨ o = 15 := by omega
  rcases h15 with rfl | rfl | rfl | rfl | rfl | rfl | rfl | rfl | rfl | rfl | rfl | rfl | rfl | rfl | rfl
  all_goals exact ⟨B.cell _, B.frozen _, B.lt⟩
 have KI1 : ∀ W, Fr No w1 W → W.cell? ⟨b, off + a * 4, none⟩ = some (.int .i64 o) ∧ W.cell? ⟨b, off + a * 4 + 1, none⟩ = some (.int .i64 ia) ∧ W.cell? ⟨b, off + a * 4 + 2, none⟩ = some (.string inm) ∧ W.cell? ⟨b, off + a * 4 + 3, none⟩ = some (.string imb) ∧ b < W.heap.size := fun W hW => KI W (hf2.trans0 hW)
 have KK1 : ∀ W, Fr No w1 W → W.cell? ⟨k.c, 9, none⟩ = some (.slice (some ⟨b, off, none⟩) len c) ∧ W.cell? ⟨k.c, 11, none⟩ = some (.int .i64 (a : Int)) ∧ k.c < W.heap.size := fun W hW => by
  have h9 := KK _ (hf2.trans0 hW)
  exact ⟨h9.2.2.2.2.2.1, h9.2.2.2.2.2.2.1, h9.2.2.2.2.2.2.2.2.2.2.2⟩
 have hlt1 : ∀ W, Fr No w1 W → w1.heap.size ≤ W.heap.size := fun W hW => hW.size
 clear KI KK B0
 go_wp2_with fail
 refine wp_region_monR 12 54 [mV (.pointer (some ⟨k.c, 0, none⟩)), mV (.pointer (some ⟨k.c, 0, none⟩)), mV (.pointer (some ⟨k.c, 3, none⟩)), mV (.pointer (some ⟨k.c, 9, none⟩)), mV (.slice (some ⟨b, off, none⟩) len c), mV (.pointer (some ⟨k.c, 0, none⟩)), mV (.pointer (some ⟨k.c, 0, none⟩)), mV (.pointer (some ⟨k.c, 11, none⟩)), mV (.int .i64 (a : Int)), mV (.pointer (some ⟨b, off + a * 4, none⟩)), mV (.agg #[.int .i64 o, .int .i64 ia, .string inm, .string imb]), mB 27 (#[.int .i64 0, .int .i64 0, .string ⟨#[]⟩, .string ⟨#[]⟩]) w1.heap.size] (by kernel_rfl) (by kernel_rfl) (by simp) ?_ ?_
 ·refine hopC ?_ <| hopC ?_ <| hopC ?_ <| hopC ?_ <| hopC ?_ <| hopC ?_ <| hopC ?_ <| hopC ?_ <| hopC ?_ <| hopC ?_ <| hopC ?_ <| hopC ?_ <| hopZ
  all_goals (intro a' W hW hoff hdep; have hbs := hW.size; have H3 := hoff 3 rfl; refine nE rfl ?_)
  ·simp [execOp, Act.eval, H3, go_sem, givesUpon]; exact fr1 rfl
  ·have D43 : _ = _ := hdep 0 43 rfl; simp [execOp, Act.eval, D43, go_sem, givesUpon]; exact fr1 rfl
  ·have D44 : _ = _ := hdep 1 44 rfl; simp [execOp, Act.eval, D44, go_sem, givesUpon]; exact fr1 rfl
  ·have D45 : _ = _ := hdep 2 45 rfl; simp [execOp, Act.eval, D45, go_sem, givesUpon]; exact fr1 rfl
  ·have D46 : _ = _ := hdep 3 46 rfl; clear hoff hdep; simp [execOp, Act.eval, go_sem, givesUpon, *]; exact fr1 rfl
  ·simp [execOp, Act.eval, H3, go_sem, givesUpon]; exact fr1 rfl
  ·have D48 : _ = _ := hdep 5 48 rfl; simp [execOp, Act.eval, D48, go_sem, givesUpon]; exact fr1 rfl
  ·have D49 : _ = _ := hdep 6 49 rfl; simp [execOp, Act.eval, D49, go_sem, givesUpon]; exact fr1 rfl
  ·have D50 : _ = _ := hdep 7 50 rfl; clear hoff hdep; simp [execOp, Act.eval, go_sem, givesUpon, *]; exact fr1 rfl
  ·have D47 : _ = _ := hdep 4 47 rfl; have D51 : _ = _ := hdep 8 51 rfl; clear hoff hdep; simp [execOp, Act.eval, go_sem, givesUpon, *]; exact fr1 rfl
  ·have D52 : _ = _ := hdep 9 52 rfl; clear hoff hdep; simp [execOp, Act.eval, go_sem, givesUpon, *]; exact fr1 rfl
  ·simp [execOp, go_sem, givesUpon]; exact ⟨(Fr.refl _ _).alloc _, ⟨_, rfl, Bx.new_ rfl, hbs⟩, Nat.le_refl _⟩
 intro vs WR hWR hv hne
 obtain ⟨b11, e11, hb11, hl11⟩ := hv 11 (by omega)
 simp only [List.drop_succ_cons, List.drop_zero, putsR_B, putsR_V, putsR_0, Nat.zero_add, Nat.reduceAdd, e11]
 simp only [Act.put, List.setIfInBounds_toArray, List.set_cons_zero, List.set_cons_succ]
 clear e11 hv
 obtain ⟨p0, p1, p2, p3⟩ := hb11.c4
 have pf := fun i => hb11.frozen i
 have pl := hb11.lt
 have hwR := hWR.size
 have h1R := hlt1 _ (Fr.refl _ _)
 have hf2s := hf2.size
 have hBI := hb11.fill4 (c0 := .int .i64 o) (c1 := .int .i64 ia) (c2 := .string inm) (c3 := .string imb)
 have hf3 := (((hWR.setCell (p := ⟨b11, 0, none⟩) (by dsimp only; omega) (.int .i64 o)).setCell (p := ⟨b11, 1, none⟩) (by dsimp only; omega) (.int .i64 ia)).setCell (p := ⟨b11, 2, none⟩) (by dsimp only; omega) (.string inm)).setCell (p := ⟨b11, 3, none⟩) (by dsimp only; omega) (.string imb)
 clear hb11 hne KI1 KK1
 go_wp2_with fail
 obtain ⟨w3, hw3⟩ : ∃ w3, w3 = ((((WR.setCell ⟨b11, 0, none⟩ (.int .i64 o)).setCell ⟨b11, 1, none⟩ (.int .i64 ia)).setCell ⟨b11, 2, none⟩ (.string inm)).setCell ⟨b11, 3, none⟩ (.string imb)) := ⟨_, rfl⟩
 rw [← hw3] at hf3 hBI ⊢
 replace hw3 := Lib.hid hw3
 have KB := hBI.r4
 have KO3 := fun W hW => KO W (hf3.trans0 hW)
 have hf4 := hf2.trans0 hf3
 have HM2 := fun W (hW : Fr No w3 W) => HM W (hf4.trans0 hW)
 clear KO p0 p1 p2 p3 pf pl hwR h1R hBI HM hlt1
 have h015 : o < 16 := by omega
 refine wp_region_monR 6 60 [mE (mV (.pointer (some ⟨K.mb, 0, none⟩))), mV (.pointer (some ⟨b11, 0, none⟩)), mV (.int .i64 o), mV (.pointer (some ⟨w.heap.size, o, none⟩)), mV (.func (.func (mopFn o)) #[.pointer (some ⟨K.mb, 0, none⟩)] #[]), mV (.agg #[.int .i64 o, .int .i64 ia, .string inm, .string imb])] (by kernel_rfl) (by kernel_rfl) (by simp) ?_ ?_
 ·refine hopC ?_ <| hopC ?_ <| hopC ?_ <| hopC ?_ <| hopC ?_ <| hopC ?_ <| hopZ
  all_goals (intro a' W hW hoff hdep; have hbs := hW.size; have H0 := hoff 0 rfl; have H4 := hoff 4 rfl; have H2 := hoff 2 rfl)
  ·exact yE rfl ⟨.pointer (some ⟨K.mb, 0, none⟩), fun W => by simp [execOp, Act.eval, H0, go_sem], rfl, rfl⟩
  ·refine nE rfl ?_; simp [execOp, Act.eval, H4, go_sem, givesUpon]; exact fr1 rfl
  ·have D55 : _ = _ := hdep 1 55 rfl; refine nE rfl ?_; clear hoff hdep; simp [execOp, Act.eval, go_sem, givesUpon, *]; exact fr1 rfl
  ·have D56 : _ = _ := hdep 2 56 rfl; refine nE rfl ?_; clear hoff hdep; simp [execOp, Act.eval, go_sem, givesUpon, ↓IntWalk.iteOmega, *]; exact fr1 rfl
  ·have D57 : _ = _ := hdep 3 57 rfl; refine nE rfl ?_; clear hoff hdep; simp [execOp, Act.eval, go_sem, givesUpon, *]; exact fr1 rfl
  ·refine nE rfl ?_; clear hoff hdep; simp [execOp, Act.eval, go_sem, givesUpon, *]; exact fr1 rfl
 intro vs WR hWR hv hne
 simp only [List.drop_succ_cons, List.drop_zero, putsR_EV, putsR_V, putsR_0, Nat.zero_add, Nat.reduceAdd]
 simp only [Act.put, List.setIfInBounds_toArray, List.set_cons_zero, List.set_cons_succ]
 clear hv
 clear hne
 have hM4 := HM2 WR hWR
 have hf5 := hf4.trans0 hWR
 clear HM2 KO3 KB
 go_wp2_with fail
 rw [mcallFn_op ho15, Oper.upon_enter]
 refine hM4.mono ?_
 rintro e w6 ⟨rfl, fs6, m6, hS6, h16, hm6, hf6⟩
 have hE6 := HE fs6 m6 w6 hS6 h16
 clear HE
 have hfin : ∀ w7, StOk K (n + 3) s' m6 w6 w7 → StOk K (n + 3) s' m w w7 := fun w7 ⟨m7, hS7, hm7, hf7⟩ => ⟨m7, hS7, fun b hb => (hm7 b hb).elim (fun h => (hm6 b h).imp id (fun h => Nat.le_trans hf5.size h)) (fun h => .inr (Nat.le_trans hf5.size (Nat.le_trans hf6.size h))), (hf5.of0.same hf6).trans hf7 (fun b hb h => h.elim .inl (fun h => (hm6 b h).elim .inr (fun h => absurd hb (Nat.not_lt.2 (Nat.le_trans hf5.size h)))))⟩
 go_wp2_with (go_at_call 39; go_loud (refine hE6.mono ?_); rintro e w7 ⟨rfl, h7⟩)
 refine bodyPost_end (results_none rfl _ _ _) rfl ?_
 exact ⟨rfl, hfin _ h7⟩
end Go.Proofs.YtbalicnnlfennaaGreat

namespace Go.Proofs.YtbalicnnlfennaaGreat
open Go.RowKit

def cloW (xs : List Val) (base : Nat) : Value → World → Prop := fun v W => ∃ A c, v = .slice A xs.length c ∧ ValRow W (.slice A xs.length c) xs ∧ ∀ q, rowBlk (.slice A xs.length c) = some q → base ≤ q
theorem cloW_mono (xs : List Val) (base : Nat) : MonP (cloW xs base) := fun _ _ _ ⟨A, c, h1, h2, h3⟩ hf => ⟨A, c, h1, h2.keep0 hf, h3⟩
theorem cloW_gives {xs : List Val} {base : Nat} {w w' : World} {e : Ending} (hb : base ≤ w.heap.size) (h : CloneV xs w e w') : ∃ v, e = .returned v ∧ Fr No w w' ∧ cloW xs base v w' := by
 obtain ⟨v, rfl, h1, h2, h3⟩ := h
 obtain ⟨A, c, rfl, _, _⟩ := h1.form
 exact ⟨_, rfl, h3, A, c, rfl, h1, fun q hq => Nat.le_trans hb (h2 q hq).1⟩

def HpR (base : Nat) (W : World) (v : Value) (xs : List Obj) (ko : List KO) : Prop :=
 RowV W tObj 3 v xs.length (ko.flatMap objL.C) ∧ Els objL W ko xs ∧ (rowB v ++ ko.flatMap KO.B).Nodup ∧ (∀ b ∈ rowB v ++ ko.flatMap KO.B, base ≤ b)
def HpRow (base : Nat) (W : World) (v : Value) (xs : List Obj) : Prop := ∃ ko, HpR base W v xs ko
theorem HpR.keep {X : Nat → Prop} {base : Nat} {W W' : World} {v : Value} {xs : List Obj} {ko : List KO} (h : HpR base W v xs ko) (hf : Fr X W W') (hX : ∀ b, base ≤ b → b < W.heap.size → ¬ X b) : HpR base W' v xs ko := by
 obtain ⟨h1, h2, h3, h4⟩ := h
 exact ⟨h1.keepB hf (fun b hb => hX b (h4 b (List.mem_append_left _ hb)) (h1.ltB hb)), h2.keep hf (fun b hb => hX b (h4 b (List.mem_append_right _ hb)) (h2.lt b hb)), h3, h4⟩
theorem HpR.keep0 {base : Nat} {W W' : World} {v : Value} {xs : List Obj} {ko : List KO} (h : HpR base W v xs ko) (hf : Fr No W W') : HpR base W' v xs ko := h.keep hf (fun _ _ _ h => h)
theorem HpR.lt {base : Nat} {W : World} {v : Value} {xs : List Obj} {ko : List KO} (h : HpR base W v xs ko) : ∀ b ∈ rowB v ++ ko.flatMap KO.B, b < W.heap.size := fun b hb => (List.mem_append.1 hb).elim (fun hb => h.1.ltB hb) (fun hb => h.2.1.lt b hb)
def CopyH (xs : List Obj) (w : World) (e : Ending) (w' : World) : Prop := ∃ v, e = .returned v ∧ HpRow w.heap.size w' v xs ∧ Fr No w w'
theorem HpR.snoc {base : Nat} {W W' : World} {v vf : Value} {xs : List Obj} {o : Obj} {g' cap' : Nat} {ko : List KO} (h : HpR base W v xs ko) (hn : o.of_.name.size ≤ maxLen) (hf : ValRow W vf o.fields) (hff : ∀ q, rowBlk vf = some q → base ≤ q)
  (hne : ∀ q, rowBlk vf = some q → q ∉ rowB v ++ ko.flatMap KO.B)
  (hrow : RowV W' tObj 3 (.slice (some ⟨g', 0, none⟩) (xs.length + 1) cap') (xs.length + 1) (ko.flatMap objL.C ++ [.int .i64 o.of_.keeper, .string o.of_.name, vf]))
  (hgf : Fr (fun b => rowBlk v = some b) W W') (hor : rowBlk v = some g' ∨ g' = W.heap.size) (hcap : xs.length + 1 ≤ cap') (hbase : base ≤ W.heap.size) :
  HpRow base W' (.slice (some ⟨g', 0, none⟩) (xs.length + 1) cap') (xs ++ [o]) := by
 obtain ⟨h1, h2, h3, h4⟩ := h
 have hqn : rowB (.slice (some ⟨g', 0, none⟩) (xs.length + 1) cap') = [g'] := by unfold rowB; rw [rowBlk_some (by omega)]; rfl
 have h3' := List.nodup_append.1 h3
 have hk : ∀ b ∈ ko.flatMap KO.B, ¬ rowBlk v = some b := fun b hb e => h3'.2.2 b (rowB_c e) b hb rfl
 have hkv : ∀ b ∈ rowB vf, ¬ rowBlk v = some b := fun b hb e => hne b (mem_rowB.1 hb) (List.mem_append_left _ (rowB_c e))
 have hfl : (ko ++ [(⟨o.of_, vf⟩ : KO)]).flatMap KO.B = ko.flatMap KO.B ++ rowB vf := by rw [List.flatMap_append]; simp [KO.B]
 refine ⟨ko ++ [⟨o.of_, vf⟩], ?_, ?_, ?_, ?_⟩
 ·rw [List.flatMap_append, List.length_append]
  exact hrow
 ·exact (h2.keep hgf hk).snoc ⟨rfl, hn, hf.keepB hgf hkv⟩
 ·rw [hqn, hfl, List.singleton_append, List.nodup_cons, List.nodup_append]
  refine ⟨fun hx => ?_, h3'.2.1, rowB_nodup _, fun a ha b hb e => ?_⟩
  ·rcases List.mem_append.1 hx with hx | hx
   ·rcases hor with h9 | h9
    ·exact hk _ hx h9
    ·have := h2.lt _ hx; omega
   ·rcases hor with h9 | h9
    ·exact hkv _ hx h9
    ·have := hf.ltB hx; omega
  ·subst e
   exact hne a (mem_rowB.1 hb) (List.mem_append_right _ ha)
 ·rw [hqn, hfl]
  intro b hb
  rcases List.mem_append.1 hb with hb | hb
  ·rw [List.mem_singleton] at hb
   subst hb
   rcases hor with h9 | h9
   ·exact h4 _ (List.mem_append_left _ (rowB_c h9))
   ·omega
  ·rcases List.mem_append.1 hb with hb | hb
   ·exact h4 _ (List.mem_append_right _ hb)
   ·exact hff _ (mem_rowB.1 hb)

set_option maxRecDepth 100000 in
set_option maxHeartbeats 4000000 in
theorem copyHeap_ok (v : Value) (xs : List Obj) (w : World) (h : Sl No w 3 (ObjC No w) v xs) (hl : xs.length ≤ 1000) (hfl : ∀ o ∈ xs, o.fields.length ≤ 1000) :
  Calls Tryz.prog 44 #[v] w (CopyH xs w) := by
 obtain ⟨A, c, rfl, _, _⟩ := h.form
 have hI0 : Hid (HpRow w.heap.size w (.slice none 0 0) (xs.take 0) ∧ Fr No w w) := Lib.hid ⟨⟨[], RowV.nil _ _ _, trivial, by simp [rowB, rowBlk_nil], by simp [rowB, rowBlk_nil]⟩, Fr.refl _ _⟩
 go_enter Tryz.func44, Tryz.ntmps44
 go_wp2_with fail
 go_loopw [8, 3] (fun i v wr => ∃ j : Nat, j ≤ xs.length ∧ i = .int .i64 j ∧ Hid (HpRow w.heap.size wr v (xs.take j) ∧ Fr No w wr)) (fun i _ _ => xs.length - (intOf i).toNat)
 case atStart => exact ⟨0, Nat.zero_le _, rfl, hI0⟩
 case round =>
  clear hI0
  obtain ⟨j, hj, rfl, hI⟩ := hrel
  obtain ⟨hI, hfr⟩ := hI.out
  obtain ⟨Av, cv, rfl⟩ : ∃ Av cv, u3 = .slice Av j cv := by
   obtain ⟨ko, h1⟩ := hI
   obtain ⟨A, c, he, _, _⟩ := h1.1.form
   rw [List.length_take, Nat.min_eq_left hj] at he
   exact ⟨A, c, he⟩
  replace hI := Lib.hid hI
  have hfrh := Lib.hid hfr
  by_cases hlt : j < xs.length
  ·have hwr := h.keep (R' := ObjC No wr) hfr (fun _ h => h) (fun _ _ _ h => h.keep hfr (fun _ h => h))
   obtain ⟨b, off, Af, cf, rfl, _, o0, o1, o2, z1, hsf, _, _⟩ := hwr.obj hlt
   have hfo := hfl _ (List.getElem_mem hlt)
   have htk : xs.take (j + 1) = xs.take j ++ [xs[j]] := List.take_succ_eq_append_getElem hlt
   clear hwr
   generalize xs[j] = o at *
   obtain ⟨⟨ok, on⟩, fs⟩ := o
   dsimp only at o0 o1 o2 z1 hsf hfo
   replace htk := Lib.hid htk
   clear hfl hfr
   go_wp2_with fail
   obtain ⟨wB, hwB⟩ : ∃ wB, wB = wr.alloc (.cells #[.int .i64 ok, .string on, .slice Af fs.length cf] tObj) := ⟨_, rfl⟩
   rw [← hwB]
   have hfB : Fr No wr wB := hwB ▸ frc
   have hBo := (hwB ▸ bxc : Bx wB wr.heap.size tObj #[.int .i64 ok, .string on, .slice Af fs.length cf])
   replace hwB := Lib.hid hwB
   have KB := hBo.r3
   have HC := fun W (hW : Fr No wB W) => cloneV_ok No (.slice Af fs.length cf) fs W ((hsf.keep hfB (fun _ h => h) (fun _ _ _ h => h)).keep hW (fun _ h => h) (fun _ _ _ h => h)) hfo
   have hbs := fun W (hW : Fr No wB W) => hW.size
   have hBs := hfB.size
   clear o0 o1 o2 hBo
   refine wp_region_monR 6 18 [mE (mV (.slice Av j cv)), mV (.pointer (some ⟨wr.heap.size, 0, none⟩)), mV (.agg #[.int .i64 ok, .string on]), mV (.pointer (some ⟨wr.heap.size, 2, none⟩)), mV (.slice Af fs.length cf), mC (cloW fs wB.heap.size) (cloW_mono _ _)] (by kernel_rfl) (by kernel_rfl) (by simp) ?_ ?_
   ·refine hopC ?_ <| hopC ?_ <| hopC ?_ <| hopC ?_ <| hopC ?_ <| hopC ?_ <| hopZ
    all_goals (intro a' W hW hoff hdep; have hbs := hW.size; have H3 := hoff 3 rfl; have H5 := hoff 5 rfl)
    ·exact yE rfl ⟨.slice Av j cv, fun W => by simp [execOp, Act.eval, H3, go_sem], rfl, rfl⟩
    ·refine nE rfl ?_; simp [execOp, Act.eval, H5, go_sem, givesUpon]; exact fr1 rfl
    ·have D13 : _ = _ := hdep 1 13 rfl; refine nE rfl ?_; clear hoff hdep; simp [execOp, Act.eval, go_sem, givesUpon, *]; exact fr1 rfl
    ·refine nE rfl ?_; simp [execOp, Act.eval, H5, go_sem, givesUpon]; exact fr1 rfl
    ·have D15 : _ = _ := hdep 3 15 rfl; refine nE rfl ?_; clear hoff hdep; simp [execOp, Act.eval, go_sem, givesUpon, *]; exact fr1 rfl
    ·have D16 : _ = _ := hdep 4 16 rfl; refine nE rfl ?_; simp [Act.eval, D16, go_sem, givesUpon]; exact (HC _ hW).mono (by intro e w9 h; obtain ⟨v, rfl, h3, h4⟩ := cloW_gives hbs h; exact ⟨v, rfl, h3, h4⟩)
   intro vs WR hWR hv hne
   obtain ⟨AR5, cR5, e5, htR5, hqR5⟩ := hv 5 (by omega)
   simp only [List.drop_succ_cons, List.drop_zero, putsR_C, putsR_EV, putsR_V, putsR_0, Nat.zero_add, Nat.reduceAdd, e5]
   simp only [Act.put, List.setIfInBounds_toArray, List.set_cons_zero, List.set_cons_succ]
   clear e5 hv
   clear hne
   obtain ⟨ko, hK⟩ := hI.out
   have hlj : (xs.take j).length = j := by rw [List.length_take, Nat.min_eq_left hj]
   have hwR := hWR.size
   have hfwr := hfrh.out
   have hws := hfwr.size
   have hfR2 : Fr No wB (WR.alloc (.cells #[.int .i64 ok, .string on, .slice AR5 fs.length cR5] tObj)) := hWR.trans0 frc
   have hKR := (hK.keep0 hfB).keep0 hfR2
   have hvR : ValRow (WR.alloc (.cells #[.int .i64 ok, .string on, .slice AR5 fs.length cR5] tObj)) (.slice AR5 fs.length cR5) fs := htR5.keep0 frc
   have hrow1 := hKR.1
   rw [hlj] at hrow1
   have hnews := Lib.hid ((bxc : Bx (WR.alloc (.cells #[.int .i64 ok, .string on, .slice AR5 fs.length cR5] tObj)) WR.heap.size tObj [Value.int .i64 ok, .string on, .slice AR5 fs.length cR5].toArray).news)
   have hltK := hK.lt
   have hnn : ∀ q, rowBlk (.slice AR5 fs.length cR5) = some q → q ∉ rowB (.slice Av j cv) ++ ko.flatMap KO.B := fun q hq hx => by have := hltK q hx; have := hqR5 q hq; omega
   have hfin := fun (g' cap' : Nat) (w3 : World) (hrow : RowV w3 tObj 3 (.slice (some ⟨g', 0, none⟩) (j + 1) cap') (j + 1) (ko.flatMap objL.C ++ [.int .i64 ok, .string on, .slice AR5 fs.length cR5])) (hgf : Fr (fun b => rowBlk (.slice Av j cv) = some b) (WR.alloc (.cells #[.int .i64 ok, .string on, .slice AR5 fs.length cR5] tObj)) w3) (hor : rowBlk (.slice Av j cv) = some g' ∨ g' = (WR.alloc (.cells #[.int .i64 ok, .string on, .slice AR5 fs.length cR5] tObj)).heap.size) (hcap : j + 1 ≤ cap') =>
    (show HpRow w.heap.size w3 (.slice (some ⟨g', 0, none⟩) (j + 1) cap') (xs.take (j + 1)) ∧ Fr No w w3 from ⟨by
     have h9 := hKR.snoc (o := ⟨⟨ok, on⟩, fs⟩) (g' := g') (cap' := cap') (W' := w3) z1 hvR (fun q hq => by have := hqR5 q hq; omega) hnn (by rw [hlj]; exact hrow) hgf hor (by rw [hlj]; exact hcap) (by have := hfR2.size; omega)
     rw [hlj, ← htk.out] at h9
     exact h9, ((hfwr.trans0 hfB).trans0 hfR2).trans hgf (fun b hb e => by have := hK.2.2.2 b (List.mem_append_left _ (rowB_c e)); omega)⟩)
   obtain ⟨j0, hj0, hk0, hk1, hk2⟩ := info_parts info_obj
   replace hj0 := Lib.hid hj0
   replace hk0 := Lib.hid hk0
   replace hk1 := Lib.hid hk1
   replace hk2 := Lib.hid hk2
   have hadd : IntKind.i64.wrap ((j : Int) + 1) = ((j + 1 : Nat) : Int) := by rw [IntWalk.i64_in _ (by omega)]; simp
   clear hKR hvR hK hfR2 htR5 hltK KB HC hbs hnn hqR5
   replace hfin := Lib.hid hfin
   go_wp2_with (at_builtin; (refine wpList_append_row _ rfl _ _ 37 rfl 150 j0 (.agg #[.int .i64 0, .string ⟨#[]⟩, .slice none 0 0]) 3 48 Tryz.underlying37 hj0.out hk0.out hk1.out hk2.out rfl (by decide) (.slice Av j cv) j (ko.flatMap objL.C) rfl hrow1 ⟨WR.heap.size, 0, none⟩ 1 1 [Value.int .i64 ok, .string on, .slice AR5 fs.length cR5] rfl rfl hnews.out (by simp [Value.oneCell']) (by decide) (by unfold maxLen; omega) (by omega) ?_); (intro g' cap' w3 hrow hcap hgf hor); (have hfi := Lib.hid (hfin.out _ _ _ hrow hgf hor hcap)))
   exact ⟨⟨j + 1, by omega, by simp, hfi⟩, by simp [intOf]; omega⟩
  ·obtain rfl : j = xs.length := by omega
   rw [List.take_length] at hI
   go_wp2_with fail
   refine bodyPost_ret (v := .slice Av xs.length cv) (by simp [results, Tryz.results44, go_sem, *]) rfl ?_
   exact ⟨_, rfl, hI.out, hfrh.out⟩
end Go.Proofs.YtbalicnnlfennaaGreat
