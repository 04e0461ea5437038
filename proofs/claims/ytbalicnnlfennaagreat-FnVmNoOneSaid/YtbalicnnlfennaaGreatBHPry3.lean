/- FnVmPut's plan: the plain law. No program is named here. -/
import Derived.Test.YtbalicnnlfennaaGreatBHPry2
namespace Go.Proofs.YtbalicnnlfennaaGreat
open Go.RowKit

theorem p_mth (code : List Ins) (maps : List Mp) : mthOf (mainP [] code maps) ⟨⟨0, sMain⟩, 0⟩ = mainMth code maps := by
  unfold mthOf
  rw [p_clsAt]
  rfl
theorem mayK_self (p : Plan) (k : Int) (t : Tag) : mayK p k t t = true := by
  unfold mayK
  split
  · rfl
  · rw [if_pos (tagEq_iff.2 rfl)]
/-- The run at its beginning. -/
def begT (n : Int) : St := ⟨1, [⟨⟨⟨0, sMain⟩, 0⟩, 0, [⟨2, 0⟩, ⟨1, n⟩, noVal], []⟩], [⟨⟨0, sMain⟩, []⟩], [], noVal⟩
theorem p_types (code : List Ins) (maps : List Mp) (n : Int) : typesB (mainP [] code maps) ⟨⟨0, sMain⟩, 0⟩ [⟨⟨0, sMain⟩, []⟩] [⟨2, 0⟩, ⟨1, n⟩] = true := by
  unfold typesB
  rw [p_mth]
  simp [mainMth, hasB, p_find, underK, p_chain, refIs]
theorem p_enter (code : List Ins) (maps : List Mp) (n : Int) (h : rightM (mainP [] code maps) ⟨⟨0, sMain⟩, 0⟩ = true) :
    enterM (mainP [] code maps) true ⟨1, [], [⟨⟨0, sMain⟩, newVals (mainP [] code maps) ⟨0, sMain⟩⟩], [], noVal⟩ [] ⟨⟨0, sMain⟩, 0⟩ [⟨2, 0⟩, ⟨1, n⟩] = begT n := by
  unfold enterM newVals
  rw [p_lay, h]
  simp only [List.map_nil, p_types]
  rw [p_mth]
  rfl
theorem SmS_beg (n : Int) : SmS (begT n) := ⟨by simp [begT], by simp [begT], by simp [begT], by simp [begT], by simp [begT, noVal]⟩
theorem p_do {code : List Ins} {maps : List Mp} {n : Int} (h1 : lodB (mainP [] code maps) = true) (h : rightM (mainP [] code maps) ⟨⟨0, sMain⟩, 0⟩ = true) (hn : numB n = true) (ho : OkOps code) : DoOk (mainP [] code maps) n (begT n) where
  lod := h1
  has := rfl
  num := hn
  cls := ⟨⟨0, sMain⟩, p_class _ _, by rw [p_lay]; decide, by rw [p_call]; exact (p_enter _ _ _ h).symm⟩
  call := by rw [p_call]
  start := by rw [p_call]; exact p_start _ _ _
  small := SmS_beg n
  ops := by
    rw [p_call]
    have e : mthAt (mainP [] code maps) (⟨0, sMain⟩, 0) = mainMth code maps := by unfold mthAt; rw [p_clsAt]; rfl
    show OkOps (mthAt (mainP [] code maps) (⟨0, sMain⟩, 0)).code
    rw [e]
    exact ho
/-- The run with these things, at this place. -/
def atT (pc : Int) (loc stk : List Val) : St := ⟨1, [⟨⟨⟨0, sMain⟩, 0⟩, pc, loc, stk⟩], [⟨⟨0, sMain⟩, []⟩], [], noVal⟩
/-- It is done. -/
def doneT (n : Int) : St := ⟨2, [], [⟨⟨0, sMain⟩, []⟩], [], ⟨1, n⟩⟩
theorem runM_idle {p : Plan} {look : Bool} {s : St} (h : s.status ≠ 1) : ∀ k, runM p look k s = s
  | 0 => rfl
  | k + 1 => by rw [runM, if_neg h]
theorem runM_go {p : Plan} {look : Bool} {s t : St} (h : s.status = 1) (ht : stepM p look s = t) (k : Nat) : runM p look (k + 1) s = runM p look k t := by rw [runM, if_pos h, ht]
/-- What is asked of every step, one by one. -/
theorem RunOk.go {p : Plan} {look : Bool} {s t : St} {k : Nat} (h : s.status = 1) (ht : stepM p look s = t) (h1 : OneOk p s) (hr : RunOk p look t k) : RunOk p look s (k + 1) := fun j hj => by
  cases j with
  | zero => exact fun _ => h1
  | succ j => rw [runM_go h ht]; exact hr j (by omega)
theorem RunOk.idle {p : Plan} {look : Bool} {s : St} {k : Nat} (h : s.status ≠ 1) : RunOk p look s k := fun j _ h1 => by
  rw [runM_idle h] at h1
  exact absurd h1 h
theorem lay_le {p : Plan} (hp : lodB p = true) (r : Ref) : (layB p r).length ≤ 1000 := by
  unfold layB layK layL
  split
  · simp only [layGo_len]
    have h1 := fldsOf_len hp (rs := (chainK p r).reverse) (fun x hx => chainK_here hp r x (by simpa using hx))
    have h2 := chainK_len hp r
    simp at h1 ⊢
    omega
  · simp
theorem p_stB {code : List Ins} {maps : List Mp} {n : Int} (h1 : 0 < code.length) (hn : numB n = true) : stB (mainP [] code maps) (begT n) = true := by
  simp [stB, begT, frmB, hasMB, heapB, objB, p_can, p_clsAt, mainCls, p_mth, mainMth, valB, noVal, layK, layL, p_chain, fldsOf, layGo, hn, h1]
theorem p_one {code : List Ins} {maps : List Mp} (hp : lodB (mainP [] code maps) = true) (pc : Nat) (loc stk : List Val) (i : Ins) (hi : code[pc]? = some i) (hop : opsL.contains i.op = true) (h7 : i.op ≠ 7) (hpc : pc < 1000) (hst : stk.length ≤ 100)
    (hloc : i.op = 2 ∨ i.op = 3 → ∃ a : Nat, i.a = a ∧ a < loc.length ∧ a < 100) (hnum : ∀ v ∈ stk, v.kind = 1 → numB v.n = true) (href : ∀ v ∈ stk, v.kind = 2 → v.n = 0) : OneOk (mainP [] code maps) (atT pc loc stk) := by
  obtain ⟨hlt, hie⟩ := List.getElem?_eq_some_iff.1 hi
  have hg : (mthOf (mainP [] code maps) ⟨⟨0, sMain⟩, 0⟩).code.getD (pc : Int).toNat noIns = i := by
    rw [p_mth]
    show code.getD pc noIns = i
    simp [List.getD, hi]
  have hl : (pc : Int) < (mthOf (mainP [] code maps) ⟨⟨0, sMain⟩, 0⟩).code.length := by
    rw [p_mth]
    show (pc : Int) < (code.length : Int)
    omega
  refine ⟨⟨⟨⟨0, sMain⟩, 0⟩, pc, loc, stk⟩, rfl, ?_⟩
  dsimp only
  rw [hg]
  exact ⟨hop, hst, by dsimp only; omega, ⟨hl, by dsimp only; omega⟩, hloc, hnum, fun v hv hk => ⟨0, href v hv hk, by simp [atT]⟩, by simp [atT], by simp [atT], fun r _ => lay_le hp r, fun h => absurd h h7⟩
end Go.Proofs.YtbalicnnlfennaaGreat

/- Instructions in a new block. -/
namespace Go.Proofs.YtbalicnnlfennaaGreat
open Go.RowKit

theorem Sl.ofBx {α : Type} {w : World} {b : Nat} {t : TypeId} {sz : Nat} {R : List Value → α → Prop} {C : α → List Value} {xs : List α} (hC : ∀ x, (C x).length = sz) (h : Bx w b t (xs.flatMap C).toArray) (hR : ∀ x ∈ xs, R (C x) x) (hl : xs.length ≤ maxLen) : Sl No w sz R (.slice (some ⟨b, 0, none⟩) xs.length xs.length) xs :=
  ⟨_, _, rfl, Nat.le_refl _, hl, fun _ => ⟨b, 0, rfl, fun h => h, fun k hk => ⟨C xs[k], hR _ (List.getElem_mem hk), hC _, fun j hj => by
    have h9 := flatW_get hC xs k hk j hj
    rw [Nat.zero_add, h.cell (k * sz + j)]
    simpa using h9⟩⟩⟩
def insCells (i : Ins) : List Value := [.int .i64 i.op, .int .i64 i.a, .string i.name, .string i.member]
theorem Sl.insBx {w : World} {b : Nat} {t : TypeId} {xs : List Ins} (h : Bx w b t (xs.flatMap insCells).toArray) (hR : ∀ x ∈ xs, x.name.size ≤ maxLen ∧ x.member.size ≤ maxLen) (hl : xs.length ≤ maxLen) : Sl No w 4 InsC (.slice (some ⟨b, 0, none⟩) xs.length xs.length) xs :=
  Sl.ofBx (fun _ => rfl) h (fun x hx => ⟨rfl, hR x hx⟩) hl
/-- What a run that has ended so says of itself. -/
theorem StC.status {X : Nat → Prop} {w : World} {cs : List Value} {s : St} (h : StC X w cs s) : ∃ v1 v2 v3 v4 v5, cs = [.int .i64 s.status, v1, v2, v3, v4, v5] := by
  obtain ⟨vf, vh, vo, rfl, _⟩ := h
  exact ⟨_, _, _, _, _, rfl⟩
end Go.Proofs.YtbalicnnlfennaaGreat

/- FnVmAdd's plan: the plain law. No program is named here. -/
namespace Go.Proofs.YtbalicnnlfennaaGreat
open Go.RowKit

/-- It has ended so. -/
def endT (c : Int) : St := ⟨c, [], [⟨⟨0, sMain⟩, []⟩], [], noVal⟩
theorem num1 {x : Int} (hx : numB x = true) : ∀ v ∈ [(⟨1, x⟩ : Val)], v.kind = 1 → numB v.n = true := fun v hv _ => by rw [List.mem_singleton.1 hv]; exact hx
theorem ref1 (x : Int) : ∀ v ∈ [(⟨1, x⟩ : Val)], v.kind = 2 → v.n = 0 := fun v hv h => by rw [List.mem_singleton.1 hv] at h; cases h
theorem p_go {code : List Ins} {maps : List Mp} {n : Int} (hl : lodB (mainP [] code maps) = true) (h1 : 0 < code.length) (hn : numB n = true) (hr : RunOk (mainP [] code maps) true (begT n) 400) (hs : SmS (runM (mainP [] code maps) true 400 (begT n))) : GoOk (mainP [] code maps) (begT n) where
  lod := hl
  ok := p_stB h1 hn
  wfh := by simp [begT]; decide
  wff := by simp [begT]; decide
  stk := by simp [begT]
  small := SmS_beg n
  run := hr
  smallR := hs
theorem SmS_done (n : Int) : SmS (doneT n) := ⟨by simp [doneT], by simp [doneT], by simp [doneT], by simp [doneT], by simp [doneT]⟩
theorem SmS_end (c : Int) : SmS (endT c) := ⟨by simp [endT], by simp [endT], by simp [endT], by simp [endT], by simp [endT, noVal]⟩
theorem gives_done (n : Int) : givesB (doneT n) n = true := by simp [givesB, doneT]
end Go.Proofs.YtbalicnnlfennaaGreat
