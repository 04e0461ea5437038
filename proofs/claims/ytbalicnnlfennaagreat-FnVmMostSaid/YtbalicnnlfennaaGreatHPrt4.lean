/- FnVmMost's plan: the plain law. No program is named here. -/
import Derived.Test.YtbalicnnlfennaaGreatHPrt3
namespace Go.Proofs.YtbalicnnlfennaaGreat
open Go.RowKit

def mostMaps : List Mp := [⟨1, selfT, []⟩, ⟨9, selfT, []⟩, ⟨11, selfT, [numT]⟩]
def mostCode : List Ins := [insP 13 1, insP 2 1, insP 11 9, insP 2 1, insP 14 0, insP 2 1, insN (-1), insP 4 0, insP 13 11, insN 8, insP 10 0, insP 3 1, insP 13 1]
abbrev mostP : Plan := mainP [] mostCode mostMaps
theorem numT_ok : tagB numT = true := by unfold tagB numT; rw [if_pos (by rfl)]; exact noS_e
theorem most_lod : lodB mostP = true := by
  refine mainP_lod ?_ ?_
  · unfold codeB
    show (true && true && mostCode.all (insAt 3 13)) = true
    have hn : ∀ o a : Int, opNum o = true → numLo o ≤ a → a ≤ numHi o → (if o == 2 || o == 3 then decide (a < 3) else if o == 11 || o == 12 || o == 13 then decide (a < 13) else true) = true → insAt 3 13 (insP o a) = true := fun o a h1 h2 h3 h4 => insAt_of (insB_n h1 h2 h3) h4
    have hp : ∀ o : Int, opPln o = true → opNum o = false → opCls o = false → opMem o = false → (if o == 2 || o == 3 then decide ((0 : Int) < 3) else if o == 11 || o == 12 || o == 13 then decide ((0 : Int) < 13) else true) = true → insAt 3 13 (insP o 0) = true := fun o h1 h2 h3 h4 h5 => insAt_of (insB_p h1 h2 h3 h4) h5
    simp only [mostCode, List.all_cons, List.all_nil, hn 13 1 (by decide) (by decide) (by decide) (by decide), hn 2 1 (by decide) (by decide) (by decide) (by decide), hn 11 9 (by decide) (by decide) (by decide) (by decide), hp 14 (by decide) (by decide) (by decide) (by decide) (by decide), hp 4 (by decide) (by decide) (by decide) (by decide) (by decide), hp 10 (by decide) (by decide) (by decide) (by decide) (by decide), hn 13 11 (by decide) (by decide) (by decide) (by decide), hn 3 1 (by decide) (by decide) (by decide) (by decide), show insAt 3 13 (insN (-1)) = true from insAt_of (insB_num (by decide)) rfl, show insAt 3 13 (insN 8) = true from insAt_of (insB_num (by decide)) rfl]
    rfl
  · unfold mapsB
    show (true && (mapAt1 13 3 3 0 ⟨1, selfT, []⟩ && (mapAt1 13 3 3 1 ⟨9, selfT, []⟩ && (mapAt1 13 3 3 9 ⟨11, selfT, [numT]⟩ && true)))) = true
    rw [mapAt1_yes (by decide) (by decide) rfl (by decide) selfT_ok rfl, mapAt1_yes (by decide) (by decide) rfl (by decide) selfT_ok rfl, mapAt1_yes (by decide) (by decide) rfl (by decide) selfT_ok (by simp only [List.all_cons, List.all_nil, numT_ok]; rfl)]
    rfl
theorem most_right : rightM mostP ⟨⟨0, sMain⟩, 0⟩ = true := by
  unfold rightM
  rw [p_mth]
  generalize mostP = P
  simp [lookF, mainMth, mostCode, mostMaps, selfT, lookGo, meetF, mapF, suffF, eachF, insF, pushF, popF, takeF, leadsF, goesOn, beginF, mayK_self, insN, insP, tagOf, clsT, noT, numT, kndB_num]
/-- The run with these things, at this place, having let out these numbers. -/
def atO (pc : Int) (loc stk : List Val) (o : List Int) : St := ⟨1, [⟨⟨⟨0, sMain⟩, 0⟩, pc, loc, stk⟩], [⟨⟨0, sMain⟩, []⟩], o, noVal⟩
def locM (x : Int) : List Val := [⟨2, 0⟩, ⟨1, x⟩, noVal]
def doneO (o : List Int) : St := ⟨2, [], [⟨⟨0, sMain⟩, []⟩], o, ⟨1, 8⟩⟩
def outQ (o : List Int) (x : Int) : List Int := if o.length < 40 then o ++ [x] else o
section
variable (x : Int) (o : List Int)
theorem most_0 : stepM mostP true (begT x) = atO 1 (locM x) [] [] := by
  simp [stepM, begT, p_mth, mainMth, mostCode, insM, insP, jumpM, St.goes, atO, locM]
theorem most_1 : stepM mostP true (atO 1 (locM x) [] o) = atO 2 (locM x) [⟨1, x⟩] o := by
  simp [stepM, p_mth, mainMth, mostCode, insM, insP, putM, nextM, jumpM, St.goes, atO, locM]
theorem most_2z : stepM mostP true (atO 2 (locM 0) [⟨1, 0⟩] o) = atO 9 (locM 0) [] o := by
  simp [stepM, p_mth, mainMth, mostCode, insM, insP, popV, jumpM, St.goes, atO, locM, Cal.left]
theorem most_2 (h : x ≠ 0) : stepM mostP true (atO 2 (locM x) [⟨1, x⟩] o) = atO 3 (locM x) [] o := by
  simp [stepM, p_mth, mainMth, mostCode, insM, insP, popV, nextM, jumpM, St.goes, atO, locM, Cal.left, h]
theorem most_3 : stepM mostP true (atO 3 (locM x) [] o) = atO 4 (locM x) [⟨1, x⟩] o := by
  simp [stepM, p_mth, mainMth, mostCode, insM, insP, putM, nextM, jumpM, St.goes, atO, locM]
theorem most_4 : stepM mostP true (atO 4 (locM x) [⟨1, x⟩] o) = atO 5 (locM x) [] (outQ o x) := by
  simp [stepM, p_mth, mainMth, mostCode, insM, insP, popV, nextM, jumpM, St.goes, atO, locM, Cal.left, St.withOuts, outQ]
  rfl
theorem most_5 : stepM mostP true (atO 5 (locM x) [] o) = atO 6 (locM x) [⟨1, x⟩] o := by
  simp [stepM, p_mth, mainMth, mostCode, insM, insP, putM, nextM, jumpM, St.goes, atO, locM]
theorem most_6 : stepM mostP true (atO 6 (locM x) [⟨1, x⟩] o) = atO 7 (locM x) [⟨1, x⟩, ⟨1, -1⟩] o := by
  simp [stepM, p_mth, mainMth, mostCode, insM, insN, putM, nextM, jumpM, St.goes, atO, locM]
theorem most_7 {y : Int} (h : x + 1 = y) (hx : numB x = true) : stepM mostP true (atO 7 (locM y) [⟨1, y⟩, ⟨1, -1⟩] o) = atO 8 (locM y) [⟨1, x⟩] o := by
  have e : y + -1 = x := by omega
  simp [stepM, p_mth, mainMth, mostCode, insM, insP, popsV, putM, nextM, jumpM, St.goes, atO, locM, Cal.left, e, hx]
theorem most_8 (y : Int) : stepM mostP true (atO 8 (locM y) [⟨1, x⟩] o) = atO 11 (locM y) [⟨1, x⟩] o := by
  simp [stepM, p_mth, mainMth, mostCode, insM, insP, jumpM, St.goes, atO, locM]
theorem most_11 (y : Int) : stepM mostP true (atO 11 (locM y) [⟨1, x⟩] o) = atO 12 (locM x) [] o := by
  simp [stepM, p_mth, mainMth, mostCode, insM, insP, popV, nextM, jumpM, St.goes, atO, locM]
theorem most_12 : stepM mostP true (atO 12 (locM x) [] o) = atO 1 (locM x) [] o := by
  simp [stepM, p_mth, mainMth, mostCode, insM, insP, jumpM, St.goes, atO, locM]
theorem most_9 : stepM mostP true (atO 9 (locM x) [] o) = atO 10 (locM x) [⟨1, 8⟩] o := by
  simp [stepM, p_mth, mainMth, mostCode, insM, insN, putM, nextM, jumpM, St.goes, atO, locM]
theorem most_10 : stepM mostP true (atO 10 (locM x) [⟨1, 8⟩] o) = doneO o := by
  simp [stepM, p_mth, mainMth, mostCode, insM, insP, popV, retM, hasB, St.ends, St.withBack, atO, doneO]
end
/-- What is let out behind n rounds more. -/
def outR : Nat → List Int → List Int
  | 0, o => o
  | n + 1, o => outR n (outQ o ((n + 1 : Nat) : Int))
theorem numB_nat {x : Nat} (h : x ≤ 44) : numB (x : Int) = true := by unfold numB; simp; omega
/-- To the place where a round is told. -/
theorem most_nine (x : Nat) (hx : x < 44) (o : List Int) (f : Nat) : runM mostP true (f + 9) (atO 1 (locM ((x + 1 : Nat) : Int)) [] o) = runM mostP true f (atO 12 (locM (x : Int)) [] (outQ o ((x + 1 : Nat) : Int))) := by
  rw [runM_go rfl (most_1 _ _), runM_go rfl (most_2 _ _ (by omega)), runM_go rfl (most_3 _ _), runM_go rfl (most_4 _ _), runM_go rfl (most_5 _ _), runM_go rfl (most_6 _ _), runM_go rfl (most_7 (x : Int) _ (by omega) (numB_nat (by omega))), runM_go rfl (most_8 _ _ _), runM_go rfl (most_11 _ _ _)]
theorem most_round (x : Nat) (hx : x < 44) (o : List Int) (f : Nat) : runM mostP true (f + 10) (atO 1 (locM ((x + 1 : Nat) : Int)) [] o) = runM mostP true f (atO 1 (locM (x : Int)) [] (outQ o ((x + 1 : Nat) : Int))) := by
  rw [show f + 10 = (f + 1) + 9 by omega, most_nine x hx, runM_go rfl (most_12 _ _)]
theorem most_end (o : List Int) (f : Nat) : runM mostP true (f + 4) (atO 1 (locM ((0 : Nat) : Int)) [] o) = doneO o := by
  rw [runM_go rfl (most_1 _ _)]
  show runM mostP true (f + 3) (atO 2 (locM 0) [⟨1, 0⟩] o) = doneO o
  rw [runM_go rfl (most_2z _), runM_go rfl (most_9 _ _), runM_go rfl (most_10 _ _), runM_idle (show (2 : Int) ≠ 1 by decide)]
theorem most_fin : ∀ (x : Nat), x ≤ 44 → ∀ (o : List Int) (f : Nat), runM mostP true (f + (10 * x + 4)) (atO 1 (locM (x : Int)) [] o) = doneO (outR x o)
  | 0, _, o, f => most_end o f
  | x + 1, hx, o, f => by
    rw [show f + (10 * (x + 1) + 4) = (f + (10 * x + 4)) + 10 by omega, most_round x (by omega), most_fin x (by omega)]
    rfl
theorem runM_add (p : Plan) (look : Bool) : ∀ (a b : Nat) (s : St), runM p look (a + b) s = runM p look b (runM p look a s)
  | 0, b, s => by rw [Nat.zero_add]; rfl
  | a + 1, b, s => by
    rw [show a + 1 + b = (a + b) + 1 by omega]
    by_cases h : s.status = 1
    · rw [runM, if_pos h, runM, if_pos h, runM_add p look a b]
    · rw [runM, if_neg h, runM, if_neg h, runM_idle h]
theorem most_all {x : Nat} (hx : x ≤ 44) : runM mostP true 800 (begT x) = doneO (outR x []) := by
  rw [runM_go rfl (most_0 _)]
  have := most_fin x hx [] (799 - (10 * x + 4))
  rw [show 799 - (10 * x + 4) + (10 * x + 4) = 799 by omega] at this
  exact this
/-- What was let out is no more than may be, and small. -/
def OutsOk (o : List Int) : Prop := o.length ≤ 40 ∧ ∀ y ∈ o, numB y = true
theorem OutsOk.put {o : List Int} (h : OutsOk o) {y : Int} (hy : numB y = true) : OutsOk (outQ o y) := by
  unfold outQ
  split
  · refine ⟨by simp; omega, fun z hz => ?_⟩
    rcases List.mem_append.1 hz with hz | hz
    · exact h.2 z hz
    · rw [List.mem_singleton.1 hz]; exact hy
  · exact h
theorem most_mid : ∀ (m : Nat) (x : Nat), x + m ≤ 44 → ∀ (o : List Int) (f : Nat), OutsOk o → ∃ o', OutsOk o' ∧ runM mostP true (f + 10 * m) (atO 1 (locM ((x + m : Nat) : Int)) [] o) = runM mostP true f (atO 1 (locM (x : Int)) [] o')
  | 0, x, _, o, f, ho => ⟨o, ho, by simp⟩
  | m + 1, x, hx, o, f, ho => by
    obtain ⟨o', h1, h2⟩ := most_mid m x (by omega) (outQ o ((x + m + 1 : Nat) : Int)) f (ho.put (numB_nat (by omega)))
    refine ⟨o', h1, ?_⟩
    rw [show f + 10 * (m + 1) = (f + 10 * m) + 10 by omega, show x + (m + 1) = (x + m) + 1 by omega, most_round (x + m) (by omega), h2]
theorem outR_ok : ∀ (x : Nat), x ≤ 44 → ∀ o, OutsOk o → OutsOk (outR x o)
  | 0, _, _, h => h
  | x + 1, hx, o, h => outR_ok x (by omega) _ (h.put (numB_nat (by omega)))
/-- The run where the first one stops. -/
theorem most_half {x : Nat} (hx : x ≤ 44) : ∃ o, OutsOk o ∧ (runM mostP true 400 (begT x) = doneO o ∨ ∃ y : Nat, y ≤ 44 ∧ runM mostP true 400 (begT x) = atO 12 (locM (y : Int)) [] o) := by
  rw [runM_go rfl (most_0 _)]
  by_cases h : x ≤ 39
  · refine ⟨outR x [], outR_ok x hx [] ⟨by simp, by simp⟩, .inl ?_⟩
    have := most_fin x hx [] (399 - (10 * x + 4))
    rw [show 399 - (10 * x + 4) + (10 * x + 4) = 399 by omega] at this
    exact this
  · obtain ⟨o', h1, h2⟩ := most_mid 39 (x - 39) (by omega) [] 9 ⟨by simp, by simp⟩
    rw [show x - 39 + 39 = x by omega] at h2
    refine ⟨outQ o' ((x - 40 + 1 : Nat) : Int), h1.put (numB_nat (by omega)), .inr ⟨x - 40, by omega, ?_⟩⟩
    rw [h2, show x - 39 = x - 40 + 1 by omega]
    exact most_nine (x - 40) (by omega) o' 0
theorem outR_eq : ∀ (x : Nat) (o : List Int), o.length ≤ 40 → outR x o = o ++ (List.range (min x (40 - o.length))).map fun k : Nat => (x : Int) - (k : Int)
  | 0, o, _ => by simp [outR]
  | x + 1, o, h => by
    unfold outR
    by_cases h9 : o.length < 40
    · rw [outR_eq x _ (by unfold outQ; rw [if_pos h9]; simp; omega)]
      unfold outQ
      rw [if_pos h9, List.append_assoc]
      congr 1
      rw [show min (x + 1) (40 - o.length) = min x (40 - (o ++ [((x + 1 : Nat) : Int)]).length) + 1 by simp; omega, List.range_succ_eq_map]
      simp only [List.map_cons, List.map_map, List.singleton_append]
      simp
      intro k _
      omega
    · have he : outQ o ((x + 1 : Nat) : Int) = o := by unfold outQ; rw [if_neg h9]
      rw [he, outR_eq x o h, show 40 - o.length = 0 by omega]
      simp
theorem outs_fin (x : Nat) : outR x [] = (List.range (min x 40)).map fun k : Nat => (x : Int) - (k : Int) := by
  rw [outR_eq x [] (by simp)]
  simp
/- Each step of the run is as vmRun_ok wants it. -/
theorem p_oneO {code : List Ins} {maps : List Mp} (hp : lodB (mainP [] code maps) = true) (pc : Nat) (loc stk : List Val) (o : List Int) (i : Ins) (hi : code[pc]? = some i) (hop : opsL.contains i.op = true) (h7 : i.op ≠ 7) (hpc : pc < 1000) (hst : stk.length ≤ 100)
    (hloc : i.op = 2 ∨ i.op = 3 → ∃ a : Nat, i.a = a ∧ a < loc.length ∧ a < 100) (hnum : ∀ v ∈ stk, v.kind = 1 → numB v.n = true) (href : ∀ v ∈ stk, v.kind = 2 → v.n = 0) (ho : o.length ≤ 40) : OneOk (mainP [] code maps) (atO pc loc stk o) := by
  obtain ⟨hlt, hie⟩ := List.getElem?_eq_some_iff.1 hi
  have hg : (mthOf (mainP [] code maps) ⟨⟨0, sMain⟩, 0⟩).code.getD (pc : Int).toNat noIns = i := by
    rw [p_mth]
    show code.getD pc noIns = i
    simp [List.getD, hi]
  have hl : (pc : Int) < (mthOf (mainP [] code maps) ⟨⟨0, sMain⟩, 0⟩).code.length := by
    rw [p_mth]
    show (pc : Int) < (code.length : Int)
    omega
  refine ⟨⟨⟨⟨0, sMain⟩, 0⟩, pc, loc, stk⟩, rfl, ?_⟩
  dsimp only
  rw [hg]
  exact ⟨hop, hst, by dsimp only; omega, ⟨hl, by dsimp only; omega⟩, hloc, hnum, fun v hv hk => ⟨0, href v hv hk, by simp [atO]⟩, by simp [atO], by simpa [atO] using ho, fun r _ => lay_le hp r, fun h => absurd h h7⟩
section
variable {x : Int} {o : List Int} (ho : OutsOk o)
include ho
theorem mo_tk (pc : Nat) (hpc : pc < 1000) (hi : mostCode[pc]? = some (insP 2 1)) : OneOk mostP (atO pc (locM x) [] o) :=
  p_oneO most_lod pc _ _ o (insP 2 1) hi rfl (by simp [insP]) hpc (by simp) (fun _ => ⟨1, rfl, by simp [locM], by omega⟩) (by simp) (by simp) ho.1
theorem mo_pl (pc : Nat) (hpc : pc < 1000) (i : Ins) (hi : mostCode[pc]? = some i) (hop : opsL.contains i.op = true) (h7 : i.op ≠ 7) (h2 : ¬ (i.op = 2 ∨ i.op = 3)) {y : Int} (hy : numB y = true) : OneOk mostP (atO pc (locM x) [⟨1, y⟩] o) :=
  p_oneO most_lod pc _ _ o i hi hop h7 hpc (by simp) (fun h => absurd h h2) (num1 hy) (ref1 y) ho.1
theorem mo_em (pc : Nat) (hpc : pc < 1000) (i : Ins) (hi : mostCode[pc]? = some i) (hop : opsL.contains i.op = true) (h7 : i.op ≠ 7) (h2 : ¬ (i.op = 2 ∨ i.op = 3)) : OneOk mostP (atO pc (locM x) [] o) :=
  p_oneO most_lod pc _ _ o i hi hop h7 hpc (by simp) (fun h => absurd h h2) (by simp) (by simp) ho.1
end
theorem RunOk.less {p : Plan} {look : Bool} {s : St} {k k' : Nat} (h : RunOk p look s k) (hk : k' ≤ k) : RunOk p look s k' := fun j hj h1 => h j (by omega) h1
theorem RunOk.later {p : Plan} {look : Bool} {s : St} {a b : Nat} (h : RunOk p look s (a + b)) : RunOk p look (runM p look a s) b := fun j hj => by
  rw [← runM_add]
  exact h (a + j) (by omega)
theorem mostRun : ∀ (x : Nat), x ≤ 44 → ∀ (o : List Int) (f : Nat), OutsOk o → RunOk mostP true (atO 1 (locM (x : Int)) [] o) (f + (10 * x + 4))
  | 0, _, o, f, ho => by
    show RunOk mostP true (atO 1 (locM 0) [] o) (f + 4)
    have h0 : numB 0 = true := by decide
    exact RunOk.go rfl (most_1 0 o) (mo_tk ho 1 (by omega) rfl) (RunOk.go rfl (most_2z o) (mo_pl ho 2 (by omega) (insP 11 9) rfl rfl (by decide) (by decide) h0) (RunOk.go rfl (most_9 0 o) (mo_em ho 9 (by omega) (insN 8) rfl rfl (by decide) (by decide)) (RunOk.go rfl (most_10 0 o) (mo_pl ho 10 (by omega) (insP 10 0) rfl rfl (by decide) (by decide) (by decide)) (RunOk.idle (show (2 : Int) ≠ 1 by decide)))))
  | x + 1, hx, o, f, ho => by
    have hb : numB ((x + 1 : Nat) : Int) = true := numB_nat hx
    have hc : numB (x : Int) = true := numB_nat (by omega)
    have ho2 := ho.put hb
    have ih := mostRun x (by omega) _ f ho2
    exact RunOk.go rfl (most_1 _ o) (mo_tk ho 1 (by omega) rfl) (RunOk.go rfl (most_2 _ o (by omega)) (mo_pl ho 2 (by omega) (insP 11 9) rfl rfl (by decide) (by decide) hb) (RunOk.go rfl (most_3 _ o) (mo_tk ho 3 (by omega) rfl) (RunOk.go rfl (most_4 _ o) (mo_pl ho 4 (by omega) (insP 14 0) rfl rfl (by decide) (by decide) hb) (RunOk.go rfl (most_5 _ _) (mo_tk ho2 5 (by omega) rfl)
      (RunOk.go rfl (most_6 _ _) (mo_pl ho2 6 (by omega) (insN (-1)) rfl rfl (by decide) (by decide) hb) (RunOk.go rfl (most_7 (x : Int) _ (by omega) hc) (p_oneO most_lod 7 _ _ _ (insP 4 0) rfl rfl (by decide) (by omega) (by simp) (fun h => absurd h (by decide)) (num2 hb (by decide)) (ref2 _ _) ho2.1) (RunOk.go rfl (most_8 _ _ _) (mo_pl ho2 8 (by omega) (insP 13 11) rfl rfl (by decide) (by decide) hc)
      (RunOk.go rfl (most_11 _ _ _) (p_oneO most_lod 11 _ _ _ (insP 3 1) rfl rfl (by decide) (by omega) (by simp) (fun _ => ⟨1, rfl, by simp [locM], by omega⟩) (num1 hc) (ref1 _) ho2.1) (RunOk.go rfl (most_12 _ _) (mo_em ho2 12 (by omega) (insP 13 1) rfl rfl (by decide) (by decide)) ih)))))))))
theorem mostRun_ok {x : Nat} (hx : x ≤ 44) : RunOk mostP true (begT x) 800 := by
  have h0 : OneOk mostP (begT x) := p_oneO most_lod 0 [⟨2, 0⟩, ⟨1, (x : Int)⟩, noVal] [] [] (insP 13 1) rfl rfl (by decide) (by omega) (by simp) (fun h => absurd h (by decide)) (by simp) (by simp) (by simp)
  have := mostRun x hx [] (799 - (10 * x + 4)) ⟨by simp, by simp⟩
  rw [show 799 - (10 * x + 4) + (10 * x + 4) = 799 by omega] at this
  exact RunOk.go rfl (most_0 _) h0 this
end Go.Proofs.YtbalicnnlfennaaGreat
