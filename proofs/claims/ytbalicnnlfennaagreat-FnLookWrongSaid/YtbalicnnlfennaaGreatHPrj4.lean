/- FnLookWrong's plans: the plain law. No program is named here. -/
import Derived.Test.YtbalicnnlfennaaGreatHPrj3
namespace Go.Proofs.YtbalicnnlfennaaGreat
open Go.RowKit

def lwCode (a : Int) : Nat → List Ins
  | 0 => [insN a, insP 2 0, insP 4 0, insP 10 0]
  | 1 => [insN a, insN a, insP 4 0, insP 4 0, insP 10 0]
  | 2 => [insN a, insP 2 0, insP 10 0]
  | 3 => [insN a, insN a, insN a, insN a, insP 10 0]
  | _ => [insN a, insP 2 2, insP 10 0]
def lwAt : Nat → Int
  | 0 => 3
  | 1 => 4
  | 2 => 3
  | 3 => 4
  | _ => 2
abbrev lwP (a : Int) (k : Nat) : Plan := mainP [] (lwCode a k) []
theorem five {P : Nat → Prop} (h0 : P 0) (h1 : P 1) (h2 : P 2) (h3 : P 3) (h4 : ∀ k, P (k + 4)) : ∀ k, P k
  | 0 => h0
  | 1 => h1
  | 2 => h2
  | 3 => h3
  | k + 4 => h4 k
theorem lw_lod {a : Int} (ha : numB a = true) (k : Nat) : lodB (lwP a k) = true := by
  have hg : ∀ (c : List Ins) (n : Int), (c.length : Int) = n → 1 ≤ c.length → c.length ≤ 16 → (∀ i ∈ c, insAt 3 n i = true) → codeB (mainMth c []) = true := fun c n h1 h2 h3 h4 => by
    unfold codeB
    show (decide (1 ≤ c.length) && decide (c.length ≤ 16) && c.all (insAt 3 c.length)) = true
    rw [h1, decide_eq_true h2, decide_eq_true h3, List.all_eq_true.2 h4]
    rfl
  have i1 : ∀ n, insAt 3 n (insN a) = true := fun n => insAt_of (insB_num ha) rfl
  have i2 : ∀ n, insAt 3 n (insP 2 0) = true := fun n => insAt_of (insB_n (by decide) (by decide) (by decide)) (by simp [insP])
  have i3 : ∀ n, insAt 3 n (insP 2 2) = true := fun n => insAt_of (insB_n (by decide) (by decide) (by decide)) (by simp [insP])
  have i4 : ∀ n, insAt 3 n (insP 4 0) = true := fun n => insAt_of (insB_p (by decide) (by decide) (by decide) (by decide)) (by simp [insP])
  have i5 : ∀ n, insAt 3 n (insP 10 0) = true := fun n => insAt_of (insB_p (by decide) (by decide) (by decide) (by decide)) (by simp [insP])
  refine mainP_lod ?_ rfl
  revert k
  refine five ?_ ?_ ?_ ?_ (fun k => ?_)
  · exact hg _ 4 rfl (by simp [lwCode]) (by simp [lwCode]) (by simp [lwCode, i1, i2, i4, i5])
  · exact hg _ 5 rfl (by simp [lwCode]) (by simp [lwCode]) (by simp [lwCode, i1, i4, i5])
  · exact hg _ 3 rfl (by simp [lwCode]) (by simp [lwCode]) (by simp [lwCode, i1, i2, i5])
  · exact hg _ 5 rfl (by simp [lwCode]) (by simp [lwCode]) (by simp [lwCode, i1, i5])
  · exact hg _ 3 rfl (by simp [lwCode]) (by simp [lwCode]) (by simp [lwCode, i1, i3, i5])
theorem lw_look (P : Plan) (a : Int) : ∀ k, lookF P 0 sMain (mainMth (lwCode a k) []) = ([], lwAt k) := by
  refine five ?_ ?_ ?_ ?_ (fun k => ?_)
  all_goals simp [lookF, mainMth, lwCode, lwAt, lookGo, meetF, mapF, insF, pushF, popF, takeF, leadsF, goesOn, beginF, mayK, tagEq, insN, insP, tagOf, clsT, noT, numT, kndB_num]
theorem lw_wrong (a : Int) (k : Nat) : rightM (lwP a k) ⟨⟨0, sMain⟩, 0⟩ = false := by
  unfold rightM
  rw [p_mth]
  have h := lw_look (lwP a k) a k
  show decide ((lookF (lwP a k) 0 sMain (mainMth (lwCode a k) [])).2 = 0) = false
  rw [h]
  revert k
  refine five ?_ ?_ ?_ ?_ (fun k => ?_)
  all_goals (intro _; rfl)
theorem lw_enterT (a n : Int) (k : Nat) : enterM (lwP a k) true ⟨1, [], [⟨⟨0, sMain⟩, newVals (lwP a k) ⟨0, sMain⟩⟩], [], noVal⟩ [] ⟨⟨0, sMain⟩, 0⟩ [⟨2, 0⟩, ⟨1, n⟩] = endT 5 := by
  unfold enterM newVals
  rw [p_lay, lw_wrong]
  rfl
theorem lw_enterF (a n : Int) (k : Nat) : enterM (lwP a k) false ⟨1, [], [⟨⟨0, sMain⟩, newVals (lwP a k) ⟨0, sMain⟩⟩], [], noVal⟩ [] ⟨⟨0, sMain⟩, 0⟩ [⟨2, 0⟩, ⟨1, n⟩] = begT n := by
  unfold enterM newVals
  rw [p_lay]
  simp only [List.map_nil, p_types]
  rw [p_mth]
  rfl
section
variable {a : Int} (ha : numB a = true) (h2 : numB (a + a) = true)
include ha h2
theorem lw_stk : ∀ v ∈ [(⟨1, a⟩ : Val), ⟨1, a⟩, ⟨1, a⟩, ⟨1, a + a⟩, ⟨2, 0⟩], (v.kind = 1 → numB v.n = true) ∧ (v.kind = 2 → v.n = 0) := by
  intro v hv
  simp only [List.mem_cons, List.not_mem_nil, or_false] at hv
  rcases hv with rfl | rfl | rfl | rfl | rfl
  all_goals simp [ha, h2]
theorem lw_both : ∀ k, runM (lwP a k) false 400 (begT a) = endT 10 ∧ RunOk (lwP a k) false (begT a) 400 := by
  have hs := lw_stk ha h2
  have hn : ∀ l : List Val, (∀ v ∈ l, v ∈ [(⟨1, a⟩ : Val), ⟨1, a⟩, ⟨1, a⟩, ⟨1, a + a⟩, ⟨2, 0⟩]) → (∀ v ∈ l, v.kind = 1 → numB v.n = true) ∧ (∀ v ∈ l, v.kind = 2 → v.n = 0) := fun l h => ⟨fun v hv => (hs v (h v hv)).1, fun v hv => (hs v (h v hv)).2⟩
  refine five ?_ ?_ ?_ ?_ (fun k => ?_)
  · have hp : lodB (lwP a 0) = true := lw_lod ha _
    have s1 : stepM (lwP a 0) false (begT a) = atT 1 [⟨2, 0⟩, ⟨1, a⟩, noVal] [⟨1, a⟩] := by simp [stepM, begT, p_mth, mainMth, lwCode, insM, insN, insP, putM, nextM, jumpM, St.goes, atT, noVal]
    have o1 : OneOk (lwP a 0) (begT a) := p_one hp 0 _ _ (insN a) rfl rfl (by simp [insN]) (by omega) (by simp) (by simp [insN]) (hn [] (by simp)).1 (hn [] (by simp)).2
    have s2 : stepM (lwP a 0) false (atT 1 [⟨2, 0⟩, ⟨1, a⟩, noVal] [⟨1, a⟩]) = atT 2 [⟨2, 0⟩, ⟨1, a⟩, noVal] [⟨1, a⟩, ⟨2, 0⟩] := by simp [stepM, p_mth, mainMth, lwCode, insM, insN, insP, putM, nextM, jumpM, St.goes, atT, noVal]
    have o2 : OneOk (lwP a 0) (atT 1 [⟨2, 0⟩, ⟨1, a⟩, noVal] [⟨1, a⟩]) := p_one hp 1 _ _ (insP 2 0) rfl rfl (by simp [insP]) (by omega) (by simp) (fun _ => ⟨0, rfl, by simp, by omega⟩) (hn [⟨1, a⟩] (by simp)).1 (hn [⟨1, a⟩] (by simp)).2
    have s3 : stepM (lwP a 0) false (atT 2 [⟨2, 0⟩, ⟨1, a⟩, noVal] [⟨1, a⟩, ⟨2, 0⟩]) = endT 10 := by simp [stepM, p_mth, mainMth, lwCode, insM, insN, insP, popsV, St.ends, atT, endT, noVal]
    have o3 : OneOk (lwP a 0) (atT 2 [⟨2, 0⟩, ⟨1, a⟩, noVal] [⟨1, a⟩, ⟨2, 0⟩]) := p_one hp 2 _ _ (insP 4 0) rfl rfl (by simp [insP]) (by omega) (by simp) (by simp [insP]) (hn [⟨1, a⟩, ⟨2, 0⟩] (by simp)).1 (hn [⟨1, a⟩, ⟨2, 0⟩] (by simp)).2
    exact ⟨by rw [runM_go rfl s1, runM_go rfl s2, runM_go rfl s3, runM_idle (show (10 : Int) ≠ 1 by decide)], RunOk.go rfl s1 o1 (RunOk.go rfl s2 o2 (RunOk.go rfl s3 o3 (RunOk.idle (show (10 : Int) ≠ 1 by decide))))⟩
  · have hp : lodB (lwP a 1) = true := lw_lod ha _
    have s1 : stepM (lwP a 1) false (begT a) = atT 1 [⟨2, 0⟩, ⟨1, a⟩, noVal] [⟨1, a⟩] := by simp [stepM, begT, p_mth, mainMth, lwCode, insM, insN, insP, putM, nextM, jumpM, St.goes, atT, noVal]
    have o1 : OneOk (lwP a 1) (begT a) := p_one hp 0 _ _ (insN a) rfl rfl (by simp [insN]) (by omega) (by simp) (by simp [insN]) (hn [] (by simp)).1 (hn [] (by simp)).2
    have s2 : stepM (lwP a 1) false (atT 1 [⟨2, 0⟩, ⟨1, a⟩, noVal] [⟨1, a⟩]) = atT 2 [⟨2, 0⟩, ⟨1, a⟩, noVal] [⟨1, a⟩, ⟨1, a⟩] := by simp [stepM, p_mth, mainMth, lwCode, insM, insN, insP, putM, nextM, jumpM, St.goes, atT, noVal]
    have o2 : OneOk (lwP a 1) (atT 1 [⟨2, 0⟩, ⟨1, a⟩, noVal] [⟨1, a⟩]) := p_one hp 1 _ _ (insN a) rfl rfl (by simp [insN]) (by omega) (by simp) (by simp [insN]) (hn [⟨1, a⟩] (by simp)).1 (hn [⟨1, a⟩] (by simp)).2
    have s3 : stepM (lwP a 1) false (atT 2 [⟨2, 0⟩, ⟨1, a⟩, noVal] [⟨1, a⟩, ⟨1, a⟩]) = atT 3 [⟨2, 0⟩, ⟨1, a⟩, noVal] [⟨1, a + a⟩] := by simp [stepM, p_mth, mainMth, lwCode, insM, insN, insP, popsV, putM, nextM, jumpM, St.goes, atT, Cal.left, noVal, h2]
    have o3 : OneOk (lwP a 1) (atT 2 [⟨2, 0⟩, ⟨1, a⟩, noVal] [⟨1, a⟩, ⟨1, a⟩]) := p_one hp 2 _ _ (insP 4 0) rfl rfl (by simp [insP]) (by omega) (by simp) (by simp [insP]) (hn [⟨1, a⟩, ⟨1, a⟩] (by simp)).1 (hn [⟨1, a⟩, ⟨1, a⟩] (by simp)).2
    have s4 : stepM (lwP a 1) false (atT 3 [⟨2, 0⟩, ⟨1, a⟩, noVal] [⟨1, a + a⟩]) = endT 10 := by simp [stepM, p_mth, mainMth, lwCode, insM, insN, insP, popsV, St.ends, atT, endT, noVal]
    have o4 : OneOk (lwP a 1) (atT 3 [⟨2, 0⟩, ⟨1, a⟩, noVal] [⟨1, a + a⟩]) := p_one hp 3 _ _ (insP 4 0) rfl rfl (by simp [insP]) (by omega) (by simp) (by simp [insP]) (hn [⟨1, a + a⟩] (by simp)).1 (hn [⟨1, a + a⟩] (by simp)).2
    exact ⟨by rw [runM_go rfl s1, runM_go rfl s2, runM_go rfl s3, runM_go rfl s4, runM_idle (show (10 : Int) ≠ 1 by decide)], RunOk.go rfl s1 o1 (RunOk.go rfl s2 o2 (RunOk.go rfl s3 o3 (RunOk.go rfl s4 o4 (RunOk.idle (show (10 : Int) ≠ 1 by decide)))))⟩
  · have hp : lodB (lwP a 2) = true := lw_lod ha _
    have s1 : stepM (lwP a 2) false (begT a) = atT 1 [⟨2, 0⟩, ⟨1, a⟩, noVal] [⟨1, a⟩] := by simp [stepM, begT, p_mth, mainMth, lwCode, insM, insN, insP, putM, nextM, jumpM, St.goes, atT, noVal]
    have o1 : OneOk (lwP a 2) (begT a) := p_one hp 0 _ _ (insN a) rfl rfl (by simp [insN]) (by omega) (by simp) (by simp [insN]) (hn [] (by simp)).1 (hn [] (by simp)).2
    have s2 : stepM (lwP a 2) false (atT 1 [⟨2, 0⟩, ⟨1, a⟩, noVal] [⟨1, a⟩]) = atT 2 [⟨2, 0⟩, ⟨1, a⟩, noVal] [⟨1, a⟩, ⟨2, 0⟩] := by simp [stepM, p_mth, mainMth, lwCode, insM, insN, insP, putM, nextM, jumpM, St.goes, atT, noVal]
    have o2 : OneOk (lwP a 2) (atT 1 [⟨2, 0⟩, ⟨1, a⟩, noVal] [⟨1, a⟩]) := p_one hp 1 _ _ (insP 2 0) rfl rfl (by simp [insP]) (by omega) (by simp) (fun _ => ⟨0, rfl, by simp, by omega⟩) (hn [⟨1, a⟩] (by simp)).1 (hn [⟨1, a⟩] (by simp)).2
    have s3 : stepM (lwP a 2) false (atT 2 [⟨2, 0⟩, ⟨1, a⟩, noVal] [⟨1, a⟩, ⟨2, 0⟩]) = endT 10 := by simp [stepM, p_mth, mainMth, lwCode, insM, insN, insP, popV, hasB, St.ends, atT, endT, noVal]
    have o3 : OneOk (lwP a 2) (atT 2 [⟨2, 0⟩, ⟨1, a⟩, noVal] [⟨1, a⟩, ⟨2, 0⟩]) := p_one hp 2 _ _ (insP 10 0) rfl rfl (by simp [insP]) (by omega) (by simp) (by simp [insP]) (hn [⟨1, a⟩, ⟨2, 0⟩] (by simp)).1 (hn [⟨1, a⟩, ⟨2, 0⟩] (by simp)).2
    exact ⟨by rw [runM_go rfl s1, runM_go rfl s2, runM_go rfl s3, runM_idle (show (10 : Int) ≠ 1 by decide)], RunOk.go rfl s1 o1 (RunOk.go rfl s2 o2 (RunOk.go rfl s3 o3 (RunOk.idle (show (10 : Int) ≠ 1 by decide))))⟩
  · have hp : lodB (lwP a 3) = true := lw_lod ha _
    have s1 : stepM (lwP a 3) false (begT a) = atT 1 [⟨2, 0⟩, ⟨1, a⟩, noVal] [⟨1, a⟩] := by simp [stepM, begT, p_mth, mainMth, lwCode, insM, insN, insP, putM, nextM, jumpM, St.goes, atT, noVal]
    have o1 : OneOk (lwP a 3) (begT a) := p_one hp 0 _ _ (insN a) rfl rfl (by simp [insN]) (by omega) (by simp) (by simp [insN]) (hn [] (by simp)).1 (hn [] (by simp)).2
    have s2 : stepM (lwP a 3) false (atT 1 [⟨2, 0⟩, ⟨1, a⟩, noVal] [⟨1, a⟩]) = atT 2 [⟨2, 0⟩, ⟨1, a⟩, noVal] [⟨1, a⟩, ⟨1, a⟩] := by simp [stepM, p_mth, mainMth, lwCode, insM, insN, insP, putM, nextM, jumpM, St.goes, atT, noVal]
    have o2 : OneOk (lwP a 3) (atT 1 [⟨2, 0⟩, ⟨1, a⟩, noVal] [⟨1, a⟩]) := p_one hp 1 _ _ (insN a) rfl rfl (by simp [insN]) (by omega) (by simp) (by simp [insN]) (hn [⟨1, a⟩] (by simp)).1 (hn [⟨1, a⟩] (by simp)).2
    have s3 : stepM (lwP a 3) false (atT 2 [⟨2, 0⟩, ⟨1, a⟩, noVal] [⟨1, a⟩, ⟨1, a⟩]) = atT 3 [⟨2, 0⟩, ⟨1, a⟩, noVal] [⟨1, a⟩, ⟨1, a⟩, ⟨1, a⟩] := by simp [stepM, p_mth, mainMth, lwCode, insM, insN, insP, putM, nextM, jumpM, St.goes, atT, noVal]
    have o3 : OneOk (lwP a 3) (atT 2 [⟨2, 0⟩, ⟨1, a⟩, noVal] [⟨1, a⟩, ⟨1, a⟩]) := p_one hp 2 _ _ (insN a) rfl rfl (by simp [insN]) (by omega) (by simp) (by simp [insN]) (hn [⟨1, a⟩, ⟨1, a⟩] (by simp)).1 (hn [⟨1, a⟩, ⟨1, a⟩] (by simp)).2
    have s4 : stepM (lwP a 3) false (atT 3 [⟨2, 0⟩, ⟨1, a⟩, noVal] [⟨1, a⟩, ⟨1, a⟩, ⟨1, a⟩]) = endT 10 := by simp [stepM, p_mth, mainMth, lwCode, insM, insN, insP, putM, St.ends, atT, endT, noVal]
    have o4 : OneOk (lwP a 3) (atT 3 [⟨2, 0⟩, ⟨1, a⟩, noVal] [⟨1, a⟩, ⟨1, a⟩, ⟨1, a⟩]) := p_one hp 3 _ _ (insN a) rfl rfl (by simp [insN]) (by omega) (by simp) (by simp [insN]) (hn [⟨1, a⟩, ⟨1, a⟩, ⟨1, a⟩] (by simp)).1 (hn [⟨1, a⟩, ⟨1, a⟩, ⟨1, a⟩] (by simp)).2
    exact ⟨by rw [runM_go rfl s1, runM_go rfl s2, runM_go rfl s3, runM_go rfl s4, runM_idle (show (10 : Int) ≠ 1 by decide)], RunOk.go rfl s1 o1 (RunOk.go rfl s2 o2 (RunOk.go rfl s3 o3 (RunOk.go rfl s4 o4 (RunOk.idle (show (10 : Int) ≠ 1 by decide)))))⟩
  · have hp : lodB (lwP a (k + 4)) = true := lw_lod ha _
    have s1 : stepM (lwP a (k + 4)) false (begT a) = atT 1 [⟨2, 0⟩, ⟨1, a⟩, noVal] [⟨1, a⟩] := by simp [stepM, begT, p_mth, mainMth, lwCode, insM, insN, insP, putM, nextM, jumpM, St.goes, atT, noVal]
    have o1 : OneOk (lwP a (k + 4)) (begT a) := p_one hp 0 _ _ (insN a) rfl rfl (by simp [insN]) (by omega) (by simp) (by simp [insN]) (hn [] (by simp)).1 (hn [] (by simp)).2
    have s2 : stepM (lwP a (k + 4)) false (atT 1 [⟨2, 0⟩, ⟨1, a⟩, noVal] [⟨1, a⟩]) = endT 10 := by simp [stepM, p_mth, mainMth, lwCode, insM, insN, insP, St.ends, atT, endT, noVal]
    have o2 : OneOk (lwP a (k + 4)) (atT 1 [⟨2, 0⟩, ⟨1, a⟩, noVal] [⟨1, a⟩]) := p_one hp 1 _ _ (insP 2 2) rfl rfl (by simp [insP]) (by omega) (by simp) (fun _ => ⟨2, rfl, by simp, by omega⟩) (hn [⟨1, a⟩] (by simp)).1 (hn [⟨1, a⟩] (by simp)).2
    exact ⟨by rw [runM_go rfl s1, runM_go rfl s2, runM_idle (show (10 : Int) ≠ 1 by decide)], RunOk.go rfl s1 o1 (RunOk.go rfl s2 o2 (RunOk.idle (show (10 : Int) ≠ 1 by decide)))⟩
end
end Go.Proofs.YtbalicnnlfennaaGreat

/- LookMethod: the program's, of a method that is there. -/
namespace Go.Proofs.YtbalicnnlfennaaGreat
open Go.RowKit

def SaysI (x : Int) (w : World) (e : Ending) (w' : World) : Prop := (∃ u, e = .returned (.tuple #[u, .int .i64 x])) ∧ Fr No w w'
set_option maxRecDepth 100000 in
set_option maxHeartbeats 4000000 in
theorem lookMethodI_ok (p : Plan) (v : Value) (k i a : Nat) (s : Str) (w : World) (h : Sl No w 2 (KprC No w) v p.keepers) (hp : lodB p = true) (hh : Here p ⟨k, s⟩ k i) (hs : s.size ≤ maxLen) (wk : (Lit.int .i64 (k : Int)).wf = true) (ha : a < (clsAt p ⟨k, s⟩).methods.length) (hops : OkOps ((clsAt p ⟨k, s⟩).methods[a]).code)
    (hm : hasMB p ⟨⟨k, s⟩, a⟩ = true) :
    Calls Tryz.prog 16 #[.agg #[v], .agg #[.int .i64 (k : Int), .string s], .int .i64 (a : Int)] w (SaysI (lookF p k s ((clsAt p ⟨k, s⟩).methods[a])).2 w) := by
  obtain ⟨A, cap, rfl, _, _⟩ := h.form
  obtain ⟨wA, hwA⟩ : ∃ wA, wA = ((w.alloc (.cells #[.slice A p.keepers.length cap] 31)).alloc (.cells #[.int .i64 (k : Int), .string s] 54)) := ⟨_, rfl⟩
  have hfA : Fr No w wA := hwA ▸ frc
  have B0 : Bx wA w.heap.size 31 #[.slice A p.keepers.length cap] := hwA ▸ bxc
  have B1 : Bx wA (w.heap.size + 1) 54 #[.int .i64 (k : Int), .string s] := hwA ▸ bxc
  have HN := newLodge_ok p _ wA (h.keep hfA (fun _ h => h.elim) (fun _ _ _ h => h.keep hfA (fun _ h => h.elim)))
  unfold NewPost at HN
  rw [hp] at HN
  have HM := fun l bl W (hL : Lg W l bl 0 p) => hasMethod_ok l bl 0 p ⟨⟨k, s⟩, a⟩ W hL hs wk (by omega)
  have HL := fun l bl W (hL : Lg W l bl 1 p) => look_ok l bl 1 p k i a s W hL hh hs ha hops (by omega)
  simp only [hm] at HM
  generalize lookF p k s ((clsAt p ⟨k, s⟩).methods[a]) = R at *
  clear h hops ha hh
  obtain ⟨z0, z1⟩ := B1.c2
  have q0 := B0.c1
  have l0 := B0.lt
  have l1 := B1.lt
  have hsA := hfA.size
  go_enter Tryz.func16, Tryz.ntmps16
  go_wp2_with fail
  rw [← hwA]
  replace hwA := Lib.hid hwA
  refine HN.mono ?_
  rintro e w1 ⟨hf1, ⟨hno, _⟩ | ⟨_, l, bl, rfl, hll, hbl, hLo⟩⟩
  · cases hno
  · have hLg : Lg w1 l bl 0 p := ⟨_, hLo, fun _ _ _ h => by cases h⟩
    obtain ⟨y0, y1⟩ := (B1.keep hf1).c2
    have yl := (B1.keep hf1).lt
    have hs1 := hf1.size
    clear z0 z1 q0 l0 l1 HN hLo
    go_wp2_with fail
    obtain ⟨w2, hw2⟩ : ∃ w2, w2 = (w1.alloc (.cells #[.int .i64 (k : Int), .string s, .int .i64 (a : Int)] 84)) := ⟨_, rfl⟩
    have B2 : Bx w2 w1.heap.size 84 #[.int .i64 (k : Int), .string s, .int .i64 (a : Int)] := hw2 ▸ bxc
    have hf2 : Fr No w1 w2 := hw2 ▸ frc
    rw [← hw2]
    clear hw2 y0 y1 yl
    refine (HM l bl w2 (hLg.keep hf2)).mono ?_
    rintro e w3 ⟨rfl, hf3, hL3⟩
    have hblt := hLg.lt
    have B3 := B2.keepX hf3 (by omega)
    obtain ⟨m0, m1, m2⟩ := B3.c3
    have mf := fun i => B3.frozen i
    have ml := B3.lt
    go_wp2_with fail
    refine (HL l bl w3 hL3).mono ?_
    rintro e w4 ⟨u, rfl, _, _, hf4⟩
    have hw4 : Fr No w w4 := (((hfA.trans0 hf1).trans0 hf2).trans hf3 (fun b hb h => absurd h (by omega))).trans hf4 (fun b hb h => absurd h (by omega))
    clear m0 m1 m2 mf ml B2 B3 hf1 hf2 hf3 hf4 HM HL
    go_wp2
    refine bodyPost_ret (v := .tuple #[u, .int .i64 R.2]) (by simp [results, Tryz.results16, go_sem]) rfl ?_
    exact ⟨⟨u, rfl⟩, hw4⟩
end Go.Proofs.YtbalicnnlfennaaGreat
