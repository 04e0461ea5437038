/- The program's own keepers in memory: who is there; what a keeper has and whom it asks, noted in maps. -/
import Derived.Test.YtghmnkafpnkojaaGreatDoorLod
import Derived.Test.YtghmnkafpnkojaaGreatDoorMap
import Derived.StillTailTactics
namespace Go.Proofs.YtghmnkafpnkojaaGreatDoor
open Go.RowKit

theorem has_ok (l n cap : Nat) (A : Option Addr) (b1 b2 b3 : Value) (k : Int) (w : World) (hB : Bx w l 90 #[.slice A n cap, b1, b2, b3]) (_hn : n ≤ maxLen) :
    Calls Tryz.prog 64 #[.pointer (some ⟨l, 0, none⟩), .int .i64 k] w (IsBool (decide (0 ≤ k) && decide (k < n)) w) := by
  unfold maxLen at _hn
  obtain ⟨e0, _, _, _⟩ := hB.c4
  have hl := hB.lt
  by_cases h0 : 0 ≤ k
  · by_cases h1 : k < n
    · go_enter Tryz.func64, Tryz.ntmps64
      go_wp2
      go_ret
      exact .mk (by first | (simp [h0, h1]; done) | (simp [h0, h1]; omega) | (simp; omega))
    · go_enter Tryz.func64, Tryz.ntmps64
      go_wp2
      go_ret
      exact .mk (by first | (simp [h1]; done) | (simp [h0, h1]; done) | (simp [h0, h1]; omega) | (simp; omega))
  · go_enter Tryz.func64, Tryz.ntmps64
    go_wp2
    go_ret
    exact .mk (by first | (simp; omega) | (simp [h0]; done) | (simp [h0]; omega))

theorem MapF.look_some {w : World} {b n : Nat} {f : Int → Str → Option Int} (h : MapF w b n f) {k v : Int} {s : Str} (wk : (Lit.int .i64 k).wf = true) (hs : s.size ≤ maxLen) (he : f k s = some v) :
    (Instr.lookup 88 (.map (some b)) (.agg #[.int .i64 k, .string s]) true).run Tryz.prog w = .ok (.tuple #[.int .i64 v, .bool true]) w := by
  rw [h.look_ok wk hs, he]; rfl
theorem MapF.look_none {w : World} {b n : Nat} {f : Int → Str → Option Int} (h : MapF w b n f) {k : Int} {s : Str} (wk : (Lit.int .i64 k).wf = true) (hs : s.size ≤ maxLen) (he : f k s = none) :
    (Instr.lookup 88 (.map (some b)) (.agg #[.int .i64 k, .string s]) true).run Tryz.prog w = .ok (.tuple #[.int .i64 0, .bool false]) w := by
  rw [h.look_ok wk hs, he]; rfl

/-- What is noted of keeper k's first i classes, over f. -/
def ownP (f : Int → Str → Option Int) (k : Int) (xs : List Cls) : Int → Str → Option Int := fun q s => if q = k then ixOpt (clsIs s) xs else f q s
def askP (f : Int → Str → Option Int) (k : Int) (xs : List Ask) : Int → Str → Option Int := fun q s => if q = k then askOpt xs s else f q s
theorem ownP_step {f : Int → Str → Option Int} {k : Int} {xs : List Cls} {i : Nat} (hi : i < xs.length) (hn : ixOpt (clsIs xs[i].name) (xs.take i) = none) (q : Int) (s : Str) :
    upd (ownP f k (xs.take i)) k xs[i].name i q s = ownP f k (xs.take (i + 1)) q s := by
  unfold upd ownP
  by_cases hq : q = k
  · subst hq
    rw [List.take_succ_eq_append_getElem hi, if_pos rfl, if_pos rfl, ixOpt_append]
    by_cases hs : s = xs[i].name
    · subst hs
      rw [if_pos ⟨rfl, rfl⟩, hn]
      have : clsIs xs[i].name xs[i] = true := clsIs_iff.2 rfl
      simp [this, List.length_take, Nat.min_eq_left (Nat.le_of_lt hi)]
    · rw [if_neg (by intro h; exact hs h.2)]
      have hc : ¬ clsIs s xs[i] = true := fun h => hs (clsIs_iff.1 h).symm
      rw [if_neg hc]
      cases h : ixOpt (clsIs s) (xs.take i) <;> simp
  · rw [if_neg (by intro h; exact hq h.1), if_neg hq, if_neg hq]
theorem askOpt_append (xs : List Ask) (a : Ask) (s : Str) : askOpt (xs ++ [a]) s = if (askOpt xs s).isSome then askOpt xs s else if askIs s a then some a.keeper else none := by
  unfold askOpt
  rw [List.find?_append]
  cases h : xs.find? (askIs s)
  · simp [List.find?_cons]
    cases askIs s a <;> rfl
  · simp
theorem askOpt_none {xs : List Ask} {s : Str} : askOpt xs s = none ↔ xs.all (fun g => !askIs s g) = true := by
  unfold askOpt
  rw [Option.map_eq_none_iff, List.find?_eq_none, List.all_eq_true]
  simp
theorem askP_step {f : Int → Str → Option Int} {k : Int} {xs : List Ask} {i : Nat} (hi : i < xs.length) (hn : askOpt (xs.take i) xs[i].name = none) (q : Int) (s : Str) :
    upd (askP f k (xs.take i)) k xs[i].name xs[i].keeper q s = askP f k (xs.take (i + 1)) q s := by
  unfold upd askP
  by_cases hq : q = k
  · subst hq
    rw [List.take_succ_eq_append_getElem hi, if_pos rfl, if_pos rfl, askOpt_append]
    by_cases hs : s = xs[i].name
    · subst hs
      rw [if_pos ⟨rfl, rfl⟩, hn]
      have : askIs xs[i].name xs[i] = true := askIs_iff.2 rfl
      simp [this]
    · rw [if_neg (by intro h; exact hs h.2)]
      have hc : ¬ askIs s xs[i] = true := fun h => hs (askIs_iff.1 h).symm
      rw [if_neg hc]
      cases h : askOpt (xs.take i) s <;> simp
  · rw [if_neg (by intro h; exact hq h.1), if_neg hq, if_neg hq]
/-- What a call gives back, but for blocks of Y all that was there being as it was. -/
def BoolFx (Y : Nat → Prop) (b : Bool) (w : World) (e : Ending) (w' : World) : Prop := e = .returned (.bool b) ∧ Fr Y w w'
def EnterPost (y : Kpr) (many : Int) (k : Int) (bo ba no na : Nat) (f g : Int → Str → Option Int) (w : World) (e : Ending) (w' : World) : Prop :=
  e = .returned (.bool (kprB many y)) ∧ Fr (fun b => b = bo ∨ b = ba) w w' ∧ (kprB many y = true → MapF w' bo (no + 5) (ownP f k y.owns) ∧ MapF w' ba (na + 4) (askP g k y.asks))
theorem EnterPost.no {y : Kpr} {many k : Int} {bo ba no na : Nat} {f g : Int → Str → Option Int} {w w' : World} (h : kprB many y = false) (hf : Fr (fun b => b = bo ∨ b = ba) w w') : EnterPost y many k bo ba no na f g w (.returned (.bool false)) w' :=
  ⟨by rw [h], hf, fun h' => by rw [h] at h'; cases h'⟩
theorem kprB_no {many : Int} {y : Kpr} (g : 5 < y.owns.length ∨ 4 < y.asks.length ∨ ownsGo [] y.owns = false ∨ asksGo many [] y.asks = false) : kprB many y = false := by
  unfold kprB
  rcases g with g | g | g | g
  · rw [decide_eq_false (show ¬ y.owns.length ≤ 5 by omega)]; simp
  · rw [decide_eq_false (show ¬ y.asks.length ≤ 4 by omega)]; simp
  · rw [g]; simp
  · rw [g]; simp
theorem ixOpt_all {s : Str} {xs : List Cls} (h : xs.all (fun g => !clsIs s g) = true) : ixOpt (clsIs s) xs = none := ixOpt_none.2 h
theorem ixOpt_some {s : Str} {xs : List Cls} (h : xs.all (fun g => !clsIs s g) = false) : ∃ v, ixOpt (clsIs s) xs = some v := by
  cases hx : ixOpt (clsIs s) xs
  · rw [ixOpt_none.1 hx] at h; cases h
  · exact ⟨_, rfl⟩
theorem askOpt_some {s : Str} {xs : List Ask} (h : xs.all (fun g => !askIs s g) = false) : ∃ v, askOpt xs s = some v := by
  cases hx : askOpt xs s
  · rw [askOpt_none.1 hx] at h; cases h
  · exact ⟨_, rfl⟩
end Go.Proofs.YtghmnkafpnkojaaGreatDoor
