/- The program's own machine: what it takes from a stack and puts on it. -/
import Derived.Test.YtbalicnnlfennaaGreatG26
namespace Go.Proofs.YtbalicnnlfennaaGreat
open Go.RowKit

/-- What popAll gives back. -/
def PopsPost (K : McP) (n : Nat) (s : St) (fs : List Cal) (f : Cal) (m : MLay) (c : Nat) (cnt : Nat) (w : World) (e : Ending) (w' : World) : Prop :=
  match popsV f.stack cnt with
  | none => e = .returned (.tuple #[.slice none 0 0, .bool false]) ∧ Fr No w w'
  | some (xs, r) => ∃ v, e = .returned (.tuple #[v, .bool true]) ∧ ValRow w' v xs ∧ (∀ q, rowBlk v = some q → w.heap.size ≤ q) ∧ McOk K n c s fs (f.left r) m w w'

set_option maxRecDepth 100000 in
set_option maxHeartbeats 4000000 in
theorem popAll_ok (K : McP) (E : McE K) (n : Nat) (s : St) (fs : List Cal) (f : Cal) (m : MLay) (ks : List KC) (k : KC) (w : World) (h : McT K n s fs f m ks k w) (hst : f.stack.length ≤ 100) (cnt : Nat) (hc0 : 0 < cnt) (hcn : cnt ≤ 100) :
    Calls Tryz.prog 84 #[.pointer (some ⟨k.c, 13, none⟩), .int .i64 (cnt : Int)] w (PopsPost K n s fs f m k.c cnt w) := by
  have hrow := h.cal.2.2.1
  obtain ⟨A, c, hvs, hc1, hc2⟩ := RowV.form hrow
  unfold maxLen at hc2
  have KK := h.ccells
  rw [hvs] at KK
  have hsub : IntKind.i64.wrap ((f.stack.length : Int) - (cnt : Int)) = (f.stack.length : Int) - cnt := IntWalk.i64_in _ (by omega)
  unfold PopsPost popsV
  by_cases hp : cnt ≤ f.stack.length
  · simp only [if_pos hp]
    rw [hvs] at hrow
    obtain ⟨g, c', cur, he, _, _, hb, _, _, hq⟩ := RowV.at_ hrow (by omega)
    cases he
    have hsl := Sl.drop (ValRow.sl (X := No) hrow (fun _ _ h => h)) (k := f.stack.length - cnt) (by omega)
    simp only [Nat.zero_add] at hsl
    obtain ⟨r, hr⟩ : ∃ r, r = f.stack.length - cnt := ⟨_, rfl⟩
    rw [← hr] at hsl ⊢
    have hrc : f.stack.length - r = cnt := by omega
    rw [hrc] at hsl
    have hdl : (f.stack.drop r).length = cnt := by rw [List.length_drop]; omega
    have HC := fun W (hW : Fr No w W) => cloneV_ok No (.slice (some ⟨g, r * 2, none⟩) cnt (c - r)) (f.stack.drop r) W (hsl.keep hW (fun _ h => h) (fun _ _ _ h => h)) (by rw [hdl]; omega)
    have hcut := fun W (hW : Fr No w W) => (h.keep E hW).cut E hvs (r := r) (by omega)
    have hcr : (f.stack.length : Int) - cnt = (r : Int) := by omega
    rw [hcr] at hsub
    have hcr2 : ((f.stack.length : Int) - (cnt : Int)) = (r : Int) := hcr
    have h0 : ¬ ((r : Int) < 0) := by omega
    have hrl : Hid (r ≤ f.stack.length ∧ f.stack.length - r = cnt ∧ f.stack.length ≤ c) := Lib.hid ⟨by omega, hrc, hc1⟩
    have hcut' : ∀ W, Fr No w W → McOk K n k.c s fs (f.left (f.stack.take r)) m W (W.setCell ⟨k.c, 13, none⟩ (.slice (some ⟨g, 0, none⟩) r c)) := hcut
    clear hr hrc hdl hcr2 hcut
    generalize f.stack.length = sl at *
    clear h hrow hsl hb
    go_enter Tryz.func84, Tryz.ntmps84
    obtain ⟨_, _, _, _, _, _, _, _, e13, _, ef, el⟩ := KK w (Fr.refl _ _)
    go_wp2_with (go_at_call 46; rw [hrl.out.2.1]; refine (HC _ frc).mono ?_; rintro e w1 ⟨v, rfl, hv, hnew, hf1⟩; obtain ⟨_, _, _, _, _, _, _, _, x13, _, xf, xl⟩ := KK w1 hf1)
    refine bodyPost_ret (v := .tuple #[v, .bool true]) (by simp [results, Tryz.results84, go_sem]) rfl ?_
    exact ⟨v, rfl, hv.keepB (Fr.one _ _ _ _) (fun q hq e => by have := (hnew q (mem_rowB.1 hq)).1; omega), fun q hq => (hnew q hq).1, (hcut' w1 hf1).from hf1⟩
  · simp only [if_neg hp]
    have hcr : ((f.stack.length : Int) - (cnt : Int)) < 0 := by omega
    obtain ⟨_, _, _, _, _, _, _, _, e13, _, ef, el⟩ := KK w (Fr.refl _ _)
    clear h hrow
    go_enter Tryz.func84, Tryz.ntmps84
    go_wp2
    refine bodyPost_ret (v := .tuple #[.slice none 0 0, .bool false]) (by simp [results, Tryz.results84, go_sem]) rfl ?_
    exact ⟨rfl, Fr.refl _ _⟩

theorem popV_cases (st : List Val) : (st = [] ∧ popV st = none ∧ popsV st 1 = none) ∨ ∃ ys x, st = ys ++ [x] ∧ popV st = some (x, ys) ∧ popsV st 1 = some ([x], ys) := by
  rcases List.eq_nil_or_concat st with rfl | ⟨ys, x, rfl⟩
  · exact .inl ⟨rfl, rfl, rfl⟩
  · refine .inr ⟨ys, x, by simp, ?_, ?_⟩
    · simp [popV]
    · simp [popsV]
theorem McOk.fr {K : McP} {n c : Nat} {s : St} {fs : List Cal} {f : Cal} {m : MLay} {w w' : World} (h : McOk K n c s fs f m w w') : Fr (K.own m) w w' := let ⟨_, _, _, _, _, _, h⟩ := h; h
theorem val_one {w w1 : World} {v : Value} {x : Val} (h : ValRow w1 v [x]) (hn : ∀ q, rowBlk v = some q → w.heap.size ≤ q) : ∃ g c, v = .slice (some ⟨g, 0, none⟩) 1 c ∧ 1 ≤ c ∧ w1.cell? ⟨g, 0, none⟩ = some (.int .i64 x.kind) ∧ w1.cell? ⟨g, 1, none⟩ = some (.int .i64 x.n) ∧ (∀ i, w1.frozen? ⟨g, i, none⟩ = false) ∧ g < w1.heap.size ∧ w.heap.size ≤ g := by
  obtain ⟨g, c, cur, rfl, h1, _, hb, _, _, hq⟩ := RowV.at_ h (by simp)
  have c0 := RowV.cell h rfl (j := 0) (by simp)
  have c1 := RowV.cell h rfl (j := 1) (by simp)
  exact ⟨g, c, rfl, h1, c0, c1, fun i => hb.frozen i, hb.lt, hn g hq⟩
/-- What pop gives back. -/
def PopPost (K : McP) (n : Nat) (s : St) (fs : List Cal) (f : Cal) (m : MLay) (c : Nat) (w : World) (e : Ending) (w' : World) : Prop :=
  match popV f.stack with
  | none => e = .returned (.tuple #[.agg #[.int .i64 0, .int .i64 0], .bool false]) ∧ Fr No w w'
  | some (v, r) => e = .returned (.tuple #[.agg #[.int .i64 v.kind, .int .i64 v.n], .bool true]) ∧ McOk K n c s fs (f.left r) m w w'

set_option maxRecDepth 100000 in
set_option maxHeartbeats 4000000 in
theorem pop_ok (K : McP) (E : McE K) (n : Nat) (s : St) (fs : List Cal) (f : Cal) (m : MLay) (ks : List KC) (k : KC) (w : World) (h : McT K n s fs f m ks k w) (hst : f.stack.length ≤ 100) :
    Calls Tryz.prog 82 #[.pointer (some ⟨k.c, 13, none⟩)] w (PopPost K n s fs f m k.c w) := by
  have HP := fun W (hW : Fr No w W) => popAll_ok K E n s fs f m ks k W (h.keep E hW) hst 1 (by decide) (by decide)
  have hZ := fun b (hb : b ∈ mcB K m) => h.st.lt hb
  have h0 := h.st.anchor.size
  unfold PopPost
  unfold PopsPost at HP
  obtain ⟨wA, hwA⟩ : ∃ wA, wA = (w.alloc (.cells #[.int .i64 0, .int .i64 0] 40)) := ⟨_, rfl⟩
  have hfA : Fr No w wA := hwA ▸ frc
  have B0 := (hwA ▸ bxc : Bx wA w.heap.size 40 #[.int .i64 0, .int .i64 0])
  have hsA : w.heap.size < wA.heap.size := B0.lt
  have hno : ¬ K.own m w.heap.size := fun hx => by
    rcases hx with hx | hx
    · have := E.bl_lt; omega
    · have := hZ _ hx; omega
  rcases popV_cases f.stack with ⟨hs, h1, h2⟩ | ⟨ys, x, hs, h1, h2⟩
  · rw [h1]
    rw [h2] at HP
    dsimp only at HP ⊢
    clear h hs h1 h2
    go_enter Tryz.func82, Tryz.ntmps82
    go_wp2_with (go_at_call 84; rw [← hwA]; refine (HP _ hfA).mono ?_; rintro e w1 ⟨rfl, hf1⟩; have B1 := B0.keep hf1; obtain ⟨x0, x1⟩ := B1.c2; have xf := (fun i => B1.frozen i); have xl := B1.lt)
    refine bodyPost_ret (v := .tuple #[.agg #[.int .i64 0, .int .i64 0], .bool false]) (by simp [results, Tryz.results82, go_sem, *]) rfl ?_
    exact ⟨rfl, (((hfA.trans0 hf1).setCell (p := ⟨w.heap.size, 0, none⟩) (Nat.le_refl _) _).setCell (p := ⟨w.heap.size, 1, none⟩) (Nat.le_refl _) _).alloc _⟩
  · rw [h1]
    rw [h2] at HP
    dsimp only at HP ⊢
    clear h hs h1 h2
    go_enter Tryz.func82, Tryz.ntmps82
    go_wp2_with (go_at_call 84; rw [← hwA]; refine (HP _ hfA).mono ?_; rintro e w1 ⟨v, rfl, hv, hnew, hO⟩; obtain ⟨g, cg, rfl, hgc, t0, t1, tf, tl, hgn⟩ := val_one hv hnew; have B1 := B0.keepX (McOk.fr hO) hno; obtain ⟨x0, x1⟩ := B1.c2; have xf := (fun i => B1.frozen i); have xl := B1.lt; replace hO := Lib.hid hO; replace B1 := Lib.hid B1)
    refine bodyPost_ret (v := .tuple #[.agg #[.int .i64 x.kind, .int .i64 x.n], .bool true]) (by simp [results, Tryz.results82, go_sem, *]) rfl ?_
    exact ⟨rfl, hO.out.out E hfA ((Fr.one _ _ _ _).same (Fr.one _ _ _ _)) (fun b hb => by subst hb; exact ⟨Nat.le_refl _, hsA⟩) hZ h0⟩

set_option maxRecDepth 100000 in
set_option maxHeartbeats 4000000 in
theorem mput_ok (K : McP) (E : McE K) (n : Nat) (s : St) (fs : List Cal) (f : Cal) (m : MLay) (ks : List KC) (k : KC) (w : World) (h : McT K n s fs f m ks k w) (hst : f.stack.length ≤ 100) (h0 : 0 ≤ f.pc) (h1 : f.pc < 1000) (v : Val) :
    Calls Tryz.prog 81 #[.pointer (some ⟨K.mb, 0, none⟩), .agg #[.int .i64 v.kind, .int .i64 v.n]] w (OpPost K n (putM K.p s fs f v) m w) := by
  have HT := fun W (hW : Fr No w W) => top_ok K n s fs f m ks k W (h.keep E hW)
  have HP := fun W (hW : Fr No w W) => push_ok K E n s fs f m ks k W (h.keep E hW) hst v
  obtain ⟨wA, hwA⟩ : ∃ wA, wA = (w.alloc (.cells #[.int .i64 v.kind, .int .i64 v.n] 40)) := ⟨_, rfl⟩
  have hfA : Fr No w wA := hwA ▸ frc
  have B0 := (hwA ▸ bxc : Bx wA w.heap.size 40 #[.int .i64 v.kind, .int .i64 v.n])
  unfold putM
  unfold PushPost at HP
  by_cases hp : (mthOf K.p f.of_).stack ≤ f.stack.length
  · rw [if_pos hp]
    simp only [if_pos hp] at HP
    have hE := fun W (hW : Fr No w W) => (h.keep E hW).ends 10 (by decide) (Fr.refl No W)
    clear h hp
    have K0 := B0.r2
    go_enter Tryz.func81, Tryz.ntmps81
    go_wp2_with fail
    rw [← hwA]
    replace hwA := Lib.hid hwA
    refine wp_region_monR 5 10 [mV (.pointer (some ⟨K.mb, 0, none⟩)), mV (.pointer (some ⟨k.c, 0, none⟩)), mV (.pointer (some ⟨k.c, 0, none⟩)), mV (.pointer (some ⟨k.c, 13, none⟩)), mV (.agg #[.int .i64 v.kind, .int .i64 v.n])] (by kernel_rfl) (by kernel_rfl) (by simp) ?_ ?_
    · refine hopC ?_ <| hopC ?_ <| hopC ?_ <| hopC ?_ <| hopC ?_ <| hopZ
      all_goals (intro a' W hW hoff hdep; have hbs := hW.size; have H0 := hoff 0 rfl; have H3 := hoff 3 rfl; refine nE rfl ?_)
      · simp [execOp, Act.eval, H0, go_sem, givesUpon]; exact fr1 rfl
      · have D5 : _ = _ := hdep 0 5 rfl; simp [Act.eval, D5, go_sem, givesUpon]; exact (HT _ (hfA.trans0 hW)).mono fun e w' h => ⟨_, h.1, h.2, rfl⟩
      · have D6 : _ = _ := hdep 1 6 rfl; simp [execOp, Act.eval, D6, go_sem, givesUpon]; exact fr1 rfl
      · have D7 : _ = _ := hdep 2 7 rfl; simp [execOp, Act.eval, D7, go_sem, givesUpon]; exact fr1 rfl
      · clear hoff hdep; simp [execOp, Act.eval, go_sem, givesUpon, *]; exact fr1 rfl
    intro vs WR hWR hv hne
    simp only [List.drop_succ_cons, List.drop_zero, putsR_V, putsR_0, Nat.zero_add, Nat.reduceAdd]
    simp only [Act.put, List.setIfInBounds_toArray, List.set_cons_zero, List.set_cons_succ]
    clear hv
    have hfR := hfA.trans0 hWR
    clear K0 HT
    go_wp2_with (go_at_call 119; refine (HP _ hfR).mono ?_; rintro e w2 ⟨rfl, hf2⟩)
    go_ret
    exact ⟨rfl, (hE _ (hfR.trans0 hf2)).from (hfR.trans0 hf2)⟩
  · rw [if_neg hp]
    simp only [if_neg hp] at HP
    have HN := fun {m' : MLay} {ks' : List KC} {k' : KC} {W : World} (hT : McT K n ⟨s.status, fs ++ [⟨f.of_, f.pc, f.locals, f.stack ++ [v]⟩], s.heap, s.outs, s.back⟩ fs ⟨f.of_, f.pc, f.locals, f.stack ++ [v]⟩ m' ks' k' W) => next_ok K E n _ fs _ m' ks' k' W hT h0 h1
    clear h hp
    have K0 := B0.r2
    go_enter Tryz.func81, Tryz.ntmps81
    go_wp2_with fail
    rw [← hwA]
    replace hwA := Lib.hid hwA
    refine wp_region_monR 5 10 [mV (.pointer (some ⟨K.mb, 0, none⟩)), mV (.pointer (some ⟨k.c, 0, none⟩)), mV (.pointer (some ⟨k.c, 0, none⟩)), mV (.pointer (some ⟨k.c, 13, none⟩)), mV (.agg #[.int .i64 v.kind, .int .i64 v.n])] (by kernel_rfl) (by kernel_rfl) (by simp) ?_ ?_
    · refine hopC ?_ <| hopC ?_ <| hopC ?_ <| hopC ?_ <| hopC ?_ <| hopZ
      all_goals (intro a' W hW hoff hdep; have hbs := hW.size; have H0 := hoff 0 rfl; have H3 := hoff 3 rfl; refine nE rfl ?_)
      · simp [execOp, Act.eval, H0, go_sem, givesUpon]; exact fr1 rfl
      · have D5 : _ = _ := hdep 0 5 rfl; simp [Act.eval, D5, go_sem, givesUpon]; exact (HT _ (hfA.trans0 hW)).mono fun e w' h => ⟨_, h.1, h.2, rfl⟩
      · have D6 : _ = _ := hdep 1 6 rfl; simp [execOp, Act.eval, D6, go_sem, givesUpon]; exact fr1 rfl
      · have D7 : _ = _ := hdep 2 7 rfl; simp [execOp, Act.eval, D7, go_sem, givesUpon]; exact fr1 rfl
      · clear hoff hdep; simp [execOp, Act.eval, go_sem, givesUpon, *]; exact fr1 rfl
    intro vs WR hWR hv hne
    simp only [List.drop_succ_cons, List.drop_zero, putsR_V, putsR_0, Nat.zero_add, Nat.reduceAdd]
    simp only [Act.put, List.setIfInBounds_toArray, List.set_cons_zero, List.set_cons_succ]
    clear hv
    have hfR := hfA.trans0 hWR
    clear K0 HT
    go_wp2_with (first
      | (go_at_call 119; refine (HP _ hfR).mono ?_; rintro e w2 ⟨rfl, m2, ks2, k2, hT2, _, hB2, hf2⟩)
      | (go_at_call 83; refine (HN hT2).mono ?_; rintro e w3 ⟨rfl, hO⟩))
    go_ret
    exact ⟨rfl, (hO.then hB2 hf2).from hfR⟩
end Go.Proofs.YtbalicnnlfennaaGreat

/- The program's own machine: what its instructions do (numbers, places). -/
namespace Go.Proofs.YtbalicnnlfennaaGreat
open Go.RowKit

set_option maxRecDepth 100000 in
set_option maxHeartbeats 2000000 in
theorem numVal_ok (a : Int) (w : World) : Calls Tryz.prog 38 #[.int .i64 a] w (Gives (.agg #[.int .i64 1, .int .i64 a]) w) := by
  go_enter Tryz.func38, Tryz.ntmps38
  go_wp2
  refine bodyPost_ret (v := .agg #[.int .i64 1, .int .i64 a]) (by simp [results, Tryz.results38, go_sem]) rfl ?_
  exact ⟨rfl, frc⟩
set_option maxRecDepth 100000 in
set_option maxHeartbeats 2000000 in
theorem nullVal_ok (w : World) : Calls Tryz.prog 77 #[] w (Gives (.agg #[.int .i64 3, .int .i64 0]) w) := by
  go_enter Tryz.func77, Tryz.ntmps77
  go_wp2
  refine bodyPost_ret (v := .agg #[.int .i64 3, .int .i64 0]) (by simp [results, Tryz.results77, go_sem]) rfl ?_
  exact ⟨rfl, frc⟩
abbrev insV (i : Ins) : Value := .agg #[.int .i64 i.op, .int .i64 i.a, .string i.name, .string i.member]

set_option maxRecDepth 100000 in
set_option maxHeartbeats 4000000 in
theorem doNum_ok (K : McP) (E : McE K) (n : Nat) (s : St) (fs : List Cal) (f : Cal) (m : MLay) (ks : List KC) (k : KC) (w : World) (h : McT K n s fs f m ks k w) (hst : f.stack.length ≤ 100) (h0 : 0 ≤ f.pc) (h1 : f.pc < 1000) (i : Ins) :
    Calls Tryz.prog 47 #[.pointer (some ⟨K.mb, 0, none⟩), insV i] w (OpPost K n (putM K.p s fs f ⟨1, i.a⟩) m w) := by
  have HP := fun W (hW : Fr No w W) => mput_ok K E n s fs f m ks k W (h.keep E hW) hst h0 h1 ⟨1, i.a⟩
  generalize putM K.p s fs f ⟨1, i.a⟩ = s' at *
  clear h
  go_enter Tryz.func47, Tryz.ntmps47
  go_wp2_with (first
    | (go_at_call 38; refine (numVal_ok _ _).mono ?_; rintro e w1 ⟨rfl, hf1⟩; have hf01 := Fr.trans0 (show Fr No w _ from frc) hf1)
    | (go_at_call 81; refine (HP _ hf01).mono ?_; rintro e w2 ⟨rfl, hO⟩))
  go_ret
  exact ⟨rfl, hO.from hf01⟩

set_option maxRecDepth 100000 in
set_option maxHeartbeats 4000000 in
theorem doGo_ok (K : McP) (E : McE K) (n : Nat) (s : St) (fs : List Cal) (f : Cal) (m : MLay) (ks : List KC) (k : KC) (w : World) (h : McT K n s fs f m ks k w) (i : Ins) :
    Calls Tryz.prog 59 #[.pointer (some ⟨K.mb, 0, none⟩), insV i] w (OpPost K n (jumpM K.p s fs f i.a) m w) := by
  have HJ := fun W (hW : Fr No w W) => jump_ok K E n s fs f m ks k W (h.keep E hW) i.a
  generalize jumpM K.p s fs f i.a = s' at *
  clear h
  go_enter Tryz.func59, Tryz.ntmps59
  go_wp2_with (go_at_call 89; refine (HJ _ frc).mono ?_; rintro e w2 ⟨rfl, hO⟩)
  go_ret
  exact ⟨rfl, hO.from frc⟩

/-- One value of a row. -/
theorem ValRow.at2 {w : World} {xs : List Val} {g n c : Nat} (h : ValRow w (.slice (some ⟨g, 0, none⟩) n c) xs) {j : Nat} (hj : j < xs.length) : n = xs.length ∧ n ≤ c ∧ c ≤ maxLen ∧ ∀ W, Fr No w W → W.cell? ⟨g, j * 2, none⟩ = some (.int .i64 xs[j].kind) ∧ W.cell? ⟨g, j * 2 + 1, none⟩ = some (.int .i64 xs[j].n) ∧ (∀ i, W.frozen? ⟨g, i, none⟩ = false) ∧ g < W.heap.size := by
  obtain ⟨g', c', cur, he, h1, h2, hb, _, _, _⟩ := RowV.at_ h (by omega)
  cases he
  refine ⟨rfl, h1, h2, fun W hW => ?_⟩
  have c0 := RowV.cell h rfl (j := j * 2) (by omega)
  have c1 := RowV.cell h rfl (j := j * 2 + 1) (by omega)
  have e0 := flatW_get valCells_len xs j hj 0 (by decide)
  have e1 := flatW_get valCells_len xs j hj 1 (by decide)
  rw [Nat.add_zero] at e0
  rw [e0] at c0
  rw [e1] at c1
  exact ⟨hW.keep0 c0, hW.keep0 c1, fun i => (hb.keep hW).frozen i, (hb.keep hW).lt⟩
theorem ValRow.pos {w : World} {v : Value} {xs : List Val} (h : ValRow w v xs) (h0 : 0 < xs.length) : ∃ g c, v = .slice (some ⟨g, 0, none⟩) xs.length c := by
  obtain ⟨g, c, _, he, _⟩ := RowV.at_ h h0
  exact ⟨g, c, he⟩

set_option maxRecDepth 100000 in
set_option maxHeartbeats 4000000 in
theorem doTake_ok (K : McP) (E : McE K) (n : Nat) (s : St) (fs : List Cal) (f : Cal) (m : MLay) (ks : List KC) (k : KC) (w : World) (h : McT K n s fs f m ks k w) (hst : f.stack.length ≤ 100) (h0 : 0 ≤ f.pc) (h1 : f.pc < 1000) (i : Ins) (a : Nat) (hia : i.a = a) (ha : a < f.locals.length) (hal : a < 100) :
    Calls Tryz.prog 48 #[.pointer (some ⟨K.mb, 0, none⟩), insV i] w (OpPost K n (if f.locals[a].kind = 0 then s.ends 10 else putM K.p s fs f f.locals[a]) m w) := by
  obtain ⟨op, ia, nm, mbr⟩ := i
  dsimp only at hia
  subst hia
  have HT := fun W (hW : Fr No w W) => top_ok K n s fs f m ks k W (h.keep E hW)
  have HP := fun W (hW : Fr No w W) => mput_ok K E n s fs f m ks k W (h.keep E hW) hst h0 h1 f.locals[a]
  have hE := fun W (hW : Fr No w W) => (h.keep E hW).ends 10 (by decide) (Fr.refl No W)
  obtain ⟨g, c, hvl⟩ := ValRow.pos h.cal.2.1 (by omega)
  have hvr := h.cal.2.1
  rw [hvl] at hvr
  obtain ⟨_, hc1, hc2, KV⟩ := hvr.at2 ha
  unfold maxLen at hc2
  have KK := h.ccells
  rw [hvl] at KK
  obtain ⟨wA, hwA⟩ : ∃ wA, wA = (w.alloc (.cells #[.int .i64 op, .int .i64 a, .string nm, .string mbr] 27)) := ⟨_, rfl⟩
  have hfA : Fr No w wA := hwA ▸ frc
  have B0 := (hwA ▸ bxc : Bx wA w.heap.size 27 #[.int .i64 op, .int .i64 a, .string nm, .string mbr])
  have K0 := B0.r4
  have KKA := fun W (hW : Fr No wA W) => KK W (hfA.trans0 hW)
  have KVA := fun W (hW : Fr No wA W) => KV W (hfA.trans0 hW)
  generalize f.locals[a] = x at *
  generalize f.locals.length = ll at *
  clear h hvr hvl KK KV
  obtain ⟨xk, xn⟩ := x
  dsimp only at *
  by_cases hk : xk = 0
  · subst hk
    rw [if_pos rfl]
    go_enter Tryz.func48, Tryz.ntmps48
    go_wp2_with fail
    rw [← hwA]
    replace hwA := Lib.hid hwA
    refine wp_region_monR 10 15 [mV (.pointer (some ⟨K.mb, 0, none⟩)), mV (.pointer (some ⟨k.c, 0, none⟩)), mV (.pointer (some ⟨k.c, 0, none⟩)), mV (.pointer (some ⟨k.c, 12, none⟩)), mV (.slice (some ⟨g, 0, none⟩) ll c), mV (.pointer (some ⟨w.heap.size, 1, none⟩)), mV (.int .i64 a), mV (.pointer (some ⟨g, a * 2, none⟩)), mV (.agg #[.int .i64 0, .int .i64 xn]), mB 40 (#[.int .i64 0, .int .i64 0]) wA.heap.size] (by kernel_rfl) (by kernel_rfl) (by simp) ?_ ?_
    · refine hopC ?_ <| hopC ?_ <| hopC ?_ <| hopC ?_ <| hopC ?_ <| hopC ?_ <| hopC ?_ <| hopC ?_ <| hopC ?_ <| hopC ?_ <| hopZ
      all_goals (intro a' W hW hoff hdep; have hbs := hW.size; have H0 := hoff 0 rfl; have H3 := hoff 3 rfl; refine nE rfl ?_)
      · simp [execOp, Act.eval, H0, go_sem, givesUpon]; exact fr1 rfl
      · have D6 : _ = _ := hdep 0 6 rfl; simp [Act.eval, D6, go_sem, givesUpon]; exact (HT _ (hfA.trans0 hW)).mono fun e w' h => ⟨_, h.1, h.2, rfl⟩
      · have D7 : _ = _ := hdep 1 7 rfl; simp [execOp, Act.eval, D7, go_sem, givesUpon]; exact fr1 rfl
      · have D8 : _ = _ := hdep 2 8 rfl; simp [execOp, Act.eval, D8, go_sem, givesUpon]; exact fr1 rfl
      · have D9 : _ = _ := hdep 3 9 rfl; clear hoff hdep; simp [execOp, Act.eval, go_sem, givesUpon, *]; exact fr1 rfl
      · simp [execOp, Act.eval, H3, go_sem, givesUpon]; exact fr1 rfl
      · have D11 : _ = _ := hdep 5 11 rfl; clear hoff hdep; simp [execOp, Act.eval, go_sem, givesUpon, *]; exact fr1 rfl
      · have D10 : _ = _ := hdep 4 10 rfl; have D12 : _ = _ := hdep 6 12 rfl; clear hoff hdep; simp [execOp, Act.eval, go_sem, givesUpon, *]; exact fr1 rfl
      · have D13 : _ = _ := hdep 7 13 rfl; clear hoff hdep; simp [execOp, Act.eval, go_sem, givesUpon, *]; exact fr1 rfl
      · simp [execOp, go_sem, givesUpon]; exact ⟨(Fr.refl _ _).alloc _, ⟨_, rfl, Bx.new_ rfl, hbs⟩, Nat.le_refl _⟩
    intro vs WR hWR hv hne
    obtain ⟨b9, e9, hb9, hl9⟩ := hv 9 (by omega)
    simp only [List.drop_succ_cons, List.drop_zero, putsR_B, putsR_V, putsR_0, Nat.zero_add, Nat.reduceAdd, e9]
    simp only [Act.put, List.setIfInBounds_toArray, List.set_cons_zero, List.set_cons_succ]
    clear e9 hv
    have hfR := hfA.trans0 hWR
    obtain ⟨p0, p1⟩ := hb9.c2
    have pf := fun i => hb9.frozen i
    have pl := hb9.lt
    have hwl := hfA.size
    clear K0 KKA KVA HT hne hb9
    have hfE : ∀ u v, Fr No w ((WR.setCell ⟨b9, 0, none⟩ u).setCell ⟨b9, 1, none⟩ v) := fun u v => (hfR.setCell (p := ⟨b9, 0, none⟩) (by dsimp only; omega) u).setCell (p := ⟨b9, 1, none⟩) (by dsimp only; omega) v
    go_wp2_with fail
    go_ret
    exact ⟨rfl, (hE _ (hfE _ _)).from (hfE _ _)⟩
  · rw [if_neg hk]
    go_enter Tryz.func48, Tryz.ntmps48
    go_wp2_with fail
    rw [← hwA]
    replace hwA := Lib.hid hwA
    refine wp_region_monR 10 15 [mV (.pointer (some ⟨K.mb, 0, none⟩)), mV (.pointer (some ⟨k.c, 0, none⟩)), mV (.pointer (some ⟨k.c, 0, none⟩)), mV (.pointer (some ⟨k.c, 12, none⟩)), mV (.slice (some ⟨g, 0, none⟩) ll c), mV (.pointer (some ⟨w.heap.size, 1, none⟩)), mV (.int .i64 a), mV (.pointer (some ⟨g, a * 2, none⟩)), mV (.agg #[.int .i64 xk, .int .i64 xn]), mB 40 (#[.int .i64 0, .int .i64 0]) wA.heap.size] (by kernel_rfl) (by kernel_rfl) (by simp) ?_ ?_
    · refine hopC ?_ <| hopC ?_ <| hopC ?_ <| hopC ?_ <| hopC ?_ <| hopC ?_ <| hopC ?_ <| hopC ?_ <| hopC ?_ <| hopC ?_ <| hopZ
      all_goals (intro a' W hW hoff hdep; have hbs := hW.size; have H0 := hoff 0 rfl; have H3 := hoff 3 rfl; refine nE rfl ?_)
      · simp [execOp, Act.eval, H0, go_sem, givesUpon]; exact fr1 rfl
      · have D6 : _ = _ := hdep 0 6 rfl; simp [Act.eval, D6, go_sem, givesUpon]; exact (HT _ (hfA.trans0 hW)).mono fun e w' h => ⟨_, h.1, h.2, rfl⟩
      · have D7 : _ = _ := hdep 1 7 rfl; simp [execOp, Act.eval, D7, go_sem, givesUpon]; exact fr1 rfl
      · have D8 : _ = _ := hdep 2 8 rfl; simp [execOp, Act.eval, D8, go_sem, givesUpon]; exact fr1 rfl
      · have D9 : _ = _ := hdep 3 9 rfl; clear hoff hdep; simp [execOp, Act.eval, go_sem, givesUpon, *]; exact fr1 rfl
      · simp [execOp, Act.eval, H3, go_sem, givesUpon]; exact fr1 rfl
      · have D11 : _ = _ := hdep 5 11 rfl; clear hoff hdep; simp [execOp, Act.eval, go_sem, givesUpon, *]; exact fr1 rfl
      · have D10 : _ = _ := hdep 4 10 rfl; have D12 : _ = _ := hdep 6 12 rfl; clear hoff hdep; simp [execOp, Act.eval, go_sem, givesUpon, *]; exact fr1 rfl
      · have D13 : _ = _ := hdep 7 13 rfl; clear hoff hdep; simp [execOp, Act.eval, go_sem, givesUpon, *]; exact fr1 rfl
      · simp [execOp, go_sem, givesUpon]; exact ⟨(Fr.refl _ _).alloc _, ⟨_, rfl, Bx.new_ rfl, hbs⟩, Nat.le_refl _⟩
    intro vs WR hWR hv hne
    obtain ⟨b9, e9, hb9, hl9⟩ := hv 9 (by omega)
    simp only [List.drop_succ_cons, List.drop_zero, putsR_B, putsR_V, putsR_0, Nat.zero_add, Nat.reduceAdd, e9]
    simp only [Act.put, List.setIfInBounds_toArray, List.set_cons_zero, List.set_cons_succ]
    clear e9 hv
    have hfR := hfA.trans0 hWR
    obtain ⟨p0, p1⟩ := hb9.c2
    have pf := fun i => hb9.frozen i
    have pl := hb9.lt
    have hwl := hfA.size
    clear K0 KKA KVA HT hne hb9
    have hfE : ∀ u v, Fr No w ((WR.setCell ⟨b9, 0, none⟩ u).setCell ⟨b9, 1, none⟩ v) := fun u v => (hfR.setCell (p := ⟨b9, 0, none⟩) (by dsimp only; omega) u).setCell (p := ⟨b9, 1, none⟩) (by dsimp only; omega) v
    generalize putM K.p s fs f ⟨xk, xn⟩ = s' at *
    go_wp2_with (go_at_call 81; refine (HP _ (hfE _ _)).mono ?_; rintro e w2 ⟨rfl, hO⟩)
    go_ret
    exact ⟨rfl, hO.from (hfE _ _)⟩
end Go.Proofs.YtbalicnnlfennaaGreat

/- The program's own machine: what its instructions do (to a place; a sum; elsewhere at nought; what is let out). -/
namespace Go.Proofs.YtbalicnnlfennaaGreat
open Go.RowKit

set_option maxRecDepth 100000 in
set_option maxHeartbeats 4000000 in
theorem doPut_ok (K : McP) (E : McE K) (n : Nat) (s : St) (fs : List Cal) (f : Cal) (m : MLay) (ks : List KC) (k : KC) (w : World) (h : McT K n s fs f m ks k w) (hst : f.stack.length ≤ 100) (h0 : 0 ≤ f.pc) (h1 : f.pc < 1000) (i : Ins) (a : Nat) (hia : i.a = a) (ha : a < f.locals.length) (hal : a < 100) :
    Calls Tryz.prog 49 #[.pointer (some ⟨K.mb, 0, none⟩), insV i] w (OpPost K n (match popV f.stack with
      | none => s.ends 10
      | some (v, r) => nextM K.p s fs ⟨f.of_, f.pc, f.locals.set a v, r⟩) m w) := by
  obtain ⟨op, ia, nm, mbr⟩ := i
  dsimp only at hia
  subst hia
  have HT := fun W (hW : Fr No w W) => top_ok K n s fs f m ks k W (h.keep E hW)
  have HP := fun W (hW : Fr No w W) => pop_ok K E n s fs f m ks k W (h.keep E hW) hst
  unfold PopPost at HP
  obtain ⟨wA, hwA⟩ : ∃ wA, wA = (w.alloc (.cells #[.int .i64 op, .int .i64 a, .string nm, .string mbr] 27)) := ⟨_, rfl⟩
  have hfA : Fr No w wA := hwA ▸ frc
  have B0 := (hwA ▸ bxc : Bx wA w.heap.size 27 #[.int .i64 op, .int .i64 a, .string nm, .string mbr])
  rcases popV_cases f.stack with ⟨hs, q1, _⟩ | ⟨ys, x, hs, q1, _⟩
  · rw [q1] at HP ⊢
    dsimp only at HP ⊢
    have hE := fun W (hW : Fr No w W) => (h.keep E hW).ends 10 (by decide) (Fr.refl No W)
    clear h hs q1
    go_enter Tryz.func49, Tryz.ntmps49
    go_wp2_with (first
      | (go_at_call 62; rw [← hwA]; refine (HT _ hfA).mono ?_; rintro e w1 ⟨rfl, hf1⟩)
      | (go_at_call 82; refine (HP _ (hfA.trans0 hf1)).mono ?_; rintro e w2 ⟨rfl, hf2⟩; have hfE : Fr No w w2 := (hfA.trans0 hf1).trans0 hf2))
    go_ret
    exact ⟨rfl, (hE _ frc).from frc⟩
  · rw [q1] at HP ⊢
    dsimp only at HP ⊢
    have hZ := fun b (hb : b ∈ mcB K m) => h.st.lt hb
    have hw0 := h.st.anchor.size
    have hno : ¬ K.own m w.heap.size := fun hx => by
      rcases hx with hx | hx
      · have := E.bl_lt; omega
      · have := hZ _ hx; omega
    clear h hs q1
    go_enter Tryz.func49, Tryz.ntmps49
    go_wp2_with (first
      | (go_at_call 62; rw [← hwA]; refine (HT _ hfA).mono ?_; rintro e w1 ⟨rfl, hf1⟩)
      | (go_at_call 82; refine (HP _ (hfA.trans0 hf1)).mono ?_; rintro e w2 ⟨rfl, hO⟩; replace hO := Lib.hid hO))
    obtain ⟨m2, ks2, k2, hT2, hk2, hB2, hf2⟩ := hO.out
    have hf01 := hfA.trans0 hf1
    clear HT HP hO
    obtain ⟨wB, hwB⟩ : ∃ wB, wB = (w2.alloc (.cells #[.int .i64 x.kind, .int .i64 x.n] 40)) := ⟨_, rfl⟩
    rw [← hwB]
    have hfB : Fr No w2 wB := hwB ▸ frc
    have BB : Bx wB w2.heap.size 40 #[.int .i64 x.kind, .int .i64 x.n] := hwB ▸ bxc
    have KB := BB.r2
    have B2 := ((B0.keep hf1).keepX hf2 hno).keep hfB
    have K0 := B2.r4
    replace hwA := Lib.hid hwA
    replace hwB := Lib.hid hwB
    have hTB := hT2.keep E hfB
    obtain ⟨g, c, hvl⟩ := ValRow.pos hTB.cal.2.1 (show 0 < f.locals.length by omega)
    change k2.vl = .slice (some ⟨g, 0, none⟩) f.locals.length c at hvl
    have hvr := hTB.cal.2.1
    rw [hvl] at hvr
    obtain ⟨hq0, hc1, hc2, KV⟩ := hvr.at2 ha
    unfold maxLen at hc2
    have KK := hTB.ccells
    rw [hvl, hk2] at KK
    have hS := fun W (hW : Fr No wB W) => (hTB.keep E hW).setLoc E hvl ha x
    clear hq0 hvr hvl hT2 B2 BB hTB
    refine wp_region_monR 8 27 [mV (.pointer (some ⟨k.c, 0, none⟩)), mV (.pointer (some ⟨k.c, 0, none⟩)), mV (.pointer (some ⟨k.c, 12, none⟩)), mV (.slice (some ⟨g, 0, none⟩) f.locals.length c), mV (.pointer (some ⟨w.heap.size, 1, none⟩)), mV (.int .i64 a), mV (.agg #[.int .i64 x.kind, .int .i64 x.n]), mV (.pointer (some ⟨g, a * 2, none⟩))] (by kernel_rfl) (by kernel_rfl) (by simp) ?_ ?_
    · refine hopC ?_ <| hopC ?_ <| hopC ?_ <| hopC ?_ <| hopC ?_ <| hopC ?_ <| hopC ?_ <| hopC ?_ <| hopZ
      all_goals (intro a' W hW hoff hdep; have hbs := hW.size; have H5 := hoff 5 rfl; have H3 := hoff 3 rfl; have H6 := hoff 6 rfl; refine nE rfl ?_)
      · simp [execOp, Act.eval, H5, go_sem, givesUpon]; exact fr1 rfl
      · have D19 : _ = _ := hdep 0 19 rfl; simp [execOp, Act.eval, D19, go_sem, givesUpon]; exact fr1 rfl
      · have D20 : _ = _ := hdep 1 20 rfl; simp [execOp, Act.eval, D20, go_sem, givesUpon]; exact fr1 rfl
      · have D21 : _ = _ := hdep 2 21 rfl; clear hoff hdep; simp [execOp, Act.eval, go_sem, givesUpon, *]; exact fr1 rfl
      · simp [execOp, Act.eval, H3, go_sem, givesUpon]; exact fr1 rfl
      · have D23 : _ = _ := hdep 4 23 rfl; clear hoff hdep; simp [execOp, Act.eval, go_sem, givesUpon, *]; exact fr1 rfl
      · clear hoff hdep; simp [execOp, Act.eval, go_sem, givesUpon, *]; exact fr1 rfl
      · have D22 : _ = _ := hdep 3 22 rfl; have D24 : _ = _ := hdep 5 24 rfl; clear hoff hdep; simp [execOp, Act.eval, go_sem, givesUpon, *]; exact fr1 rfl
    intro vs WR hWR hv hne
    simp only [List.drop_succ_cons, List.drop_zero, putsR_V, putsR_0, Nat.zero_add, Nat.reduceAdd]
    simp only [Act.put, List.setIfInBounds_toArray, List.set_cons_zero, List.set_cons_succ]
    clear hv
    obtain ⟨v0, v1, vf, vl⟩ := KV WR hWR
    obtain ⟨m3, ks3, k3, hT3, hk3, hB3, hf3⟩ := hS WR hWR
    have HN := next_ok K E n _ fs _ m3 ks3 k3 _ hT3 h0 h1
    replace hT3 := Lib.hid hT3
    replace hf3 := Lib.hid hf3
    clear hS KK KB K0 KV
    go_wp2_with (go_at_call 83; refine HN.mono ?_; rintro e w4 ⟨rfl, hO⟩)
    go_ret
    exact ⟨rfl, ((((hO.then hB3 hf3.out).from hWR).from hfB).then hB2 hf2).from hf01⟩

set_option maxRecDepth 100000 in
set_option maxHeartbeats 4000000 in
theorem doZero_ok (K : McP) (E : McE K) (n : Nat) (s : St) (fs : List Cal) (f : Cal) (m : MLay) (ks : List KC) (k : KC) (w : World) (h : McT K n s fs f m ks k w) (hst : f.stack.length ≤ 100) (h0 : 0 ≤ f.pc) (h1 : f.pc < 1000) (i : Ins) :
    Calls Tryz.prog 57 #[.pointer (some ⟨K.mb, 0, none⟩), insV i] w (OpPost K n (match popV f.stack with
      | none => s.ends 10
      | some (v, r) => if v.kind = 1 then (if v.n = 0 then jumpM K.p s fs (f.left r) i.a else nextM K.p s fs (f.left r)) else s.ends 10) m w) := by
  obtain ⟨op, ia, nm, mbr⟩ := i
  dsimp only
  have HT := fun W (hW : Fr No w W) => top_ok K n s fs f m ks k W (h.keep E hW)
  have HP := fun W (hW : Fr No w W) => pop_ok K E n s fs f m ks k W (h.keep E hW) hst
  unfold PopPost at HP
  obtain ⟨wA, hwA⟩ : ∃ wA, wA = (w.alloc (.cells #[.int .i64 op, .int .i64 ia, .string nm, .string mbr] 27)) := ⟨_, rfl⟩
  have hfA : Fr No w wA := hwA ▸ frc
  have B0 := (hwA ▸ bxc : Bx wA w.heap.size 27 #[.int .i64 op, .int .i64 ia, .string nm, .string mbr])
  rcases popV_cases f.stack with ⟨hs, q1, _⟩ | ⟨ys, x, hs, q1, _⟩
  · rw [q1] at HP ⊢
    dsimp only at HP ⊢
    have hE := fun W (hW : Fr No w W) => (h.keep E hW).ends 10 (by decide) (Fr.refl No W)
    clear h hs q1
    go_enter Tryz.func57, Tryz.ntmps57
    go_wp2_with (first
      | (go_at_call 62; rw [← hwA]; refine (HT _ hfA).mono ?_; rintro e w1 ⟨rfl, hf1⟩)
      | (go_at_call 82; refine (HP _ (hfA.trans0 hf1)).mono ?_; rintro e w2 ⟨rfl, hf2⟩; have hfE : Fr No w w2 := (hfA.trans0 hf1).trans0 hf2))
    go_ret
    exact ⟨rfl, (hE _ frc).from frc⟩
  · rw [q1] at HP ⊢
    dsimp only at HP ⊢
    have hno : ¬ K.own m w.heap.size := fun hx => by
      rcases hx with hx | hx
      · have := E.bl_lt; have := h.st.anchor.size; omega
      · have := h.st.lt hx; omega
    clear h hs q1
    obtain ⟨xk, xn⟩ := x
    dsimp only at *
    by_cases hk : xk = 1
    · subst hk
      rw [if_pos rfl]
      by_cases hn : xn = 0
      · subst hn
        rw [if_pos rfl]
        go_enter Tryz.func57, Tryz.ntmps57
        go_wp2_with (first
          | (go_at_call 62; rw [← hwA]; refine (HT _ hfA).mono ?_; rintro e w1 ⟨rfl, hf1⟩)
          | (go_at_call 82; refine (HP _ (hfA.trans0 hf1)).mono ?_; rintro e w2 ⟨rfl, hO⟩; obtain ⟨b0, b1, b2, b3, bf, bl⟩ := (B0.keep hf1).keepX (McOk.fr hO) hno |>.r4 _ (Fr.refl _ _); replace hO := Lib.hid hO)
          | (go_at_call 89; obtain ⟨m2, ks2, k2, hT2, hk2, hB2, hf2⟩ := hO.out; have HJ := fun W (hW : Fr No w2 W) => jump_ok K E n _ fs _ m2 ks2 k2 W (hT2.keep E hW) ia; refine (HJ _ frc).mono ?_; rintro e w3 ⟨rfl, hO3⟩))
        go_ret
        exact ⟨rfl, ((hO3.from frc).then hB2 hf2).from (hfA.trans0 hf1)⟩
      · rw [if_neg hn]
        go_enter Tryz.func57, Tryz.ntmps57
        go_wp2_with (first
          | (go_at_call 62; rw [← hwA]; refine (HT _ hfA).mono ?_; rintro e w1 ⟨rfl, hf1⟩)
          | (go_at_call 82; refine (HP _ (hfA.trans0 hf1)).mono ?_; rintro e w2 ⟨rfl, hO⟩; obtain ⟨b0, b1, b2, b3, bf, bl⟩ := (B0.keep hf1).keepX (McOk.fr hO) hno |>.r4 _ (Fr.refl _ _); replace hO := Lib.hid hO)
          | (go_at_call 83; obtain ⟨m2, ks2, k2, hT2, hk2, hB2, hf2⟩ := hO.out; have HN := fun W (hW : Fr No w2 W) => next_ok K E n _ fs _ m2 ks2 k2 W (hT2.keep E hW) h0 h1; refine (HN _ frc).mono ?_; rintro e w3 ⟨rfl, hO3⟩))
        go_ret
        exact ⟨rfl, ((hO3.from frc).then hB2 hf2).from (hfA.trans0 hf1)⟩
    · rw [if_neg hk]
      go_enter Tryz.func57, Tryz.ntmps57
      go_wp2_with (first
        | (go_at_call 62; rw [← hwA]; refine (HT _ hfA).mono ?_; rintro e w1 ⟨rfl, hf1⟩)
        | (go_at_call 82; refine (HP _ (hfA.trans0 hf1)).mono ?_; rintro e w2 ⟨rfl, hO⟩; obtain ⟨b0, b1, b2, b3, bf, bl⟩ := (B0.keep hf1).keepX (McOk.fr hO) hno |>.r4 _ (Fr.refl _ _); replace hO := Lib.hid hO))
      go_ret
      exact ⟨rfl, ((hO.out.ends 10 (by decide)).to E frc).from (hfA.trans0 hf1)⟩
end Go.Proofs.YtbalicnnlfennaaGreat
