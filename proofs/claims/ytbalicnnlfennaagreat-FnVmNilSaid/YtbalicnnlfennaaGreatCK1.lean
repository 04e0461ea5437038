/- The program's own machine: its topmost method, to the next instruction, to another one. -/
import Derived.Test.YtbalicnnlfennaaGreatCG24
import Derived.WalkLawsBesides
namespace Go.Proofs.YtbalicnnlfennaaGreat
open Go.RowKit

section
variable {K : McP} {n : Nat} {s : St} {fs : List Cal} {f : Cal} {m : MLay} {ks : List KC} {k : KC} {w : World}
theorem McS.cells (h : McS K n s m w) : ∀ W, Fr No w W → W.cell? ⟨K.mb, 0, none⟩ = some (.pointer (some ⟨K.l, 0, none⟩)) ∧ W.cell? ⟨K.mb, 1, none⟩ = some (.bool K.look) ∧ W.cell? ⟨K.mb, 2, none⟩ = some (.int .i64 s.status) ∧ W.cell? ⟨K.mb, 3, none⟩ = some m.vc ∧
  W.cell? ⟨K.mb, 4, none⟩ = some m.vh ∧ W.cell? ⟨K.mb, 5, none⟩ = some m.vo ∧ W.cell? ⟨K.mb, 6, none⟩ = some (.int .i64 s.back.kind) ∧ W.cell? ⟨K.mb, 7, none⟩ = some (.int .i64 s.back.n) ∧ (∀ i, W.frozen? ⟨K.mb, i, none⟩ = false) ∧ K.mb < W.heap.size := fun W hW => by
 have hb := h.box.keep hW
 exact ⟨hb.cell 0, hb.cell 1, hb.cell 2, hb.cell 3, hb.cell 4, hb.cell 5, hb.cell 6, hb.cell 7, fun i => hb.frozen i, hb.lt⟩
theorem McT.crow (h : McT K n s fs f m ks k w) : ∃ g c, m.vc = .slice (some ⟨g, 0, none⟩) (fs.length + 1) c ∧ fs.length + 1 ≤ c ∧ c ≤ maxLen ∧ ∀ W, Fr No w W → W.cell? ⟨g, fs.length, none⟩ = some (.pointer (some ⟨k.c, 0, none⟩)) ∧ g < W.heap.size := by
 have hr := h.st.crow
 have hl := h.st.cels.length
 rw [h.fr, h.kc] at hr hl
 have el : (fs ++ [f]).length = fs.length + 1 := by simp
 have ek : ks.length = fs.length := by simpa using hl
 rw [el] at hr
 obtain ⟨g, c, cur, hv, h1, h2, hb, h3, h4, hq⟩ := hr.at_ (by omega)
 refine ⟨g, c, hv, h1, h2, fun W hW => ?_⟩
 have hc := hr.cell hv (j := fs.length) (by omega)
 have he : ((ks ++ [k]).flatMap (calL K).C)[fs.length]? = some (.pointer (some ⟨k.c, 0, none⟩)) := by
  have := flatW_get (calL K).len (ks ++ [k]) ks.length (by simp) 0 (show 0 < (calL K).sz from Nat.one_pos)
  simp only [Nat.add_zero, List.getElem_concat_length] at this
  have e1 : (calL K).sz = 1 := rfl
  rw [e1, Nat.mul_one, ek] at this
  rw [this]
  rfl
 rw [he] at hc
 exact ⟨hW.keep0 hc, (hb.keep hW).lt⟩
theorem McT.ccells (h : McT K n s fs f m ks k w) : ∀ W, Fr No w W → W.cell? ⟨k.c, 0, none⟩ = some (.int .i64 f.of_.of_.keeper) ∧ W.cell? ⟨k.c, 1, none⟩ = some (.string f.of_.of_.name) ∧ W.cell? ⟨k.c, 2, none⟩ = some (.int .i64 f.of_.at_) ∧
  W.cell? ⟨k.c, 5, none⟩ = some (.int .i64 (mthOf K.p f.of_).ret.kind) ∧ W.cell? ⟨k.c, 6, none⟩ = some (.string (mthOf K.p f.of_).ret.name) ∧ W.cell? ⟨k.c, 9, none⟩ = some k.vc ∧ W.cell? ⟨k.c, 11, none⟩ = some (.int .i64 f.pc) ∧
  W.cell? ⟨k.c, 12, none⟩ = some k.vl ∧ W.cell? ⟨k.c, 13, none⟩ = some k.vs ∧ W.cell? ⟨k.c, 14, none⟩ = some (.int .i64 (mthOf K.p f.of_).stack) ∧ (∀ i, W.frozen? ⟨k.c, i, none⟩ = false) ∧ k.c < W.heap.size := fun W hW => by
 have hb := h.box.keep hW
 exact ⟨hb.cell 0, hb.cell 1, hb.cell 2, hb.cell 5, hb.cell 6, hb.cell 9, hb.cell 11, hb.cell 12, hb.cell 13, hb.cell 14, fun i => hb.frozen i, hb.lt⟩
theorem McT.code (h : McT K n s fs f m ks k w) : ∃ A c, k.vc = .slice A (mthOf K.p f.of_).code.length c ∧ (mthOf K.p f.of_).code.length ≤ maxLen := by
 obtain ⟨A, c, h1, _, h2⟩ := h.cal.2.2.2.1.form
 exact ⟨A, c, h1, h2⟩
end

set_option maxRecDepth 100000 in
set_option maxHeartbeats 2000000 in
theorem top_ok (K : McP) (n : Nat) (s : St) (fs : List Cal) (f : Cal) (m : MLay) (ks : List KC) (k : KC) (w : World) (h : McT K n s fs f m ks k w) :
  Calls Tryz.prog 62 #[.pointer (some ⟨K.mb, 0, none⟩)] w (Gives (.pointer (some ⟨k.c, 0, none⟩)) w) := by
 obtain ⟨g, c, hvc, hc1, hc2, KR⟩ := h.crow
 have KC := h.st.cells
 rw [hvc] at KC
 unfold maxLen at hc2
 have hsub : IntKind.i64.wrap (fs.length : Int) = (fs.length : Int) := by rw [IntWalk.i64_in _ (by omega)]
 clear h hvc
 go_enter Tryz.func62, Tryz.ntmps62
 go_wp2_with fail
 (refine wp_region_fr (X := No) (by kernel_rfl) (by kernel_rfl) ?_)
 (repeat (first | (go_big_quiet_skip; (try simp only [Act.put, List.setIfInBounds_toArray, List.set_cons_zero, List.set_cons_succ])) | (go_big_quiet_want; (apply Exists.intro; refine ⟨fun W hW => ?_, ?_⟩); (focus (go_simp; (try simp only [↓IntWalk.iteOmega]); (try simp only [reduceIte]); first | done | exact rfl | exact ⟨trivial, rfl⟩ | exact ⟨rfl, rfl⟩ | fail)); go_big_quiet_on; (try simp only [Act.put, List.setIfInBounds_toArray, List.set_cons_zero, List.set_cons_succ])))); refine wpQuiet_nil ?_
 intro w1 hf1
 go_wp2
 go_ret
 exact ⟨rfl, hf1⟩

set_option maxRecDepth 100000 in
set_option maxHeartbeats 2000000 in
theorem ckeeper_ok (K : McP) (n : Nat) (s : St) (fs : List Cal) (f : Cal) (m : MLay) (ks : List KC) (k : KC) (w : World) (h : McT K n s fs f m ks k w) :
  Calls Tryz.prog 87 #[.pointer (some ⟨k.c, 0, none⟩)] w (Gives (.int .i64 f.of_.of_.keeper) w) := by
 obtain ⟨e0, _, _, _, _, _, _, _, _, _, _, el⟩ := h.ccells w (Fr.refl _ _)
 clear h
 go_enter Tryz.func87, Tryz.ntmps87
 go_wp2
 go_ret
 exact ⟨rfl, frc⟩

set_option maxRecDepth 100000 in
set_option maxHeartbeats 2000000 in
theorem jump_ok (K : McP) (E : McE K) (n : Nat) (s : St) (fs : List Cal) (f : Cal) (m : MLay) (ks : List KC) (k : KC) (w : World) (h : McT K n s fs f m ks k w) (to : Int) :
  Calls Tryz.prog 89 #[.pointer (some ⟨K.mb, 0, none⟩), .int .i64 to] w (OpPost K n (jumpM K.p s fs f to) m w) := by
 have HT := fun W (hW : Fr No w W) => top_ok K n s fs f m ks k W (h.keep E hW)
 obtain ⟨A, c, hvc, hcl⟩ := h.code
 have hE := fun W (hW : Fr No w W) => (h.keep E hW).ends 10 (by decide) (Fr.refl No W)
 have hS := fun W (hW : Fr No w W) => ((h.keep E hW).setPc E to).goes
 have KK := h.ccells
 rw [hvc] at KK
 unfold maxLen at hcl
 unfold jumpM
 generalize (mthOf K.p f.of_).code.length = len at *
 clear h hvc
 by_cases hl : (len : Int) ≤ to
 ·rw [if_pos hl]
  clear hS
  go_enter Tryz.func89, Tryz.ntmps89
  go_wp2_with (go_at_call 62; refine (HT _ frc).mono ?_; rintro e w1 ⟨rfl, hf1⟩; obtain ⟨_, _, _, _, _, e9, _, _, _, _, _, el⟩ := KK w1 hf1)
  go_ret
  exact ⟨rfl, (hE _ hf1).from hf1⟩
 ·rw [if_neg hl]
  clear hE
  go_enter Tryz.func89, Tryz.ntmps89
  go_wp2_with (go_at_call 62; refine (HT _ frc).mono ?_; rintro e w1 ⟨rfl, hf1⟩; obtain ⟨_, _, _, _, _, e9, e11, _, _, _, ef, el⟩ := KK w1 hf1)
  go_ret
  exact ⟨rfl, (hS _ hf1).from hf1⟩

set_option maxRecDepth 100000 in
set_option maxHeartbeats 2000000 in
theorem next_ok (K : McP) (E : McE K) (n : Nat) (s : St) (fs : List Cal) (f : Cal) (m : MLay) (ks : List KC) (k : KC) (w : World) (h : McT K n s fs f m ks k w) (h0 : 0 ≤ f.pc) (h1 : f.pc < 1000) :
  Calls Tryz.prog 83 #[.pointer (some ⟨K.mb, 0, none⟩)] w (OpPost K n (nextM K.p s fs f) m w) := by
 have HT := fun W (hW : Fr No w W) => top_ok K n s fs f m ks k W (h.keep E hW)
 have HJ := fun W (hW : Fr No w W) => jump_ok K E n s fs f m ks k W (h.keep E hW) (f.pc + 1)
 have KK := h.ccells
 have hadd : IntKind.i64.wrap (f.pc + 1) = f.pc + 1 := IntWalk.i64_in _ (by omega)
 unfold nextM
 generalize jumpM K.p s fs f (f.pc + 1) = s' at *
 clear h
 go_enter Tryz.func83, Tryz.ntmps83
 go_wp2_with (first
  | (go_at_call 62; refine (HT _ frc).mono ?_; rintro e w1 ⟨rfl, hf1⟩; obtain ⟨_, _, _, _, _, _, e11, _, _, _, ef, el⟩ := KK w1 hf1)
  | (go_at_call 89; refine (HJ _ hf1).mono ?_; rintro e w2 ⟨rfl, hO⟩))
 go_ret
 exact ⟨rfl, hO.from hf1⟩

def PushPost (K : McP) (n : Nat) (s : St) (fs : List Cal) (f : Cal) (m : MLay) (c : Nat) (v : Val) (w : World) (e : Ending) (w' : World) : Prop :=
 if (mthOf K.p f.of_).stack ≤ f.stack.length then e = .returned (.bool false) ∧ Fr No w w' else e = .returned (.bool true) ∧ McOk K n c s fs ⟨f.of_, f.pc, f.locals, f.stack ++ [v]⟩ m w w'

set_option maxRecDepth 100000 in
set_option maxHeartbeats 4000000 in
theorem push_ok (K : McP) (E : McE K) (n : Nat) (s : St) (fs : List Cal) (f : Cal) (m : MLay) (ks : List KC) (k : KC) (w : World) (h : McT K n s fs f m ks k w) (hst : f.stack.length ≤ 100) (v : Val) :
  Calls Tryz.prog 119 #[.pointer (some ⟨k.c, 13, none⟩), .agg #[.int .i64 v.kind, .int .i64 v.n]] w (PushPost K n s fs f m k.c v w) := by
 obtain ⟨wA, hwA⟩ : ∃ wA, wA = (w.alloc (.cells #[.int .i64 v.kind, .int .i64 v.n] 40)) := ⟨_, rfl⟩
 have hfA : Fr No w wA := hwA ▸ frc
 have B0 := (hwA ▸ bxc : Bx wA w.heap.size 40 #[.int .i64 v.kind, .int .i64 v.n])
 have hA := h.keep E hfA
 obtain ⟨A, c, hvs, hc1, hc2⟩ := RowV.form hA.cal.2.2.1
 unfold maxLen at hc2
 have KK := hA.ccells
 rw [hvs] at KK
 have K0 := B0.r2
 unfold PushPost
 have hdec : Hid (∀ x : Mth, x = mthOf K.p f.of_ → x.stack = (mthOf K.p f.of_).stack) := fun _ h => by rw [h]
 generalize hmost : (mthOf K.p f.of_).stack = most at *
 by_cases hp : most ≤ (f.stack.length : Int)
 ·simp only [if_pos hp]
  clear h hA
  go_enter Tryz.func119, Tryz.ntmps119
  go_wp2_with fail
  rw [← hwA]
  replace hwA := Lib.hid hwA
  (refine wp_region_fr (X := No) (by kernel_rfl) (by kernel_rfl) ?_)
  (repeat (first | (go_big_quiet_skip; (try simp only [Act.put, List.setIfInBounds_toArray, List.set_cons_zero, List.set_cons_succ])) | (go_big_quiet_want; (apply Exists.intro; refine ⟨fun W hW => ?_, ?_⟩); (focus (go_simp; (try simp only [↓IntWalk.iteOmega]); (try simp only [reduceIte]); first | done | exact rfl | exact ⟨trivial, rfl⟩ | exact ⟨rfl, rfl⟩ | fail)); go_big_quiet_on; (try simp only [Act.put, List.setIfInBounds_toArray, List.set_cons_zero, List.set_cons_succ])))); refine wpQuiet_nil ?_
  intro w1 hf1
  clear KK K0
  go_wp2_with fail
  go_ret
  exact ⟨rfl, hfA.trans0 hf1⟩
 ·simp only [if_neg hp]
  obtain ⟨i0, hi, hz0, hz1, hz2⟩ := info_parts info_val
  replace hi := Lib.hid hi
  replace hz0 := Lib.hid hz0
  replace hz1 := Lib.hid hz1
  replace hz2 := Lib.hid hz2
  replace h := Lib.hid h
  replace hA := Lib.hid hA
  replace hvs := Lib.hid hvs
  go_enter Tryz.func119, Tryz.ntmps119
  go_wp2_with fail
  rw [← hwA]
  replace hwA := Lib.hid hwA
  (refine wp_region_fr (X := No) (by kernel_rfl) (by kernel_rfl) ?_)
  (repeat (first | (go_big_quiet_skip; (try simp only [Act.put, List.setIfInBounds_toArray, List.set_cons_zero, List.set_cons_succ])) | (go_big_quiet_want; (apply Exists.intro; refine ⟨fun W hW => ?_, ?_⟩); (focus (go_simp; (try simp only [↓IntWalk.iteOmega]); (try simp only [reduceIte]); first | done | exact rfl | exact ⟨trivial, rfl⟩ | exact ⟨rfl, rfl⟩ | fail)); go_big_quiet_on; (try simp only [Act.put, List.setIfInBounds_toArray, List.set_cons_zero, List.set_cons_succ])))); refine wpQuiet_nil ?_
  intro w1 hf1
  have hA1 := hA.out.keep E hf1
  have KK1 := hA1.ccells
  rw [hvs.out, hmost] at KK1
  have K1 := (B0.keep hf1).r2
  replace hA1 := Lib.hid hA1
  clear KK K0
  go_wp2_with fail
  refine wp_region_monR 7 22 [mE (mV (.pointer (some ⟨k.c, 13, none⟩))), mV (.pointer (some ⟨k.c, 13, none⟩)), mV (.pointer (some ⟨k.c, 13, none⟩)), mV (.pointer (some ⟨k.c, 13, none⟩)), mV (.slice A f.stack.length c), mV (.agg #[.int .i64 v.kind, .int .i64 v.n]), mS 40 (#[.int .i64 v.kind, .int .i64 v.n]) 1 w1.heap.size] (by kernel_rfl) (by kernel_rfl) (by simp) ?_ ?_
  ·refine hopC ?_ <| hopC ?_ <| hopC ?_ <| hopC ?_ <| hopC ?_ <| hopC ?_ <| hopC ?_ <| hopZ
   all_goals (intro a' W hW hoff hdep; have hbs := hW.size; have H0 := hoff 0 rfl; have H3 := hoff 3 rfl)
   ·exact yE rfl ⟨.pointer (some ⟨k.c, 13, none⟩), fun W => by simp [execOp, Act.eval, H0, go_sem], rfl, rfl⟩
   ·refine nE rfl ?_; simp [execOp, Act.eval, H0, go_sem, givesUpon]; exact fr1 rfl
   ·have D16 : _ = _ := hdep 1 16 rfl; refine nE rfl ?_; simp [execOp, Act.eval, D16, go_sem, givesUpon]; exact fr1 rfl
   ·have D17 : _ = _ := hdep 2 17 rfl; refine nE rfl ?_; simp [execOp, Act.eval, D17, go_sem, givesUpon]; exact fr1 rfl
   ·have D18 : _ = _ := hdep 3 18 rfl; refine nE rfl ?_; clear hoff hdep; simp [execOp, Act.eval, go_sem, givesUpon, *]; exact fr1 rfl
   ·refine nE rfl ?_; clear hoff hdep; simp [execOp, Act.eval, go_sem, givesUpon, *]; exact fr1 rfl
   ·have D20 : _ = _ := hdep 5 20 rfl; simp at D20; refine nE rfl ?_; simp [execOp, Act.eval, D20, go_sem, givesUpon]; exact ⟨(Fr.refl _ _).alloc _, ⟨_, rfl, Bx.new_ rfl, hbs⟩, Nat.le_refl _⟩
  intro vs WR hWR hv hne
  obtain ⟨b6, e6, hb6, hl6⟩ := hv 6 (by omega)
  simp only [List.drop_succ_cons, List.drop_zero, putsR_EV, putsR_S, putsR_V, putsR_0, Nat.zero_add, Nat.reduceAdd, e6]
  simp only [Act.put, List.setIfInBounds_toArray, List.set_cons_zero, List.set_cons_succ]
  clear e6 hv
  have hR := hA1.out.keep E hWR
  have hrowR : RowV WR tVal 2 (.slice A f.stack.length c) f.stack.length (f.stack.flatMap valCells) := by
   have := hR.cal.2.2.1
   rw [hvs.out] at this
   exact this
  have hsrc := Lib.hid (Bx.news (cs := valCells v) hb6)
  have hboxR := hR.box
  have hne : ∀ q, rowBlk (.slice A f.stack.length c) = some q → q ≠ k.c := by
   have := (KC.nodup_iff.1 hR.nodup).2.1
   rw [hvs.out] at this
   exact this
  have hfin := fun {g' cap' : Nat} {w2 : World} (hrow : RowV w2 tVal 2 (.slice (some ⟨g', 0, none⟩) (f.stack.length + 1) cap') (f.stack.length + 1) (f.stack.flatMap valCells ++ valCells v)) (hgf : Fr (fun b => rowBlk (.slice A f.stack.length c) = some b) WR w2) (hor : rowBlk (.slice A f.stack.length c) = some g' ∨ g' = WR.heap.size) (hcap : f.stack.length + 1 ≤ cap') =>
   hR.push E hrow (by rw [hvs.out]; exact hgf) (by rw [hvs.out]; exact hor) hcap
  clear KK1 K1
  replace hR := Lib.hid hR
  go_wp2_with (at_builtin; refine wpList_append_row _ rfl _ _ 102 rfl 40 i0 (.agg #[.int .i64 0, .int .i64 0]) 2 16 Tryz.underlying102 hi.out hz0.out hz1.out hz2.out rfl (by decide) (.slice A f.stack.length c) f.stack.length (f.stack.flatMap valCells) rfl hrowR ⟨b6, 0, none⟩ 1 1 (valCells v) rfl rfl hsrc.out (by simp [valCells, Value.oneCell']) (by decide) (by unfold maxLen; omega) (by omega) ?_; intro g' cap' w2 hrow hcap hgf hor; have hbx := hboxR.keepX hgf (fun e => hne _ e rfl); have z13 : w2.cell? ⟨k.c, 13, none⟩ = some k.vs := hbx.cell 13; have zf := (fun i => hbx.frozen i); have zl := hbx.lt)
  go_ret
  exact ⟨rfl, (((hfin hrow hgf hor hcap).from hWR).from hf1).from hfA⟩
end Go.Proofs.YtbalicnnlfennaaGreat

namespace Go.Proofs.YtbalicnnlfennaaGreat
open Go.RowKit

def PopsPost (K : McP) (n : Nat) (s : St) (fs : List Cal) (f : Cal) (m : MLay) (c : Nat) (cnt : Nat) (w : World) (e : Ending) (w' : World) : Prop :=
 match popsV f.stack cnt with
 | none => e = .returned (.tuple #[.slice none 0 0, .bool false]) ∧ Fr No w w'
 | some (xs, r) => ∃ v, e = .returned (.tuple #[v, .bool true]) ∧ ValRow w' v xs ∧ (∀ q, rowBlk v = some q → w.heap.size ≤ q) ∧ McOk K n c s fs (f.left r) m w w'

set_option maxRecDepth 100000 in
set_option maxHeartbeats 4000000 in
theorem popAll_ok (K : McP) (E : McE K) (n : Nat) (s : St) (fs : List Cal) (f : Cal) (m : MLay) (ks : List KC) (k : KC) (w : World) (h : McT K n s fs f m ks k w) (hst : f.stack.length ≤ 100) (cnt : Nat) (hc0 : 0 < cnt) (hcn : cnt ≤ 100) :
  Calls Tryz.prog 84 #[.pointer (some ⟨k.c, 13, none⟩), .int .i64 (cnt : Int)] w (PopsPost K n s fs f m k.c cnt w) := by
 have hrow := h.cal.2.2.1
 obtain ⟨A, c, hvs, hc1, hc2⟩ := RowV.form hrow
 unfold maxLen at hc2
 have KK := h.ccells
 rw [hvs] at KK
 have hsub : IntKind.i64.wrap ((f.stack.length : Int) - (cnt : Int)) = (f.stack.length : Int) - cnt := IntWalk.i64_in _ (by omega)
 unfold PopsPost popsV
 by_cases hp : cnt ≤ f.stack.length
 ·simp only [if_pos hp]
  rw [hvs] at hrow
  obtain ⟨g, c', cur, he, _, _, hb, _, _, hq⟩ := RowV.at_ hrow (by omega)
  cases he
  have hsl := Sl.drop (ValRow.sl (X := No) hrow (fun _ _ h => h)) (k := f.stack.length - cnt) (by omega)
  simp only [Nat.zero_add] at hsl
  obtain ⟨r, hr⟩ : ∃ r, r = f.stack.length - cnt := ⟨_, rfl⟩
  rw [← hr] at hsl ⊢
  have hrc : f.stack.length - r = cnt := by omega
  rw [hrc] at hsl
  have hdl : (f.stack.drop r).length = cnt := by rw [List.length_drop]; omega
  have HC := fun W (hW : Fr No w W) => cloneV_ok No (.slice (some ⟨g, r * 2, none⟩) cnt (c - r)) (f.stack.drop r) W (hsl.keep hW (fun _ h => h) (fun _ _ _ h => h)) (by rw [hdl]; omega)
  have hcut := fun W (hW : Fr No w W) => (h.keep E hW).cut E hvs (r := r) (by omega)
  have hcr : (f.stack.length : Int) - cnt = (r : Int) := by omega
  rw [hcr] at hsub
  have hcr2 : ((f.stack.length : Int) - (cnt : Int)) = (r : Int) := hcr
  have h0 : ¬ ((r : Int) < 0) := by omega
  have hrl : Hid (r ≤ f.stack.length ∧ f.stack.length - r = cnt ∧ f.stack.length ≤ c) := Lib.hid ⟨by omega, hrc, hc1⟩
  have hcut' : ∀ W, Fr No w W → McOk K n k.c s fs (f.left (f.stack.take r)) m W (W.setCell ⟨k.c, 13, none⟩ (.slice (some ⟨g, 0, none⟩) r c)) := hcut
  clear hr hrc hdl hcr2 hcut
  generalize f.stack.length = sl at *
  clear h hrow hsl hb
  go_enter Tryz.func84, Tryz.ntmps84
  obtain ⟨_, _, _, _, _, _, _, _, e13, _, ef, el⟩ := KK w (Fr.refl _ _)
  go_wp2_with (go_at_call 46; rw [hrl.out.2.1]; refine (HC _ frc).mono ?_; rintro e w1 ⟨v, rfl, hv, hnew, hf1⟩; obtain ⟨_, _, _, _, _, _, _, _, x13, _, xf, xl⟩ := KK w1 hf1)
  refine bodyPost_ret (v := .tuple #[v, .bool true]) (by simp [results, Tryz.results84, go_sem]) rfl ?_
  exact ⟨v, rfl, hv.keepB (Fr.one _ _ _ _) (fun q hq e => by have := (hnew q (mem_rowB.1 hq)).1; omega), fun q hq => (hnew q hq).1, (hcut' w1 hf1).from hf1⟩
 ·simp only [if_neg hp]
  have hcr : ((f.stack.length : Int) - (cnt : Int)) < 0 := by omega
  obtain ⟨_, _, _, _, _, _, _, _, e13, _, ef, el⟩ := KK w (Fr.refl _ _)
  clear h hrow
  go_enter Tryz.func84, Tryz.ntmps84
  go_wp2
  refine bodyPost_ret (v := .tuple #[.slice none 0 0, .bool false]) (by simp [results, Tryz.results84, go_sem]) rfl ?_
  exact ⟨rfl, Fr.refl _ _⟩

theorem popV_cases (st : List Val) : (st = [] ∧ popV st = none ∧ popsV st 1 = none) ∨ ∃ ys x, st = ys ++ [x] ∧ popV st = some (x, ys) ∧ popsV st 1 = some ([x], ys) := by
 rcases List.eq_nil_or_concat st with rfl | ⟨ys, x, rfl⟩
 ·exact .inl ⟨rfl, rfl, rfl⟩
 ·refine .inr ⟨ys, x, by simp, ?_, ?_⟩
  ·simp [popV]
  ·simp [popsV]
theorem McOk.fr {K : McP} {n c : Nat} {s : St} {fs : List Cal} {f : Cal} {m : MLay} {w w' : World} (h : McOk K n c s fs f m w w') : Fr (K.own m) w w' := let ⟨_, _, _, _, _, _, h⟩ := h; h
theorem val_one {w w1 : World} {v : Value} {x : Val} (h : ValRow w1 v [x]) (hn : ∀ q, rowBlk v = some q → w.heap.size ≤ q) : ∃ g c, v = .slice (some ⟨g, 0, none⟩) 1 c ∧ 1 ≤ c ∧ w1.cell? ⟨g, 0, none⟩ = some (.int .i64 x.kind) ∧ w1.cell? ⟨g, 1, none⟩ = some (.int .i64 x.n) ∧ (∀ i, w1.frozen? ⟨g, i, none⟩ = false) ∧ g < w1.heap.size ∧ w.heap.size ≤ g := by
 obtain ⟨g, c, cur, rfl, h1, _, hb, _, _, hq⟩ := RowV.at_ h (by simp)
 have c0 := RowV.cell h rfl (j := 0) (by simp)
 have c1 := RowV.cell h rfl (j := 1) (by simp)
 exact ⟨g, c, rfl, h1, c0, c1, fun i => hb.frozen i, hb.lt, hn g hq⟩
def PopPost (K : McP) (n : Nat) (s : St) (fs : List Cal) (f : Cal) (m : MLay) (c : Nat) (w : World) (e : Ending) (w' : World) : Prop :=
 match popV f.stack with
 | none => e = .returned (.tuple #[.agg #[.int .i64 0, .int .i64 0], .bool false]) ∧ Fr No w w'
 | some (v, r) => e = .returned (.tuple #[.agg #[.int .i64 v.kind, .int .i64 v.n], .bool true]) ∧ McOk K n c s fs (f.left r) m w w'

set_option maxRecDepth 100000 in
set_option maxHeartbeats 4000000 in
theorem pop_ok (K : McP) (E : McE K) (n : Nat) (s : St) (fs : List Cal) (f : Cal) (m : MLay) (ks : List KC) (k : KC) (w : World) (h : McT K n s fs f m ks k w) (hst : f.stack.length ≤ 100) :
  Calls Tryz.prog 82 #[.pointer (some ⟨k.c, 13, none⟩)] w (PopPost K n s fs f m k.c w) := by
 have HP := fun W (hW : Fr No w W) => popAll_ok K E n s fs f m ks k W (h.keep E hW) hst 1 (by decide) (by decide)
 have hZ := fun b (hb : b ∈ mcB K m) => h.st.lt hb
 have h0 := h.st.anchor.size
 unfold PopPost
 unfold PopsPost at HP
 obtain ⟨wA, hwA⟩ : ∃ wA, wA = (w.alloc (.cells #[.int .i64 0, .int .i64 0] 40)) := ⟨_, rfl⟩
 have hfA : Fr No w wA := hwA ▸ frc
 have B0 := (hwA ▸ bxc : Bx wA w.heap.size 40 #[.int .i64 0, .int .i64 0])
 have hsA : w.heap.size < wA.heap.size := B0.lt
 have hno : ¬ K.own m w.heap.size := fun hx => by
  rcases hx with hx | hx
  ·have := E.bl_lt; omega
  ·have := hZ _ hx; omega
 rcases popV_cases f.stack with ⟨hs, h1, h2⟩ | ⟨ys, x, hs, h1, h2⟩
 ·rw [h1]
  rw [h2] at HP
  dsimp only at HP ⊢
  clear h hs h1 h2
  go_enter Tryz.func82, Tryz.ntmps82
  go_wp2_with (go_at_call 84; rw [← hwA]; refine (HP _ hfA).mono ?_; rintro e w1 ⟨rfl, hf1⟩; have B1 := B0.keep hf1; obtain ⟨x0, x1⟩ := B1.c2; have xf := (fun i => B1.frozen i); have xl := B1.lt)
  refine bodyPost_ret (v := .tuple #[.agg #[.int .i64 0, .int .i64 0], .bool false]) (by simp [results, Tryz.results82, go_sem, *]) rfl ?_
  exact ⟨rfl, (((hfA.trans0 hf1).setCell (p := ⟨w.heap.size, 0, none⟩) (Nat.le_refl _) _).setCell (p := ⟨w.heap.size, 1, none⟩) (Nat.le_refl _) _).alloc _⟩
 ·rw [h1]
  rw [h2] at HP
  dsimp only at HP ⊢
  clear h hs h1 h2
  go_enter Tryz.func82, Tryz.ntmps82
  go_wp2_with (go_at_call 84; rw [← hwA]; refine (HP _ hfA).mono ?_; rintro e w1 ⟨v, rfl, hv, hnew, hO⟩; obtain ⟨g, cg, rfl, hgc, t0, t1, tf, tl, hgn⟩ := val_one hv hnew; have B1 := B0.keepX (McOk.fr hO) hno; obtain ⟨x0, x1⟩ := B1.c2; have xf := (fun i => B1.frozen i); have xl := B1.lt; replace hO := Lib.hid hO; replace B1 := Lib.hid B1)
  refine bodyPost_ret (v := .tuple #[.agg #[.int .i64 x.kind, .int .i64 x.n], .bool true]) (by simp [results, Tryz.results82, go_sem, *]) rfl ?_
  exact ⟨rfl, hO.out.out E hfA ((Fr.one _ _ _ _).same (Fr.one _ _ _ _)) (fun b hb => by subst hb; exact ⟨Nat.le_refl _, hsA⟩) hZ h0⟩

set_option maxRecDepth 100000 in
set_option maxHeartbeats 4000000 in
theorem mput_ok (K : McP) (E : McE K) (n : Nat) (s : St) (fs : List Cal) (f : Cal) (m : MLay) (ks : List KC) (k : KC) (w : World) (h : McT K n s fs f m ks k w) (hst : f.stack.length ≤ 100) (h0 : 0 ≤ f.pc) (h1 : f.pc < 1000) (v : Val) :
  Calls Tryz.prog 81 #[.pointer (some ⟨K.mb, 0, none⟩), .agg #[.int .i64 v.kind, .int .i64 v.n]] w (OpPost K n (putM K.p s fs f v) m w) := by
 have HT := fun W (hW : Fr No w W) => top_ok K n s fs f m ks k W (h.keep E hW)
 have HP := fun W (hW : Fr No w W) => push_ok K E n s fs f m ks k W (h.keep E hW) hst v
 obtain ⟨wA, hwA⟩ : ∃ wA, wA = (w.alloc (.cells #[.int .i64 v.kind, .int .i64 v.n] 40)) := ⟨_, rfl⟩
 have hfA : Fr No w wA := hwA ▸ frc
 have B0 := (hwA ▸ bxc : Bx wA w.heap.size 40 #[.int .i64 v.kind, .int .i64 v.n])
 unfold putM
 unfold PushPost at HP
 by_cases hp : (mthOf K.p f.of_).stack ≤ f.stack.length
 ·rw [if_pos hp]
  simp only [if_pos hp] at HP
  have hE := fun W (hW : Fr No w W) => (h.keep E hW).ends 10 (by decide) (Fr.refl No W)
  clear h hp
  have K0 := B0.r2
  go_enter Tryz.func81, Tryz.ntmps81
  go_wp2_with fail
  rw [← hwA]
  replace hwA := Lib.hid hwA
  refine wp_region_monR 5 10 [mV (.pointer (some ⟨K.mb, 0, none⟩)), mV (.pointer (some ⟨k.c, 0, none⟩)), mV (.pointer (some ⟨k.c, 0, none⟩)), mV (.pointer (some ⟨k.c, 13, none⟩)), mV (.agg #[.int .i64 v.kind, .int .i64 v.n])] (by kernel_rfl) (by kernel_rfl) (by simp) ?_ ?_
  ·refine hopC ?_ <| hopC ?_ <| hopC ?_ <| hopC ?_ <| hopC ?_ <| hopZ
   all_goals (intro a' W hW hoff hdep; have hbs := hW.size; have H0 := hoff 0 rfl; have H3 := hoff 3 rfl; refine nE rfl ?_)
   ·simp [execOp, Act.eval, H0, go_sem, givesUpon]; exact fr1 rfl
   ·have D5 : _ = _ := hdep 0 5 rfl; simp [Act.eval, D5, go_sem, givesUpon]; exact (HT _ (hfA.trans0 hW)).mono fun e w' h => ⟨_, h.1, h.2, rfl⟩
   ·have D6 : _ = _ := hdep 1 6 rfl; simp [execOp, Act.eval, D6, go_sem, givesUpon]; exact fr1 rfl
   ·have D7 : _ = _ := hdep 2 7 rfl; simp [execOp, Act.eval, D7, go_sem, givesUpon]; exact fr1 rfl
   ·clear hoff hdep; simp [execOp, Act.eval, go_sem, givesUpon, *]; exact fr1 rfl
  intro vs WR hWR hv hne
  simp only [List.drop_succ_cons, List.drop_zero, putsR_V, putsR_0, Nat.zero_add, Nat.reduceAdd]
  simp only [Act.put, List.setIfInBounds_toArray, List.set_cons_zero, List.set_cons_succ]
  clear hv
  have hfR := hfA.trans0 hWR
  clear K0 HT
  go_wp2_with (go_at_call 119; refine (HP _ hfR).mono ?_; rintro e w2 ⟨rfl, hf2⟩)
  go_ret
  exact ⟨rfl, (hE _ (hfR.trans0 hf2)).from (hfR.trans0 hf2)⟩
 ·rw [if_neg hp]
  simp only [if_neg hp] at HP
  have HN := fun {m' : MLay} {ks' : List KC} {k' : KC} {W : World} (hT : McT K n ⟨s.status, fs ++ [⟨f.of_, f.pc, f.locals, f.stack ++ [v]⟩], s.heap, s.outs, s.back⟩ fs ⟨f.of_, f.pc, f.locals, f.stack ++ [v]⟩ m' ks' k' W) => next_ok K E n _ fs _ m' ks' k' W hT h0 h1
  clear h hp
  have K0 := B0.r2
  go_enter Tryz.func81, Tryz.ntmps81
  go_wp2_with fail
  rw [← hwA]
  replace hwA := Lib.hid hwA
  refine wp_region_monR 5 10 [mV (.pointer (some ⟨K.mb, 0, none⟩)), mV (.pointer (some ⟨k.c, 0, none⟩)), mV (.pointer (some ⟨k.c, 0, none⟩)), mV (.pointer (some ⟨k.c, 13, none⟩)), mV (.agg #[.int .i64 v.kind, .int .i64 v.n])] (by kernel_rfl) (by kernel_rfl) (by simp) ?_ ?_
  ·refine hopC ?_ <| hopC ?_ <| hopC ?_ <| hopC ?_ <| hopC ?_ <| hopZ
   all_goals (intro a' W hW hoff hdep; have hbs := hW.size; have H0 := hoff 0 rfl; have H3 := hoff 3 rfl; refine nE rfl ?_)
   ·simp [execOp, Act.eval, H0, go_sem, givesUpon]; exact fr1 rfl
   ·have D5 : _ = _ := hdep 0 5 rfl; simp [Act.eval, D5, go_sem, givesUpon]; exact (HT _ (hfA.trans0 hW)).mono fun e w' h => ⟨_, h.1, h.2, rfl⟩
   ·have D6 : _ = _ := hdep 1 6 rfl; simp [execOp, Act.eval, D6, go_sem, givesUpon]; exact fr1 rfl
   ·have D7 : _ = _ := hdep 2 7 rfl; simp [execOp, Act.eval, D7, go_sem, givesUpon]; exact fr1 rfl
   ·clear hoff hdep; simp [execOp, Act.eval, go_sem, givesUpon, *]; exact fr1 rfl
  intro vs WR hWR hv hne
  simp only [List.drop_succ_cons, List.drop_zero, putsR_V, putsR_0, Nat.zero_add, Nat.reduceAdd]
  simp only [Act.put, List.setIfInBounds_toArray, List.set_cons_zero, List.set_cons_succ]
  clear hv
  have hfR := hfA.trans0 hWR
  clear K0 HT
  go_wp2_with (first
   | (go_at_call 119; refine (HP _ hfR).mono ?_; rintro e w2 ⟨rfl, m2, ks2, k2, hT2, _, hB2, hf2⟩)
   | (go_at_call 83; refine (HN hT2).mono ?_; rintro e w3 ⟨rfl, hO⟩))
  go_ret
  exact ⟨rfl, (hO.then hB2 hf2).from hfR⟩
end Go.Proofs.YtbalicnnlfennaaGreat

namespace Go.Proofs.YtbalicnnlfennaaGreat
open Go.RowKit

set_option maxRecDepth 100000 in
set_option maxHeartbeats 2000000 in
theorem numVal_ok (a : Int) (w : World) : Calls Tryz.prog 38 #[.int .i64 a] w (Gives (.agg #[.int .i64 1, .int .i64 a]) w) := by
 go_enter Tryz.func38, Tryz.ntmps38
 go_wp2
 refine bodyPost_ret (v := .agg #[.int .i64 1, .int .i64 a]) (by simp [results, Tryz.results38, go_sem]) rfl ?_
 exact ⟨rfl, frc⟩
set_option maxRecDepth 100000 in
set_option maxHeartbeats 2000000 in
theorem nullVal_ok (w : World) : Calls Tryz.prog 77 #[] w (Gives (.agg #[.int .i64 3, .int .i64 0]) w) := by
 go_enter Tryz.func77, Tryz.ntmps77
 go_wp2
 refine bodyPost_ret (v := .agg #[.int .i64 3, .int .i64 0]) (by simp [results, Tryz.results77, go_sem]) rfl ?_
 exact ⟨rfl, frc⟩
abbrev insV (i : Ins) : Value := .agg #[.int .i64 i.op, .int .i64 i.a, .string i.name, .string i.member]

set_option maxRecDepth 100000 in
set_option maxHeartbeats 4000000 in
theorem doNum_ok (K : McP) (E : McE K) (n : Nat) (s : St) (fs : List Cal) (f : Cal) (m : MLay) (ks : List KC) (k : KC) (w : World) (h : McT K n s fs f m ks k w) (hst : f.stack.length ≤ 100) (h0 : 0 ≤ f.pc) (h1 : f.pc < 1000) (i : Ins) :
  Calls Tryz.prog 47 #[.pointer (some ⟨K.mb, 0, none⟩), insV i] w (OpPost K n (putM K.p s fs f ⟨1, i.a⟩) m w) := by
 have HP := fun W (hW : Fr No w W) => mput_ok K E n s fs f m ks k W (h.keep E hW) hst h0 h1 ⟨1, i.a⟩
 generalize putM K.p s fs f ⟨1, i.a⟩ = s' at *
 clear h
 go_enter Tryz.func47, Tryz.ntmps47
 go_wp2_with (first
  | (go_at_call 38; refine (numVal_ok _ _).mono ?_; rintro e w1 ⟨rfl, hf1⟩; have hf01 := Fr.trans0 (show Fr No w _ from frc) hf1)
  | (go_at_call 81; refine (HP _ hf01).mono ?_; rintro e w2 ⟨rfl, hO⟩))
 go_ret
 exact ⟨rfl, hO.from hf01⟩

theorem ValRow.at2 {w : World} {xs : List Val} {g n c : Nat} (h : ValRow w (.slice (some ⟨g, 0, none⟩) n c) xs) {j : Nat} (hj : j < xs.length) : n = xs.length ∧ n ≤ c ∧ c ≤ maxLen ∧ ∀ W, Fr No w W → W.cell? ⟨g, j * 2, none⟩ = some (.int .i64 xs[j].kind) ∧ W.cell? ⟨g, j * 2 + 1, none⟩ = some (.int .i64 xs[j].n) ∧ (∀ i, W.frozen? ⟨g, i, none⟩ = false) ∧ g < W.heap.size := by
 obtain ⟨g', c', cur, he, h1, h2, hb, _, _, _⟩ := RowV.at_ h (by omega)
 cases he
 refine ⟨rfl, h1, h2, fun W hW => ?_⟩
 have c0 := RowV.cell h rfl (j := j * 2) (by omega)
 have c1 := RowV.cell h rfl (j := j * 2 + 1) (by omega)
 have e0 := flatW_get valCells_len xs j hj 0 (by decide)
 have e1 := flatW_get valCells_len xs j hj 1 (by decide)
 rw [Nat.add_zero] at e0
 rw [e0] at c0
 rw [e1] at c1
 exact ⟨hW.keep0 c0, hW.keep0 c1, fun i => (hb.keep hW).frozen i, (hb.keep hW).lt⟩
theorem ValRow.pos {w : World} {v : Value} {xs : List Val} (h : ValRow w v xs) (h0 : 0 < xs.length) : ∃ g c, v = .slice (some ⟨g, 0, none⟩) xs.length c := by
 obtain ⟨g, c, _, he, _⟩ := RowV.at_ h h0
 exact ⟨g, c, he⟩

set_option maxRecDepth 100000 in
set_option maxHeartbeats 4000000 in
theorem doTake_ok (K : McP) (E : McE K) (n : Nat) (s : St) (fs : List Cal) (f : Cal) (m : MLay) (ks : List KC) (k : KC) (w : World) (h : McT K n s fs f m ks k w) (hst : f.stack.length ≤ 100) (h0 : 0 ≤ f.pc) (h1 : f.pc < 1000) (i : Ins) (a : Nat) (hia : i.a = a) (ha : a < f.locals.length) (hal : a < 100) :
  Calls Tryz.prog 48 #[.pointer (some ⟨K.mb, 0, none⟩), insV i] w (OpPost K n (if f.locals[a].kind = 0 then s.ends 10 else putM K.p s fs f f.locals[a]) m w) := by
 obtain ⟨op, ia, nm, mbr⟩ := i
 dsimp only at hia
 subst hia
 have HT := fun W (hW : Fr No w W) => top_ok K n s fs f m ks k W (h.keep E hW)
 have HP := fun W (hW : Fr No w W) => mput_ok K E n s fs f m ks k W (h.keep E hW) hst h0 h1 f.locals[a]
 have hE := fun W (hW : Fr No w W) => (h.keep E hW).ends 10 (by decide) (Fr.refl No W)
 obtain ⟨g, c, hvl⟩ := ValRow.pos h.cal.2.1 (by omega)
 have hvr := h.cal.2.1
 rw [hvl] at hvr
 obtain ⟨_, hc1, hc2, KV⟩ := hvr.at2 ha
 unfold maxLen at hc2
 have KK := h.ccells
 rw [hvl] at KK
 obtain ⟨wA, hwA⟩ : ∃ wA, wA = (w.alloc (.cells #[.int .i64 op, .int .i64 a, .string nm, .string mbr] 27)) := ⟨_, rfl⟩
 have hfA : Fr No w wA := hwA ▸ frc
 have B0 := (hwA ▸ bxc : Bx wA w.heap.size 27 #[.int .i64 op, .int .i64 a, .string nm, .string mbr])
 have K0 := B0.r4
 have KKA := fun W (hW : Fr No wA W) => KK W (hfA.trans0 hW)
 have KVA := fun W (hW : Fr No wA W) => KV W (hfA.trans0 hW)
 generalize f.locals[a] = x at *
 generalize f.locals.length = ll at *
 clear h hvr hvl KK KV
 obtain ⟨xk, xn⟩ := x
 dsimp only at *
 by_cases hk : xk = 0
 ·subst hk
  rw [if_pos rfl]
  go_enter Tryz.func48, Tryz.ntmps48
  go_wp2_with fail
  rw [← hwA]
  replace hwA := Lib.hid hwA
  refine wp_region_monR 10 15 [mV (.pointer (some ⟨K.mb, 0, none⟩)), mV (.pointer (some ⟨k.c, 0, none⟩)), mV (.pointer (some ⟨k.c, 0, none⟩)), mV (.pointer (some ⟨k.c, 12, none⟩)), mV (.slice (some ⟨g, 0, none⟩) ll c), mV (.pointer (some ⟨w.heap.size, 1, none⟩)), mV (.int .i64 a), mV (.pointer (some ⟨g, a * 2, none⟩)), mV (.agg #[.int .i64 0, .int .i64 xn]), mB 40 (#[.int .i64 0, .int .i64 0]) wA.heap.size] (by kernel_rfl) (by kernel_rfl) (by simp) ?_ ?_
  ·refine hopC ?_ <| hopC ?_ <| hopC ?_ <| hopC ?_ <| hopC ?_ <| hopC ?_ <| hopC ?_ <| hopC ?_ <| hopC ?_ <| hopC ?_ <| hopZ
   all_goals (intro a' W hW hoff hdep; have hbs := hW.size; have H0 := hoff 0 rfl; have H3 := hoff 3 rfl; refine nE rfl ?_)
   ·simp [execOp, Act.eval, H0, go_sem, givesUpon]; exact fr1 rfl
   ·have D6 : _ = _ := hdep 0 6 rfl; simp [Act.eval, D6, go_sem, givesUpon]; exact (HT _ (hfA.trans0 hW)).mono fun e w' h => ⟨_, h.1, h.2, rfl⟩
   ·have D7 : _ = _ := hdep 1 7 rfl; simp [execOp, Act.eval, D7, go_sem, givesUpon]; exact fr1 rfl
   ·have D8 : _ = _ := hdep 2 8 rfl; simp [execOp, Act.eval, D8, go_sem, givesUpon]; exact fr1 rfl
   ·have D9 : _ = _ := hdep 3 9 rfl; clear hoff hdep; simp [execOp, Act.eval, go_sem, givesUpon, *]; exact fr1 rfl
   ·simp [execOp, Act.eval, H3, go_sem, givesUpon]; exact fr1 rfl
   ·have D11 : _ = _ := hdep 5 11 rfl; clear hoff hdep; simp [execOp, Act.eval, go_sem, givesUpon, *]; exact fr1 rfl
   ·have D10 : _ = _ := hdep 4 10 rfl; have D12 : _ = _ := hdep 6 12 rfl; clear hoff hdep; simp [execOp, Act.eval, go_sem, givesUpon, *]; exact fr1 rfl
   ·have D13 : _ = _ := hdep 7 13 rfl; clear hoff hdep; simp [execOp, Act.eval, go_sem, givesUpon, *]; exact fr1 rfl
   ·simp [execOp, go_sem, givesUpon]; exact ⟨(Fr.refl _ _).alloc _, ⟨_, rfl, Bx.new_ rfl, hbs⟩, Nat.le_refl _⟩
  intro vs WR hWR hv hne
  obtain ⟨b9, e9, hb9, hl9⟩ := hv 9 (by omega)
  simp only [List.drop_succ_cons, List.drop_zero, putsR_B, putsR_V, putsR_0, Nat.zero_add, Nat.reduceAdd, e9]
  simp only [Act.put, List.setIfInBounds_toArray, List.set_cons_zero, List.set_cons_succ]
  clear e9 hv
  have hfR := hfA.trans0 hWR
  obtain ⟨p0, p1⟩ := hb9.c2
  have pf := fun i => hb9.frozen i
  have pl := hb9.lt
  have hwl := hfA.size
  clear K0 KKA KVA HT hne hb9
  have hfE : ∀ u v, Fr No w ((WR.setCell ⟨b9, 0, none⟩ u).setCell ⟨b9, 1, none⟩ v) := fun u v => (hfR.setCell (p := ⟨b9, 0, none⟩) (by dsimp only; omega) u).setCell (p := ⟨b9, 1, none⟩) (by dsimp only; omega) v
  go_wp2_with fail
  go_ret
  exact ⟨rfl, (hE _ (hfE _ _)).from (hfE _ _)⟩
 ·rw [if_neg hk]
  go_enter Tryz.func48, Tryz.ntmps48
  go_wp2_with fail
  rw [← hwA]
  replace hwA := Lib.hid hwA
  refine wp_region_monR 10 15 [mV (.pointer (some ⟨K.mb, 0, none⟩)), mV (.pointer (some ⟨k.c, 0, none⟩)), mV (.pointer (some ⟨k.c, 0, none⟩)), mV (.pointer (some ⟨k.c, 12, none⟩)), mV (.slice (some ⟨g, 0, none⟩) ll c), mV (.pointer (some ⟨w.heap.size, 1, none⟩)), mV (.int .i64 a), mV (.pointer (some ⟨g, a * 2, none⟩)), mV (.agg #[.int .i64 xk, .int .i64 xn]), mB 40 (#[.int .i64 0, .int .i64 0]) wA.heap.size] (by kernel_rfl) (by kernel_rfl) (by simp) ?_ ?_
  ·refine hopC ?_ <| hopC ?_ <| hopC ?_ <| hopC ?_ <| hopC ?_ <| hopC ?_ <| hopC ?_ <| hopC ?_ <| hopC ?_ <| hopC ?_ <| hopZ
   all_goals (intro a' W hW hoff hdep; have hbs := hW.size; have H0 := hoff 0 rfl; have H3 := hoff 3 rfl; refine nE rfl ?_)
   ·simp [execOp, Act.eval, H0, go_sem, givesUpon]; exact fr1 rfl
   ·have D6 : _ = _ := hdep 0 6 rfl; simp [Act.eval, D6, go_sem, givesUpon]; exact (HT _ (hfA.trans0 hW)).mono fun e w' h => ⟨_, h.1, h.2, rfl⟩
   ·have D7 : _ = _ := hdep 1 7 rfl; simp [execOp, Act.eval, D7, go_sem, givesUpon]; exact fr1 rfl
   ·have D8 : _ = _ := hdep 2 8 rfl; simp [execOp, Act.eval, D8, go_sem, givesUpon]; exact fr1 rfl
   ·have D9 : _ = _ := hdep 3 9 rfl; clear hoff hdep; simp [execOp, Act.eval, go_sem, givesUpon, *]; exact fr1 rfl
   ·simp [execOp, Act.eval, H3, go_sem, givesUpon]; exact fr1 rfl
   ·have D11 : _ = _ := hdep 5 11 rfl; clear hoff hdep; simp [execOp, Act.eval, go_sem, givesUpon, *]; exact fr1 rfl
   ·have D10 : _ = _ := hdep 4 10 rfl; have D12 : _ = _ := hdep 6 12 rfl; clear hoff hdep; simp [execOp, Act.eval, go_sem, givesUpon, *]; exact fr1 rfl
   ·have D13 : _ = _ := hdep 7 13 rfl; clear hoff hdep; simp [execOp, Act.eval, go_sem, givesUpon, *]; exact fr1 rfl
   ·simp [execOp, go_sem, givesUpon]; exact ⟨(Fr.refl _ _).alloc _, ⟨_, rfl, Bx.new_ rfl, hbs⟩, Nat.le_refl _⟩
  intro vs WR hWR hv hne
  obtain ⟨b9, e9, hb9, hl9⟩ := hv 9 (by omega)
  simp only [List.drop_succ_cons, List.drop_zero, putsR_B, putsR_V, putsR_0, Nat.zero_add, Nat.reduceAdd, e9]
  simp only [Act.put, List.setIfInBounds_toArray, List.set_cons_zero, List.set_cons_succ]
  clear e9 hv
  have hfR := hfA.trans0 hWR
  obtain ⟨p0, p1⟩ := hb9.c2
  have pf := fun i => hb9.frozen i
  have pl := hb9.lt
  have hwl := hfA.size
  clear K0 KKA KVA HT hne hb9
  have hfE : ∀ u v, Fr No w ((WR.setCell ⟨b9, 0, none⟩ u).setCell ⟨b9, 1, none⟩ v) := fun u v => (hfR.setCell (p := ⟨b9, 0, none⟩) (by dsimp only; omega) u).setCell (p := ⟨b9, 1, none⟩) (by dsimp only; omega) v
  generalize putM K.p s fs f ⟨xk, xn⟩ = s' at *
  go_wp2_with (go_at_call 81; refine (HP _ (hfE _ _)).mono ?_; rintro e w2 ⟨rfl, hO⟩)
  go_ret
  exact ⟨rfl, hO.from (hfE _ _)⟩
end Go.Proofs.YtbalicnnlfennaaGreat
