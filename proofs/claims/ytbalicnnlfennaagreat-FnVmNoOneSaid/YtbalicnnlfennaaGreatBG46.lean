/- The plan of the laws of the machine: loMain. -/
import Derived.Test.YtbalicnnlfennaaGreatBG45
namespace Go.Proofs.YtbalicnnlfennaaGreat
open Go.RowKit

def mainMth (code : List Ins) (maps : List Mp) : Mth := ⟨sRun, [⟨1, noS⟩], ⟨1, noS⟩, 3, 3, code, maps⟩
def mainCls (code : List Ins) (maps : List Mp) : Cls := ⟨sMain, noS, [], [mainMth code maps]⟩
def mainP (more : List Cls) (code : List Ins) (maps : List Mp) : Plan := ⟨[⟨more ++ [mainCls code maps], []⟩]⟩
def apP : Value → World → Prop := fun v _ => ∃ b, v = .slice (some ⟨b, 0, none⟩) 0 0
theorem apP_mono : MonP apP := fun _ _ _ h _ => h
theorem info_clsc : (Tryz.prog.info? 62).map (fun i => (i.zero, i.size, i.bytes)) = some (some (.agg #[.string ⟨#[]⟩, .string ⟨#[]⟩, .slice none 0 0, .slice none 0 0]), 4, 80) := by kernel_rfl
theorem Sl.oneBx {α : Type} {w : World} {b : Nat} {t : TypeId} {cs : List Value} {sz : Nat} {R : List Value → α → Prop} {x : α} (h : Bx w b t cs.toArray) (hl : cs.length = sz) (hR : R cs x) : Sl No w sz R (.slice (some ⟨b, 0, none⟩) 1 1) [x] :=
  ⟨_, _, rfl, Nat.le_refl _, by unfold maxLen; simp, fun _ => ⟨b, 0, rfl, fun h => h, fun k hk => by
    obtain rfl : k = 0 := by simp at hk; omega
    refine ⟨cs, hR, hl, fun j hj => ?_⟩
    have := h.cell j
    simp only [Nat.zero_mul, Nat.zero_add]
    rw [this]
    simp⟩⟩
theorem Sl.oneRow {α : Type} {w : World} {e : TypeId} {sz : Nat} {v : Value} {cs : List Value} {R : List Value → α → Prop} {x : α} (h : RowV w e sz v 1 cs) (hl : cs.length = sz) (hR : R cs x) : Sl No w sz R v [x] :=
  RowV.slW (C := fun _ : Unit => cs) (ks := [()]) (xs := [x]) (fun _ => hl) (by simpa using h) rfl (fun i h1 h2 => by
    obtain rfl : i = 0 := by simp at h2; omega
    exact hR) (fun _ _ h => h)
theorem slNil {α : Type} {X : Nat → Prop} {w : World} {sz : Nat} {R : List Value → α → Prop} : Sl X w sz R (.slice none 0 0) [] := ⟨none, 0, rfl, Nat.le_refl _, by unfold maxLen; simp, fun h => absurd h (by simp)⟩
def PlanPost (p : Plan) (w : World) (e : Ending) (w' : World) : Prop := (∃ pv, e = .returned (.agg #[pv]) ∧ Sl No w' 2 (KprC No w') pv p.keepers) ∧ Fr No w w'

set_option maxRecDepth 100000 in
set_option maxHeartbeats 4000000 in
theorem loMain0_ok (code : List Ins) (maps : List Mp) (vc vm : Value) (w : World) (hc : Sl No w 4 InsC vc code) (hm : Sl No w 3 (MapC No w) vm maps) :
    Calls Tryz.prog 10 #[.slice none 0 0, vc, vm] w (PlanPost (mainP [] code maps) w) := by
  obtain ⟨Ac, cc, rfl, _, _⟩ := hc.form
  obtain ⟨Am, cm, rfl, _, _⟩ := hm.form
  obtain ⟨wA, hwA⟩ : ∃ wA, wA = w.alloc (.cells #[.slice none 0 0] 31) := ⟨_, rfl⟩
  have hfA : Fr No w wA := hwA ▸ frc
  have BA : Bx wA w.heap.size 31 #[.slice none 0 0] := hwA ▸ bxc
  go_enter Tryz.func10, Tryz.ntmps10
  go_wp2_with fail
  rw [← hwA]
  replace hwA := Lib.hid hwA
  refine (loKind_ok _).mono ?_
  rintro e w1 ⟨rfl, hf1⟩
  go_wp2_with fail
  refine (loKind_ok _).mono ?_
  rintro e w2 ⟨rfl, hf2⟩
  simp only []
  go_at_K
  iterate 13 go_step
  have hs1 := hf1.size
  have hs2 := hf2.size
  have BK2 := (bxc : Bx (w1.alloc (.cells #[.int .i64 1, .string ⟨#[]⟩] 55)) w1.heap.size 55 #[.int .i64 1, .string ⟨#[]⟩]).keep hf2
  have BMz := (bxc : Bx (w2.alloc (.cells #[.string ⟨#[]⟩, .slice none 0 0, .int .i64 0, .string ⟨#[]⟩, .int .i64 0, .int .i64 0, .slice none 0 0, .slice none 0 0] 67)) w2.heap.size 67 #[.string ⟨#[]⟩, .slice none 0 0, .int .i64 0, .string ⟨#[]⟩, .int .i64 0, .int .i64 0, .slice none 0 0, .slice none 0 0])
  refine wpList_store_all rfl 67 (.tmp 7) (.tmp 14) rfl 8 (by kernel_rfl) w2.heap.size 67 _ [.string sRun, .slice (some ⟨w1.heap.size, 0, none⟩) 1 1, .int .i64 1, .string ⟨#[]⟩, .int .i64 3, .int .i64 3, .slice Ac code.length cc, .slice Am maps.length cm] rfl rfl BMz rfl rfl (by simp [Value.oneCell']) ?_
  intro w3 B3 hf3
  simp only [Act.put]
  have hf12 : Fr No w1 w2 := Fr.trans0 ((Fr.refl No w1).alloc _) hf2
  have hf23 : Fr No w2 w3 := ((Fr.refl No w2).alloc _).trans hf3 (fun b hb e => by omega)
  have hl2 := BK2.lt
  have hl3 := B3.lt
  have BK3 := (BK2.keep hf23)
  have hfw1 : Fr No w w1 := hfA.trans0 hf1
  have hwA1 : Hid (w.heap.size < w1.heap.size) := Lib.hid (by have := BA.lt; omega)
  have hs3 := hf23.size
  obtain ⟨y0, y1, y2, y3, y4, y5, y6, y7⟩ := Bx.c8 B3
  obtain ⟨w4, hw4⟩ : ∃ w4, w4 = ((w3.alloc (.cells #[.string sRun, .slice (some ⟨w1.heap.size, 0, none⟩) 1 1, .int .i64 1, .string ⟨#[]⟩, .int .i64 3, .int .i64 3, .slice Ac code.length cc, .slice Am maps.length cm] 67)).alloc (.cells #[.string ⟨#[109, 97, 105, 110]⟩, .string ⟨#[]⟩, .slice none 0 0, .slice (some ⟨w3.heap.size, 0, none⟩) 1 1] 62)) := ⟨_, rfl⟩
  have hf34 : Fr No w3 w4 := hw4 ▸ frc
  have BM4 : Bx w4 w3.heap.size 67 #[.string sRun, .slice (some ⟨w1.heap.size, 0, none⟩) 1 1, .int .i64 1, .string ⟨#[]⟩, .int .i64 3, .int .i64 3, .slice Ac code.length cc, .slice Am maps.length cm] := hw4 ▸ (Bx.new _ _ _).alloc _
  have BC4 : Bx w4 (w3.heap.size + 1) 62 #[.string ⟨#[109, 97, 105, 110]⟩, .string ⟨#[]⟩, .slice none 0 0, .slice (some ⟨w3.heap.size, 0, none⟩) 1 1] := hw4 ▸ Bx.new_ (by simp)
  have hfw4 : Fr No w w4 := ((hfw1.trans0 hf12).trans0 hf23).trans0 hf34
  have BK4 := BK3.keep hf34
  have BA4 := (((BA.keep hf1).keep hf12).keep hf23).keep hf34
  clear BK2 BMz B3 BK3 BA hfA hf1 hf2 hf3
  obtain ⟨j0, hj0, hk0, hk1, hk2⟩ := info_parts info_clsc
  have hrun := fun (ty : TypeId) (w : World) (b : Addr) => run_append_none (P := Tryz.prog) w 63 ty 62 j0 Tryz.underlying63 hj0 (some b) none 0
  go_wp2_with fail
  rw [← hw4]
  replace hw4 := Lib.hid hw4
  clear y0 y1 y2 y3 y4 y5 y6 y7
  have KC4 := BC4.r4
  replace hj0 := Lib.hid hj0
  replace hk0 := Lib.hid hk0
  replace hk1 := Lib.hid hk1
  replace hk2 := Lib.hid hk2
  refine wp_region_monR 5 23 [mS 62 (#[]) 0 w4.heap.size, mV (.slice none 0 0), mC (apP) (apP_mono), mV (.agg #[.string ⟨#[109, 97, 105, 110]⟩, .string ⟨#[]⟩, .slice none 0 0, .slice (some ⟨w3.heap.size, 0, none⟩) 1 1]), mS 62 (#[.string ⟨#[109, 97, 105, 110]⟩, .string ⟨#[]⟩, .slice none 0 0, .slice (some ⟨w3.heap.size, 0, none⟩) 1 1]) 1 w4.heap.size] (by kernel_rfl) (by kernel_rfl) (by simp) ?_ ?_
  · refine hopC ?_ <| hopC ?_ <| hopC ?_ <| hopC ?_ <| hopC ?_ <| hopZ
    all_goals (intro a' W hW hoff hdep; have hbs := hW.size; have H0 := hoff 0 rfl; have H8 := hoff 8 rfl; refine nE rfl ?_)
    · simp [execOp, go_sem, givesUpon]; exact ⟨(Fr.refl _ _).alloc _, ⟨_, rfl, Bx.new_ rfl, hbs⟩, Nat.le_refl _⟩
    · simp [execOp, Act.eval, H0, go_sem, givesUpon]; exact fr1 rfl
    · obtain ⟨b, D18, hb, hl⟩ : (slB 62 #[] 0 w4.heap.size) _ W := hdep 0 18 rfl; have D19 : _ = _ := hdep 1 19 rfl; simp [Act.eval, D18, D19, go_sem, givesUpon]; exact ⟨Fr.refl _ _, _, rfl⟩
    · clear hoff hdep; simp [execOp, Act.eval, go_sem, givesUpon, *]; exact fr1 rfl
    · have D21 : _ = _ := hdep 3 21 rfl; simp at D21; simp [execOp, Act.eval, D21, go_sem, givesUpon]; exact ⟨(Fr.refl _ _).alloc _, ⟨_, rfl, Bx.new_ rfl, hbs⟩, Nat.le_refl _⟩
  intro vs WR hWR hv hne
  obtain ⟨b0, e0, hb0, hl0⟩ := hv 0 (by omega)
  obtain ⟨A0R2, e2⟩ := hv 2 (by omega)
  obtain ⟨b4, e4, hb4, hl4⟩ := hv 4 (by omega)
  simp only [List.drop_succ_cons, List.drop_zero, putsR_C, putsR_S, putsR_V, putsR_0, Nat.zero_add, Nat.reduceAdd, e0, e2, e4]
  simp only [Act.put, List.setIfInBounds_toArray, List.set_cons_zero, List.set_cons_succ]
  clear e0 e2 e4 hv
  clear hrun hne hb0 KC4
  have hnews := Lib.hid (Bx.news (cs := [.string ⟨#[109, 97, 105, 110]⟩, .string ⟨#[]⟩, .slice none 0 0, .slice (some ⟨w3.heap.size, 0, none⟩) 1 1]) hb4)
  refine wpList_append_row _ rfl _ _ 63 rfl 62 j0 (.agg #[.string ⟨#[]⟩, .string ⟨#[]⟩, .slice none 0 0, .slice none 0 0]) 4 80 Tryz.underlying63 hj0.out hk0.out hk1.out hk2.out rfl (by decide) (.slice (some ⟨A0R2, 0, none⟩) 0 0) 0 [] rfl (.inr ⟨rfl, rfl, _, rfl⟩) ⟨b4, 0, none⟩ 1 1 [.string ⟨#[109, 97, 105, 110]⟩, .string ⟨#[]⟩, .slice none 0 0, .slice (some ⟨w3.heap.size, 0, none⟩) 1 1] rfl rfl hnews.out (by simp [Value.oneCell']) (by decide) (by unfold maxLen; omega) (by omega) ?_
  intro g' cap' w5 hrow hcap hgf hor
  have hg' : Hid (g' = WR.heap.size) := Lib.hid (hor.elim (fun e => by rw [rowBlk_at, if_pos rfl] at e; cases e) id)
  clear hor
  have hwR := hWR.size
  have hs34 := hf34.size
  have hAl := BA4.lt
  simp only [Act.put, List.setIfInBounds_toArray, List.set_cons_zero, List.set_cons_succ]
  simp only [Nat.zero_add, List.nil_append] at hrow hcap
  have hf45 : Fr No w4 w5 := hWR.trans hgf (fun b hb e => by rw [rowBlk_at, if_pos rfl] at e; cases e)
  have BA5 := BA4.keep hf45
  have hfw5 := hfw4.trans0 hf45
  have z0 := BA5.c1
  have zf := fun i => BA5.frozen i
  have zl := BA5.lt
  replace hrow := Lib.hid hrow
  go_wp2_with fail
  obtain ⟨W8, hW8⟩ : ∃ W8, W8 = ((w5.setCell ⟨w.heap.size, 0, none⟩ (.slice (some ⟨w5.heap.size, 0, none⟩) 1 1)).alloc (.cells #[.slice (some ⟨g', 0, none⟩) 1 cap', .slice none 0 0] 70)) := ⟨_, rfl⟩
  have hf58 : Fr (fun b => b = w.heap.size) w5 W8 := hW8 ▸ (Fr.one _ _ _ _).trans0 ((Fr.refl No _).alloc _)
  have BA8 : Bx W8 w.heap.size 31 #[.slice (some ⟨w5.heap.size, 0, none⟩) 1 1] := hW8 ▸ (BA5.setc (i := 0) rfl).alloc _
  have BP8 : Bx W8 w5.heap.size 70 #[.slice (some ⟨g', 0, none⟩) 1 cap', .slice none 0 0] := hW8 ▸ Bx.new_ (by simp)
  rw [← hW8]
  clear hW8 z0 zf zl
  have hfw8 : Fr No w W8 := hfw5.trans hf58 (fun b hb e => by omega)
  have hwA1 : w.heap.size < w1.heap.size := hwA1.out
  have BK8 := (BK4.keep hf45).keepX hf58 (by omega)
  have BM8 := (BM4.keep hf45).keepX hf58 (by omega)
  have hrow8 := hrow.out.keep hf58 (fun q hq e => by rw [rowBlk_some (by omega)] at hq; have := Option.some.inj hq; have := hg'.out; omega)
  have hKnd : Sl No W8 2 KndC (.slice (some ⟨w1.heap.size, 0, none⟩) 1 1) [⟨1, noS⟩] := Sl.oneBx BK8 rfl ⟨rfl, by decide⟩
  have hMth : Sl No W8 8 (MthC No W8) (.slice (some ⟨w3.heap.size, 0, none⟩) 1 1) [mainMth code maps] := Sl.oneBx BM8 rfl ⟨_, _, _, rfl, (show sRun.size ≤ maxLen by decide), (show noS.size ≤ maxLen by decide), hKnd, hc.keep hfw8 (fun _ h => h) (fun _ _ _ h => h), hm.keep hfw8 (fun _ h => h) (fun _ _ _ h => h.keep hfw8 (fun _ h => h))⟩
  have hCls : Sl No W8 4 (ClsC No W8) (.slice (some ⟨g', 0, none⟩) 1 cap') [mainCls code maps] := Sl.oneRow hrow8 rfl ⟨_, _, rfl, (show sMain.size ≤ maxLen by decide), (show noS.size ≤ maxLen by decide), slNil, hMth⟩
  have hKpr : Sl No W8 2 (KprC No W8) (.slice (some ⟨w5.heap.size, 0, none⟩) 1 1) (mainP [] code maps).keepers := Sl.oneBx BP8 rfl ⟨_, _, rfl, hCls, slNil⟩
  have r0 := BA8.c1
  have rl := BA8.lt
  refine bodyPost_ret (v := .agg #[.slice (some ⟨w5.heap.size, 0, none⟩) 1 1]) (by simp [results, Tryz.results10, go_sem, r0]) rfl ?_
  exact ⟨⟨_, rfl, hKpr⟩, hfw8⟩
end Go.Proofs.YtbalicnnlfennaaGreat
