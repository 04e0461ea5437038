/- loMain with one class ahead. -/
import Derived.Test.YtbalicnnlfennaaGreatCK23
namespace Go.Proofs.YtbalicnnlfennaaGreat
open Go.RowKit

def clsCells1 (x : Cls) (Af Ay : Option Addr) (cf cy : Nat) : List Value := [.string x.name, .string x.super, .slice Af x.fields.length cf, .slice Ay x.methods.length cy]
def ap1P (x : Cls) (Af Ay : Option Addr) (cf cy base : Nat) : Value → World → Prop := fun v W => ∃ g c, v = .slice (some ⟨g, 0, none⟩) 1 c ∧ RowV W 62 4 (.slice (some ⟨g, 0, none⟩) 1 c) 1 (clsCells1 x Af Ay cf cy) ∧ base ≤ g ∧ 1 ≤ c
theorem ap1P_mono (x : Cls) (Af Ay : Option Addr) (cf cy base : Nat) : MonP (ap1P x Af Ay cf cy base) := fun _ _ _ ⟨g, c, h1, h2, h3, h4⟩ hf => ⟨g, c, h1, h2.keep0 hf, h3, h4⟩
theorem ap1_gives {x : Cls} {Af Ay : Option Addr} {cf cy gm b0 base : Nat} {W : World} {a' : Act} {o : Oper} {s y : Operand} (ho : o.op = .call { callee := .builtin .append, args := #[s, y], argTypes := #[63, 63] })
  (hB : Bx W gm 62 (clsCells1 x Af Ay cf cy).toArray) (hs : a'.eval s = .slice (some ⟨b0, 0, none⟩) 0 0) (hy : a'.eval y = .slice (some ⟨gm, 0, none⟩) 1 1) (hb : base ≤ W.heap.size) :
  givesUpon Tryz.prog ((mC (ap1P x Af Ay cf cy base) (ap1P_mono _ _ _ _ _ _)).post W) ((execOp a'.eval o).run Tryz.prog W) := by
 obtain ⟨j0, hj0, hk0, hk1, hk2⟩ := info_parts info_clsc
 obtain ⟨g', cap', w', hr, h2, h3, h4, h5⟩ := run_append_row (P := Tryz.prog) W 63 o.type 62 j0 (.agg #[.string ⟨#[]⟩, .string ⟨#[]⟩, .slice none 0 0, .slice none 0 0]) 4 80 Tryz.underlying63 hj0 hk0 hk1 hk2 rfl (by decide)
  (.slice (some ⟨b0, 0, none⟩) 0 0) 0 [] (.inr ⟨rfl, rfl, _, rfl⟩) ⟨gm, 0, none⟩ 1 1 (clsCells1 x Af Ay cf cy) rfl hB.news (by simp [clsCells1, Value.oneCell']) (by decide) (by unfold maxLen; omega) (by omega)
 unfold execOp
 simp only [ho, resolve, invoke, builtin, Sem.run_bind, Sem.run_pure, Result.andThen_ok, List.map_toArray, List.map_cons, List.map_nil, hs, hy, hr, givesUpon, postC]
 refine ⟨h4.mono (fun b _ e => by rw [rowBlk_at, if_pos rfl] at e; cases e), g', cap', rfl, h2, ?_, h3⟩
 rcases h5 with e | e
 ·rw [rowBlk_at, if_pos rfl] at e; cases e
 ·omega

set_option maxRecDepth 100000 in
set_option maxHeartbeats 4000000 in
theorem loMain1_ok (x : Cls) (gm : Nat) (vf vy : Value) (code : List Ins) (maps : List Mp) (vc vm : Value) (w : World) (hB : Bx w gm 62 #[.string x.name, .string x.super, vf, vy]) (hx1 : x.name.size ≤ maxLen) (hx2 : x.super.size ≤ maxLen) (hxf : Sl No w 3 FldC vf x.fields) (hxm : Sl No w 8 (MthC No w) vy x.methods) (hc : Sl No w 4 InsC vc code) (hm : Sl No w 3 (MapC No w) vm maps) :
  Calls Tryz.prog 10 #[.slice (some ⟨gm, 0, none⟩) 1 1, vc, vm] w (PlanPost (mainP [x] code maps) w) := by
 obtain ⟨Ac, cc, rfl, _, _⟩ := hc.form
 obtain ⟨Am, cm, rfl, _, _⟩ := hm.form
 obtain ⟨Af, cf, rfl, _, _⟩ := hxf.form
 obtain ⟨Ay, cy, rfl, _, _⟩ := hxm.form
 obtain ⟨wA, hwA⟩ : ∃ wA, wA = w.alloc (.cells #[.slice none 0 0] 31) := ⟨_, rfl⟩
 have hfA : Fr No w wA := hwA ▸ frc
 have BA : Bx wA w.heap.size 31 #[.slice none 0 0] := hwA ▸ bxc
 go_enter Tryz.func10, Tryz.ntmps10
 go_wp2_with fail
 rw [← hwA]
 replace hwA := Lib.hid hwA
 refine (loKind_ok _).mono ?_
 rintro e w1 ⟨rfl, hf1⟩
 go_wp2_with fail
 refine (loKind_ok _).mono ?_
 rintro e w2 ⟨rfl, hf2⟩
 simp only []
 go_at_K
 iterate 13 go_step
 have hs1 := hf1.size
 have hs2 := hf2.size
 have BK2 := (bxc : Bx (w1.alloc (.cells #[.int .i64 1, .string ⟨#[]⟩] 55)) w1.heap.size 55 #[.int .i64 1, .string ⟨#[]⟩]).keep hf2
 have BMz := (bxc : Bx (w2.alloc (.cells #[.string ⟨#[]⟩, .slice none 0 0, .int .i64 0, .string ⟨#[]⟩, .int .i64 0, .int .i64 0, .slice none 0 0, .slice none 0 0] 67)) w2.heap.size 67 #[.string ⟨#[]⟩, .slice none 0 0, .int .i64 0, .string ⟨#[]⟩, .int .i64 0, .int .i64 0, .slice none 0 0, .slice none 0 0])
 refine wpList_store_all rfl 67 (.tmp 7) (.tmp 14) rfl 8 (by kernel_rfl) w2.heap.size 67 _ [.string sRun, .slice (some ⟨w1.heap.size, 0, none⟩) 1 1, .int .i64 1, .string ⟨#[]⟩, .int .i64 3, .int .i64 3, .slice Ac code.length cc, .slice Am maps.length cm] rfl rfl BMz rfl rfl (by simp [Value.oneCell']) ?_
 intro w3 B3 hf3
 simp only [Act.put]
 have hf12 : Fr No w1 w2 := Fr.trans0 ((Fr.refl No w1).alloc _) hf2
 have hf23 : Fr No w2 w3 := ((Fr.refl No w2).alloc _).trans hf3 (fun b hb e => by omega)
 have hl2 := BK2.lt
 have hl3 := B3.lt
 have BK3 := (BK2.keep hf23)
 have hfw1 : Fr No w w1 := hfA.trans0 hf1
 have hwA1 : Hid (w.heap.size < w1.heap.size) := Lib.hid (by have := BA.lt; omega)
 have hs3 := hf23.size
 obtain ⟨y0, y1, y2, y3, y4, y5, y6, y7⟩ := Bx.c8 B3
 obtain ⟨w4, hw4⟩ : ∃ w4, w4 = ((w3.alloc (.cells #[.string sRun, .slice (some ⟨w1.heap.size, 0, none⟩) 1 1, .int .i64 1, .string ⟨#[]⟩, .int .i64 3, .int .i64 3, .slice Ac code.length cc, .slice Am maps.length cm] 67)).alloc (.cells #[.string ⟨#[109, 97, 105, 110]⟩, .string ⟨#[]⟩, .slice none 0 0, .slice (some ⟨w3.heap.size, 0, none⟩) 1 1] 62)) := ⟨_, rfl⟩
 have hf34 : Fr No w3 w4 := hw4 ▸ frc
 have BM4 : Bx w4 w3.heap.size 67 #[.string sRun, .slice (some ⟨w1.heap.size, 0, none⟩) 1 1, .int .i64 1, .string ⟨#[]⟩, .int .i64 3, .int .i64 3, .slice Ac code.length cc, .slice Am maps.length cm] := hw4 ▸ (Bx.new _ _ _).alloc _
 have BC4 : Bx w4 (w3.heap.size + 1) 62 #[.string ⟨#[109, 97, 105, 110]⟩, .string ⟨#[]⟩, .slice none 0 0, .slice (some ⟨w3.heap.size, 0, none⟩) 1 1] := hw4 ▸ Bx.new_ (by simp)
 have hfw4 : Fr No w w4 := ((hfw1.trans0 hf12).trans0 hf23).trans0 hf34
 have BK4 := BK3.keep hf34
 have BA4 := (((BA.keep hf1).keep hf12).keep hf23).keep hf34
 clear BK2 BMz B3 BK3 BA hfA hf1 hf2 hf3
 obtain ⟨j0, hj0, hk0, hk1, hk2⟩ := info_parts info_clsc
 have hrun := fun (ty : TypeId) (w : World) (b : Addr) => run_append_none (P := Tryz.prog) w 63 ty 62 j0 Tryz.underlying63 hj0 (some b) none 0
 go_wp2_with fail
 rw [← hw4]
 replace hw4 := Lib.hid hw4
 clear y0 y1 y2 y3 y4 y5 y6 y7
 have KC4 := BC4.r4
 replace hj0 := Lib.hid hj0
 replace hk0 := Lib.hid hk0
 replace hk1 := Lib.hid hk1
 replace hk2 := Lib.hid hk2
 refine wp_region_monR 5 23 [mS 62 (#[]) 0 w4.heap.size, mV (.slice (some ⟨gm, 0, none⟩) 1 1), mC (ap1P x Af Ay cf cy w4.heap.size) (ap1P_mono _ _ _ _ _ _), mV (.agg #[.string ⟨#[109, 97, 105, 110]⟩, .string ⟨#[]⟩, .slice none 0 0, .slice (some ⟨w3.heap.size, 0, none⟩) 1 1]), mS 62 (#[.string ⟨#[109, 97, 105, 110]⟩, .string ⟨#[]⟩, .slice none 0 0, .slice (some ⟨w3.heap.size, 0, none⟩) 1 1]) 1 w4.heap.size] (by kernel_rfl) (by kernel_rfl) (by simp) ?_ ?_
 ·refine hopC ?_ <| hopC ?_ <| hopC ?_ <| hopC ?_ <| hopC ?_ <| hopZ
  all_goals (intro a' W hW hoff hdep; have hbs := hW.size; have H0 := hoff 0 rfl; have H8 := hoff 8 rfl; refine nE rfl ?_)
  ·simp [execOp, go_sem, givesUpon]; exact ⟨(Fr.refl _ _).alloc _, ⟨_, rfl, Bx.new_ rfl, hbs⟩, Nat.le_refl _⟩
  ·simp [execOp, Act.eval, H0, go_sem, givesUpon]; exact fr1 rfl
  ·obtain ⟨b, D18, hb, hl⟩ : (slB 62 #[] 0 w4.heap.size) _ W := hdep 0 18 rfl
   have D19 : _ = _ := hdep 1 19 rfl
   exact ap1_gives rfl (hB.keep (hfw4.trans0 hW)) D18 D19 hbs
  ·clear hoff hdep; simp [execOp, Act.eval, go_sem, givesUpon, *]; exact fr1 rfl
  ·have D21 : _ = _ := hdep 3 21 rfl; simp at D21; simp [execOp, Act.eval, D21, go_sem, givesUpon]; exact ⟨(Fr.refl _ _).alloc _, ⟨_, rfl, Bx.new_ rfl, hbs⟩, Nat.le_refl _⟩
 intro vs WR hWR hv hne
 obtain ⟨b0, e0, hb0, hl0⟩ := hv 0 (by omega)
 obtain ⟨A0R2, c0R2, e2, hA0R2, hl0R2, hc0R2⟩ := hv 2 (by omega)
 obtain ⟨b4, e4, hb4, hl4⟩ := hv 4 (by omega)
 simp only [List.drop_succ_cons, List.drop_zero, putsR_C, putsR_S, putsR_V, putsR_0, Nat.zero_add, Nat.reduceAdd, e0, e2, e4]
 simp only [Act.put, List.setIfInBounds_toArray, List.set_cons_zero, List.set_cons_succ]
 clear e0 e2 e4 hv
 clear hrun hne hb0 KC4
 have hnews := Lib.hid (Bx.news (cs := [.string ⟨#[109, 97, 105, 110]⟩, .string ⟨#[]⟩, .slice none 0 0, .slice (some ⟨w3.heap.size, 0, none⟩) 1 1]) hb4)
 refine wpList_append_row _ rfl _ _ 63 rfl 62 j0 (.agg #[.string ⟨#[]⟩, .string ⟨#[]⟩, .slice none 0 0, .slice none 0 0]) 4 80 Tryz.underlying63 hj0.out hk0.out hk1.out hk2.out rfl (by decide) (.slice (some ⟨A0R2, 0, none⟩) 1 c0R2) 1 (clsCells1 x Af Ay cf cy) rfl hA0R2 ⟨b4, 0, none⟩ 1 1 [.string ⟨#[109, 97, 105, 110]⟩, .string ⟨#[]⟩, .slice none 0 0, .slice (some ⟨w3.heap.size, 0, none⟩) 1 1] rfl rfl hnews.out (by simp [Value.oneCell']) (by decide) (by unfold maxLen; omega) (by omega) ?_
 intro g' cap' w5 hrow hcap hgf hor
 have hwR9 := hWR.size
 have hg' : Hid (w4.heap.size ≤ g') := Lib.hid (hor.elim (fun e => by rw [rowBlk_some (by omega)] at e; have := Option.some.inj e; omega) (fun e => by omega))
 clear hor
 have hwR := hWR.size
 have hs34 := hf34.size
 have hAl := BA4.lt
 simp only [Act.put, List.setIfInBounds_toArray, List.set_cons_zero, List.set_cons_succ]
 simp only [Nat.reduceAdd] at hrow hcap ⊢
 have hf45 : Fr No w4 w5 := hWR.trans hgf (fun b hb e => by rw [rowBlk_some (by omega)] at e; have := Option.some.inj e; omega)
 have BA5 := BA4.keep hf45
 have hfw5 := hfw4.trans0 hf45
 have z0 := BA5.c1
 have zf := fun i => BA5.frozen i
 have zl := BA5.lt
 replace hrow := Lib.hid hrow
 go_wp2_with fail
 obtain ⟨W8, hW8⟩ : ∃ W8, W8 = ((w5.setCell ⟨w.heap.size, 0, none⟩ (.slice (some ⟨w5.heap.size, 0, none⟩) 1 1)).alloc (.cells #[.slice (some ⟨g', 0, none⟩) 2 cap', .slice none 0 0] 70)) := ⟨_, rfl⟩
 have hf58 : Fr (fun b => b = w.heap.size) w5 W8 := hW8 ▸ (Fr.one _ _ _ _).trans0 ((Fr.refl No _).alloc _)
 have BA8 : Bx W8 w.heap.size 31 #[.slice (some ⟨w5.heap.size, 0, none⟩) 1 1] := hW8 ▸ (BA5.setc (i := 0) rfl).alloc _
 have BP8 : Bx W8 w5.heap.size 70 #[.slice (some ⟨g', 0, none⟩) 2 cap', .slice none 0 0] := hW8 ▸ Bx.new_ (by simp)
 rw [← hW8]
 clear hW8 z0 zf zl
 have hfw8 : Fr No w W8 := hfw5.trans hf58 (fun b hb e => by omega)
 have hwA1 : w.heap.size < w1.heap.size := hwA1.out
 have BK8 := (BK4.keep hf45).keepX hf58 (by omega)
 have BM8 := (BM4.keep hf45).keepX hf58 (by omega)
 have hrow8 := hrow.out.keep hf58 (fun q hq e => by rw [rowBlk_some (by omega)] at hq; have := Option.some.inj hq; have := hg'.out; omega)
 have hKnd : Sl No W8 2 KndC (.slice (some ⟨w1.heap.size, 0, none⟩) 1 1) [⟨1, noS⟩] := Sl.oneBx BK8 rfl ⟨rfl, by decide⟩
 have hMth : Sl No W8 8 (MthC No W8) (.slice (some ⟨w3.heap.size, 0, none⟩) 1 1) [mainMth code maps] := Sl.oneBx BM8 rfl ⟨_, _, _, rfl, (show sRun.size ≤ maxLen by decide), (show noS.size ≤ maxLen by decide), hKnd, hc.keep hfw8 (fun _ h => h) (fun _ _ _ h => h), hm.keep hfw8 (fun _ h => h) (fun _ _ _ h => h.keep hfw8 (fun _ h => h))⟩
 have hX1 : ClsC No W8 (clsCells1 x Af Ay cf cy) x := ⟨_, _, rfl, hx1, hx2, hxf.keep hfw8 (fun _ h => h) (fun _ _ _ h => h), hxm.keep hfw8 (fun _ h => h) (fun _ _ _ h => h.keep hfw8 (fun _ h => h))⟩
 have hX2 : ClsC No W8 [.string ⟨#[109, 97, 105, 110]⟩, .string ⟨#[]⟩, .slice none 0 0, .slice (some ⟨w3.heap.size, 0, none⟩) 1 1] (mainCls code maps) := ⟨_, _, rfl, (show sMain.size ≤ maxLen by decide), (show noS.size ≤ maxLen by decide), slNil, hMth⟩
 have hCls : Sl No W8 4 (ClsC No W8) (.slice (some ⟨g', 0, none⟩) 2 cap') [x, mainCls code maps] :=
  RowV.slW (C := fun b : Bool => if b then clsCells1 x Af Ay cf cy else [.string ⟨#[109, 97, 105, 110]⟩, .string ⟨#[]⟩, .slice none 0 0, .slice (some ⟨w3.heap.size, 0, none⟩) 1 1]) (ks := [true, false]) (xs := [x, mainCls code maps]) (fun b => by cases b <;> rfl) (by simpa using hrow8) rfl (fun i h1 h2 => by
   rcases i with _ | _ | i
   ·exact hX1
   ·exact hX2
   ·simp at h2; omega) (fun _ _ h => h)
 have hKpr : Sl No W8 2 (KprC No W8) (.slice (some ⟨w5.heap.size, 0, none⟩) 1 1) (mainP [x] code maps).keepers := Sl.oneBx BP8 rfl ⟨_, _, rfl, hCls, slNil⟩
 have r0 := BA8.c1
 have rl := BA8.lt
 refine bodyPost_ret (v := .agg #[.slice (some ⟨w5.heap.size, 0, none⟩) 1 1]) (by simp [results, Tryz.results10, go_sem, r0]) rfl ?_
 exact ⟨⟨_, rfl, hKpr⟩, hfw8⟩
end Go.Proofs.YtbalicnnlfennaaGreat
