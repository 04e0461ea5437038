/- The program's own machine: a method is begun. -/
import Derived.Test.YtbalicnnlfennaaGreatCK12
import Derived.Test.YtbalicnnlfennaaGreatCK17
import Derived.Test.YtbalicnnlfennaaGreatCK15
namespace Go.Proofs.YtbalicnnlfennaaGreat
open Go.RowKit

def rgtC (K : McP) (n : Nat) (wA : World) (j : Nat) (W : World) : Prop := Fr (fun x => x = K.bl) wA W ∧ Lg W K.l K.bl (n + 34 * j) K.p
def kndC2 (k : Knd) : List Value := [.int .i64 k.kind, .string k.name]
theorem kndC2_len (k : Knd) : (kndC2 k).length = 2 := rfl
theorem Sl.knds {X : Nat → Prop} {w : World} {v : Value} {xs : List Knd} (h : Sl X w 2 KndC v xs) : ∀ x ∈ xs, x.name.size ≤ maxLen := by
 intro x hx
 obtain ⟨A, cap, rfl, _⟩ := h.form
 obtain ⟨k, hk, rfl⟩ := List.mem_iff_getElem.1 hx
 obtain ⟨b, off, cs, _, _, hR, _⟩ := h.cells hk
 exact hR.2
theorem RowV.newOne (w : World) (e : TypeId) (sz : Nat) (cs : List Value) (h : cs.length = sz) : RowV (w.alloc (.cells cs.toArray e)) e sz (.slice (some ⟨w.heap.size, 0, none⟩) 1 1) 1 cs :=
 .inl ⟨by simp [h], .inr ⟨w.heap.size, 1, cs.toArray, rfl, Nat.zero_le _, Bx.new w e _, Nat.le_refl _, by unfold maxLen; decide, by simp [h], by simp [← h]⟩⟩
theorem knd_at {w : World} {g n c : Nat} {T : List Knd} (h : RowV w 55 2 (.slice (some ⟨g, 0, none⟩) n c) T.length (T.flatMap kndC2)) (hn : n = T.length) {j : Nat} (hj : j < T.length) : n ≤ c ∧ c ≤ maxLen ∧ ∀ W, Fr No w W → W.cell? ⟨g, j * 2, none⟩ = some (.int .i64 T[j].kind) ∧ W.cell? ⟨g, j * 2 + 1, none⟩ = some (.string T[j].name) ∧ g < W.heap.size := by
 subst hn
 obtain ⟨g', c', cur, he, h1, h2, hb, _, _, _⟩ := h.at_ (by omega)
 cases he
 have c0 := (h.cell rfl (j := j * 2 + 0) (by omega)).trans (flatW_get kndC2_len T j hj 0 (by decide))
 have c1 := (h.cell rfl (j := j * 2 + 1) (by omega)).trans (flatW_get kndC2_len T j hj 1 (by decide))
 exact ⟨h1, h2, fun W hW => ⟨hW.keep0 c0, hW.keep0 c1, (hb.keep hW).lt⟩⟩
theorem menter_type {K : McP} {n : Nat} {s : St} {m : MLay} {W : World} (h : McS K n s m W) {k : Int} {x : Val} {t : Knd} (hx : x.kind = 2 → ∃ j : Nat, x.n = j ∧ j < s.heap.length) (ht : t.name.size ≤ maxLen) :
  Calls Tryz.prog 79 #[.pointer (some ⟨K.l, 0, none⟩), .int .i64 k, m.vh, .agg #[.int .i64 x.kind, .int .i64 x.n], .agg #[.int .i64 t.kind, .string t.name]] W (BoolFr (hasB K.p k s.heap x t) W) := by
 obtain ⟨gg, hg1, _⟩ := h.lg
 exact hasType_ok No K.l K.bl n K.p gg k m.vh s.heap x t W hg1 h.heapSl hx ht
theorem info_ptr : (Tryz.prog.info? 113).map (fun i => (i.zero, i.size, i.bytes)) = some (some (.pointer none), 1, 8) := by kernel_rfl
theorem made_vals1 : (madeCells (Value.agg #[.int .i64 0, .int .i64 0]).cells (1 * 2)).toList = (List.replicate 1 noVal).flatMap valCells := by kernel_rfl
theorem made_vals2 : (madeCells (Value.agg #[.int .i64 0, .int .i64 0]).cells (2 * 2)).toList = (List.replicate 2 noVal).flatMap valCells := by kernel_rfl
theorem made_vals3 : (madeCells (Value.agg #[.int .i64 0, .int .i64 0]).cells (3 * 2)).toList = (List.replicate 3 noVal).flatMap valCells := by kernel_rfl
theorem made_vals4 : (madeCells (Value.agg #[.int .i64 0, .int .i64 0]).cells (4 * 2)).toList = (List.replicate 4 noVal).flatMap valCells := by kernel_rfl
theorem made_vals5 : (madeCells (Value.agg #[.int .i64 0, .int .i64 0]).cells (5 * 2)).toList = (List.replicate 5 noVal).flatMap valCells := by kernel_rfl
theorem made_vals6 : (madeCells (Value.agg #[.int .i64 0, .int .i64 0]).cells (6 * 2)).toList = (List.replicate 6 noVal).flatMap valCells := by kernel_rfl
theorem made_vals {N : Nat} (h1 : 1 ≤ N) (h6 : N ≤ 6) : (madeCells (Value.agg #[.int .i64 0, .int .i64 0]).cells (N * 2)).toList = (List.replicate N noVal).flatMap valCells := by
 have h : N = 1 ∨ N = 2 ∨ N = 3 ∨ N = 4 ∨ N = 5 ∨ N = 6 := by omega
 rcases h with rfl | rfl | rfl | rfl | rfl | rfl
 ·exact made_vals1
 ·exact made_vals2
 ·exact made_vals3
 ·exact made_vals4
 ·exact made_vals5
 ·exact made_vals6
def ptrP (base : Nat) (cells : Array Value) : Value → World → Prop := fun v W => ∃ g b, v = .slice (some ⟨g, 0, none⟩) 1 1 ∧ Bx W g tPtr #[.pointer (some ⟨b, 0, none⟩)] ∧ base ≤ g ∧ Bx W b tCall cells ∧ base ≤ b ∧ g ≠ b
theorem ptrP.mono {base : Nat} {cells : Array Value} : MonP (ptrP base cells) := fun _ _ _ ⟨g, b, h1, h2, h3, h4, h5⟩ hf => ⟨g, b, h1, h2.keep hf, h3, h4.keep hf, h5⟩
theorem info_kndM : (Tryz.prog.info? 55).map (fun i => (i.zero, i.size, i.bytes)) = some (some (.agg #[.int .i64 0, .string ⟨#[]⟩]), 2, 24) := by kernel_rfl
theorem mthOf_at {p : Plan} {k a : Nat} {s : Str} (ha : a < (clsAt p ⟨k, s⟩).methods.length) : mthOf p ⟨⟨k, s⟩, a⟩ = (clsAt p ⟨k, s⟩).methods[a] := getD_nat ha noMth
theorem rightM_at {p : Plan} {k a : Nat} {s : Str} (ha : a < (clsAt p ⟨k, s⟩).methods.length) : rightM p ⟨⟨k, s⟩, a⟩ = okM p ⟨k, s⟩ (clsAt p ⟨k, s⟩).methods[a] := by
 unfold rightM okM
 rw [mthOf_at ha]

set_option maxRecDepth 100000 in
set_option maxHeartbeats 4000000 in
theorem menter_ok (K : McP) (E : McE K) (n : Nat) (s : St) (m : MLay) (w : World) (hM0 : McS K n s m w) (hgo : s.status = 1) (hfl : s.frames.length < 8) (_ : s.heap.length ≤ 100) (hn : n < 980000)
  (kk ix a : Nat) (nm : Str) (hh : Here K.p ⟨kk, nm⟩ kk ix) (hs : nm.size ≤ maxLen) (ha : a < (clsAt K.p ⟨kk, nm⟩).methods.length) (hops : OkOps ((clsAt K.p ⟨kk, nm⟩).methods[a]).code)
  (v : Value) (ys : List Val) (hv : ValRow w v ys) (hvn : ∀ q, rowBlk v = some q → K.w0.heap.size ≤ q ∧ q ∉ mcB K m) (hv0 : 0 < ys.length) (hvl : ys.length ≤ (clsAt K.p ⟨kk, nm⟩).methods[a].args.length + 1) (hvL : (ys.length : Int) ≤ (clsAt K.p ⟨kk, nm⟩).methods[a].locals) (hL : (clsAt K.p ⟨kk, nm⟩).methods[a].locals ≤ 6)
  (hargs : 0 < (clsAt K.p ⟨kk, nm⟩).methods[a].args.length) (hargl : (clsAt K.p ⟨kk, nm⟩).methods[a].args.length ≤ 100) (hvr : ∀ x ∈ ys, x.kind = 2 → ∃ j : Nat, x.n = j ∧ j < s.heap.length) :
  Calls Tryz.prog 40 #[.pointer (some ⟨K.mb, 0, none⟩), .agg #[.int .i64 (kk : Int), .string nm, .int .i64 (a : Int)], v] w (OpPost K (n + 34) (enterM K.p K.look s s.frames ⟨⟨kk, nm⟩, a⟩ ys) m w) := by
 unfold enterM
 rw [if_neg (by omega), rightM_at ha, mthOf_at ha]
 obtain ⟨gv, cv, rfl⟩ := ValRow.pos hv hv0
 have hMlt := Lib.hid (fun b (hb : b ∈ mcB K m) => hM0.lt hb)
 obtain ⟨RES, hRES⟩ : ∃ R : St, R = (if typesB K.p ⟨⟨kk, nm⟩, a⟩ s.heap ys then s.goes (s.frames ++ [⟨⟨⟨kk, nm⟩, a⟩, 0, ys ++ List.replicate ((clsAt K.p ⟨kk, nm⟩).methods[a].locals.toNat - ys.length) noVal, []⟩]) else s.ends 10) := ⟨_, rfl⟩
 rw [← hRES]
 replace hRES := Lib.hid hRES
 have HR := fun n' W (hW : Lg W K.l K.bl n' K.p) (h9 : n' < 999900) => right_ok K.l K.bl n' K.p kk ix a nm W hW hh hs ha hops h9
 unfold SaysL at HR
 have hRetn : (clsAt K.p ⟨kk, nm⟩).methods[a] = (clsAt K.p ⟨kk, nm⟩).methods[a] := rfl
 obtain ⟨wA, hwA⟩ : ∃ wA, wA = (w.alloc (.cells #[.int .i64 (kk : Int), .string nm, .int .i64 (a : Int)] 84)) := ⟨_, rfl⟩
 have hfA : Fr No w wA := hwA ▸ frc
 have B0 := (hwA ▸ bxc : Bx wA w.heap.size 84 #[.int .i64 (kk : Int), .string nm, .int .i64 (a : Int)])
 have hbl := E.bl_lt
 have hw0 := hM0.anchor.size
 have hlg := hM0.lg
 have hmb0 := hM0.new _ (mem_mcB.2 (.inl rfl))
 obtain ⟨Ac, cc, hvc, hc1, hc2⟩ := hM0.crow.form
 unfold maxLen at hc2
 have KMw := hM0.cells w (Fr.refl _ _)
 rw [hvc] at KMw
 obtain ⟨_, _, _, z3, _, _, _, _, _, zl⟩ := KMw
 have hMA := hM0.keep E hfA
 have KM := hMA.cells
 have hne0 : K.mb < w.heap.size := hM0.lt (mem_mcB.2 (.inl rfl))
 replace hvc := Lib.hid hvc
 replace hM0 := Lib.hid hM0
 replace hMA := Lib.hid hMA
 cases hlk : K.look with
 | false =>
  rw [hlk] at KM
  simp only [Bool.false_and, Bool.false_eq_true, if_false]
  go_enter Tryz.func40, Tryz.ntmps40
  go_wp2_with fail
  rw [← hwA]
  replace hwA := Lib.hid hwA
  (refine wp_region_fr (X := No) (by kernel_rfl) (by kernel_rfl) ?_)
  (repeat (first | (go_big_quiet_skip; (try simp only [Act.put, List.setIfInBounds_toArray, List.set_cons_zero, List.set_cons_succ])) | (go_big_quiet_want; (apply Exists.intro; refine ⟨fun W hW => ?_, ?_⟩); (focus (go_simp; (try simp only [↓IntWalk.iteOmega]); (try simp only [reduceIte]); first | done | exact rfl | exact ⟨trivial, rfl⟩ | exact ⟨rfl, rfl⟩ | fail)); go_big_quiet_on; (try simp only [Act.put, List.setIfInBounds_toArray, List.set_cons_zero, List.set_cons_succ])))); refine wpQuiet_nil ?_
  intro w3 hf3
  have hf3b : Fr (fun b => b = K.bl) wA w3 := hf3.of0
  have hl3 : Lg w3 K.l K.bl (n + 34) K.p := ((hlg.keep hfA).keep hf3).mono (by omega)
  clear hf3 KM z3 zl
  go_wp2_with fail
  have hM3 : McS K (n + 34) s m w3 := (hM0.out.keep E hfA).lodge E hl3 hf3b
  have B3 := B0.keepX hf3b (by omega)
  obtain ⟨mcs, ⟨va, vcd, vmp, rfl, _, hretn, hA1, hA2, hA3⟩, HMv⟩ := method_valX (E.lodgeX hM3.anchor) hh hs ha
  have hcode := hA2.back hM3.anchor
  obtain ⟨Aa, ca, rfl, _, hal2⟩ := hA1.form
  obtain ⟨Ad, cd, rfl, _, _⟩ := hA2.form
  obtain ⟨Ap, cp, rfl, _, _⟩ := hA3.form
  have hMth : Hid (mthOf K.p ⟨⟨kk, nm⟩, a⟩ = (clsAt K.p ⟨kk, nm⟩).methods[a]) := Lib.hid (mthOf_at ha)
  generalize hMm : (clsAt K.p ⟨kk, nm⟩).methods[a] = M at *
  have hfw3 : Fr (fun b => b = K.bl) w w3 := (hfA.of0).trans hf3b (fun _ _ h => h)
  have KM3 := hM3.cells
  have K3 := B3.r3
  replace hMm := Lib.hid hMm
  replace hM3 := Lib.hid hM3
  replace hcode := Lib.hid hcode
  replace hretn := Lib.hid hretn
  obtain ⟨i0, hi, hz0, hz1, hz2⟩ := info_parts info_kndM
  replace hi := Lib.hid hi
  replace hz0 := Lib.hid hz0
  replace hz1 := Lib.hid hz1
  replace hz2 := Lib.hid hz2
  refine wp_region_monR 7 37 [mV (.pointer (some ⟨K.mb, 0, none⟩)), mV (.pointer (some ⟨K.mb, 0, none⟩)), mV (.pointer (some ⟨K.mb, 0, none⟩)), mV (.pointer (some ⟨K.l, 0, none⟩)), mV (.agg #[.int .i64 (kk : Int), .string nm, .int .i64 (a : Int)]), mV (.agg #[.string M.name, .slice Aa M.args.length ca, .int .i64 M.ret.kind, .string M.ret.name, .int .i64 M.locals, .int .i64 M.stack, .slice Ad M.code.length cd, .slice Ap M.maps.length cp]), mB 67 (#[.string ⟨#[]⟩, .slice none 0 0, .int .i64 0, .string ⟨#[]⟩, .int .i64 0, .int .i64 0, .slice none 0 0, .slice none 0 0]) w3.heap.size] (by kernel_rfl) (by kernel_rfl) (by simp) ?_ ?_
  ·refine hopC ?_ <| hopC ?_ <| hopC ?_ <| hopC ?_ <| hopC ?_ <| hopC ?_ <| hopC ?_ <| hopZ
   all_goals (intro a' W hW hoff hdep; have hbs := hW.size; have H0 := hoff 0 rfl; have H4 := hoff 4 rfl; refine nE rfl ?_)
   ·simp [execOp, Act.eval, H0, go_sem, givesUpon]; exact fr1 rfl
   ·have D31 : _ = _ := hdep 0 31 rfl; simp [execOp, Act.eval, D31, go_sem, givesUpon]; exact fr1 rfl
   ·have D32 : _ = _ := hdep 1 32 rfl; simp [execOp, Act.eval, D32, go_sem, givesUpon]; exact fr1 rfl
   ·have D33 : _ = _ := hdep 2 33 rfl; clear hoff hdep; simp [execOp, Act.eval, go_sem, givesUpon, *]; exact fr1 rfl
   ·clear hoff hdep; simp [execOp, Act.eval, go_sem, givesUpon, *]; exact fr1 rfl
   ·have D34 : _ = _ := hdep 3 34 rfl; have D35 : _ = _ := hdep 4 35 rfl; simp [Act.eval, D34, D35, go_sem, givesUpon]; exact (HMv _ hW).mono fun e w' h => ⟨_, h.1, h.2, rfl⟩
   ·simp [execOp, go_sem, givesUpon]; exact ⟨(Fr.refl _ _).alloc _, ⟨_, rfl, Bx.new_ rfl, hbs⟩, Nat.le_refl _⟩
  intro vs WR hWR hv hne
  obtain ⟨b6, e6, hb6, hl6⟩ := hv 6 (by omega)
  simp only [List.drop_succ_cons, List.drop_zero, putsR_B, putsR_V, putsR_0, Nat.zero_add, Nat.reduceAdd, e6]
  simp only [Act.put, List.setIfInBounds_toArray, List.set_cons_zero, List.set_cons_succ]
  clear e6 hv
  have hwl3 : w.heap.size < w3.heap.size := B3.lt
  have B0R := B3.keep hWR
  clear KM3 K3 HMv hne
  refine wpList_store_all rfl 67 (.tmp 7) (.tmp 36) rfl 8 (by kernel_rfl) b6 67 _ [.string M.name, .slice Aa M.args.length ca, .int .i64 M.ret.kind, .string M.ret.name, .int .i64 M.locals, .int .i64 M.stack, .slice Ad M.code.length cd, .slice Ap M.maps.length cp] rfl rfl hb6 rfl rfl (by simp [Value.oneCell']) ?_
  intro wB BB hfB
  have B0B := B0R.keepX hfB (by omega)
  have hlB := BB.lt
  obtain ⟨x0, x1, x2⟩ := B0B.c3
  have xl := B0B.lt
  obtain ⟨y0, y1, y2, y3, y4, y5, y6, y7⟩ := Bx.c8 BB
  obtain ⟨ba, oa, _, hAa, _, _, _⟩ := hA1.cells (k := 0) hargs
  subst hAa
  have hfC : Fr No wB (wB.alloc (.cells #[.int .i64 2, .string nm] 55)) := (Fr.refl No wB).alloc _
  have hlw3 : K.w0.heap.size ≤ w3.heap.size := Nat.le_trans hw0 (Nat.le_of_lt hwl3)
  have hA1C := ((hA1.keep (R' := KndC) hWR (fun _ h => h.elim) (fun _ _ _ h => h)).keep (R' := KndC) hfB (fun b hb => .inr (by omega)) (fun _ _ _ h => h)).keep (R' := KndC) hfC (fun _ h => h.elim) (fun _ _ _ h => h)
  have hnewT := Lib.hid (hA1C.newsW (C := kndC2) (by decide) kndC2_len (fun _ _ h => h.1))
  have hsmT := hA1C.knds
  have hrow0 : RowV (wB.alloc (.cells #[.int .i64 2, .string nm] 55)) 55 2 (.slice (some ⟨wB.heap.size, 0, none⟩) 1 1) 1 [.int .i64 2, .string nm] := RowV.newOne wB _ 2 [.int .i64 2, .string nm] rfl
  have hfw3B : Fr (fun b => w.heap.size ≤ b) w3 (wB.alloc (.cells #[.int .i64 2, .string nm] 55)) := ((hWR.of0 (X := fun b => w.heap.size ≤ b)).trans hfB (fun b hb e => by omega)).trans0 hfC
  have hlBC := hfC.size
  have hbB : w3.heap.size ≤ wB.heap.size := by have := hWR.size; have := hfB.size; omega
  replace BB := Lib.hid BB
  replace B0B := Lib.hid B0B
  replace hb6 := Lib.hid hb6
  replace hA1 := Lib.hid hA1
  replace hA1C := Lib.hid hA1C
  replace hal2 := Lib.hid hal2
  clear hWR
  go_wp2_with (at_builtin; (refine wpList_append_row _ rfl _ _ 65 rfl 55 i0 (.agg #[.int .i64 0, .string ⟨#[]⟩]) 2 24 Tryz.underlying65 hi.out hz0.out hz1.out hz2.out rfl (by decide) (.slice (some ⟨wB.heap.size, 0, none⟩) 1 1) 1 [.int .i64 2, .string nm] rfl hrow0 ⟨ba, oa, none⟩ M.args.length ca (M.args.flatMap kndC2) rfl (flatW_len kndC2_len M.args) hnewT.out (by intro u hu; obtain ⟨t, _, ht⟩ := List.mem_flatMap.1 hu; simp only [kndC2, List.mem_cons, List.not_mem_nil, or_false] at ht; rcases ht with rfl | rfl <;> rfl) hargs (by unfold maxLen; omega) (by omega) ?_); (intro g' cap' w4 hrowT hcapT hgfT horT))
  clear x0 x1 x2 xl y0 y1 y2 y3 y4 y5 y6 y7
  have hT : RowV w4 55 2 (.slice (some ⟨g', 0, none⟩) (1 + M.args.length) cap') ((⟨2, nm⟩ :: M.args).length) (((⟨2, nm⟩ : Knd) :: M.args).flatMap kndC2) := by
   have e1 : (((⟨2, nm⟩ : Knd) :: M.args).length) = 1 + M.args.length := by simp; omega
   have e2 : (((⟨2, nm⟩ : Knd) :: M.args).flatMap kndC2) = [.int .i64 2, .string nm] ++ M.args.flatMap kndC2 := rfl
   rw [e1, e2]
   exact hrowT
  have hg'n : wB.heap.size ≤ g' := by
   rcases horT with h9 | h9
   ·rw [rowBlk_some (by decide)] at h9
    have := Option.some.inj h9
    omega
   ·omega
  have hf34 : Fr (fun b => w.heap.size ≤ b) w3 w4 := hfw3B.trans hgfT (fun b hb e => by rw [rowBlk_some (by decide)] at e; have := Option.some.inj e; omega)
  have hfw4 : Fr (fun b => b = K.bl ∨ w.heap.size ≤ b) w w4 := (hfw3.mono (fun _ _ h => .inl h)).trans hf34 (fun b _ h => .inr h)
  have hM4 : McS K (n + 34) s m w4 := hM3.out.far E hf34 (fun b hb => ⟨by omega, fun hx => by have := hMlt.out b hx; omega⟩)
  have hgfTn : ∀ b, rowBlk (.slice (some ⟨wB.heap.size, 0, none⟩) 1 1) = some b → b = wB.heap.size := fun b e => by rw [rowBlk_some (by decide)] at e; exact (Option.some.inj e).symm
  have B04 := (B0B.out.keep hfC).keepX hgfT (fun e => by have := hgfTn _ e; have := B0B.out.lt; omega)
  have BM4 := (BB.out.keep hfC).keepX hgfT (fun e => by have := hgfTn _ e; have := hlB; omega)
  have hv4 : ValRow w4 (.slice (some ⟨gv, 0, none⟩) ys.length cv) ys := hv.keepB hfw4 (fun q hq hx => by
   have h9 := hvn q (mem_rowB.1 hq)
   have := RowV.ltB hv hq
   rcases hx with hx | hx <;> omega)
  have hTsz : ∀ x ∈ (⟨2, nm⟩ :: M.args : List Knd), x.name.size ≤ maxLen := fun x hx => by
   rcases List.mem_cons.1 hx with rfl | hx
   ·exact hs
   ·exact hsmT x hx
  obtain ⟨T, hTe⟩ : ∃ T, T = ((⟨2, nm⟩ : Knd) :: M.args) := ⟨_, rfl⟩
  rw [← hTe] at hT hTsz
  have hTl : T.length = 1 + M.args.length := by rw [hTe]; simp; omega
  have HH := Lib.hid (fun (j : Nat) (hj : j < ys.length) (hjT : j < T.length) W (hW : Fr No w4 W) => menter_type (hM4.keep E hW) (k := (kk : Int)) (x := ys[j]) (t := T[j]) (hvr _ (List.getElem_mem hj)) (hTsz _ (List.getElem_mem hjT)))
  have KV := Lib.hid (fun (j : Nat) (hj : j < ys.length) => (hv4.at2 hj).2.2.2)
  have KT := Lib.hid (fun (j : Nat) (hj : j < T.length) => knd_at hT (hTl.symm) hj)
  have hcv := (hv4.at2 (j := 0) hv0).2
  have hI0 : Hid (Fr No w4 w4 ∧ ((ys.zip T).take 0).all (fun x => hasB K.p (kk : Int) s.heap x.1 x.2) = true) := Lib.hid ⟨Fr.refl _ _, rfl⟩
  replace hv4 := Lib.hid hv4
  replace hT := Lib.hid hT
  replace hM4 := Lib.hid hM4
  replace B04 := Lib.hid B04
  replace BM4 := Lib.hid BM4
  replace hTe := Lib.hid hTe
  replace hcv := Lib.hid hcv
  clear hrowT hrow0 hgfT horT hnewT hfw3B hM3 hf34 hgfTn
  go_loopw [47] (fun i wr => ∃ j : Nat, j ≤ ys.length ∧ i = .int .i64 (j : Int) ∧ Hid (Fr No w4 wr ∧ ((ys.zip T).take j).all (fun x => hasB K.p (kk : Int) s.heap x.1 x.2) = true)) (fun i _ => ys.length - (intOf i).toNat)
  case atStart => exact ⟨0, Nat.zero_le _, rfl, hI0⟩
  case round =>
   clear hI0
   obtain ⟨j, hj, rfl, hI⟩ := hrel
   obtain ⟨hfr, hall⟩ := hI.out
   clear hI
   replace hall := Lib.hid hall
   have hzl : (ys.zip T).length = ys.length := by rw [List.length_zip]; omega
   by_cases hlt : j < ys.length
   ·have hjT : j < T.length := by omega
    have HHj := fun W (hW : Fr No wr W) => HH.out j hlt hjT W (hfr.trans0 hW)
    have KVj := fun W (hW : Fr No wr W) => KV.out j hlt W (hfr.trans0 hW)
    obtain ⟨t1, t2, KTj0⟩ := KT.out j hjT
    have KTj := fun W (hW : Fr No wr W) => KTj0 W (hfr.trans0 hW)
    have hstep := allB_step (f := fun x : Val × Knd => hasB K.p (kk : Int) s.heap x.1 x.2) (xs := ys.zip T) (k := j) (by omega) hall.out
    have hnot := allB_no (f := fun x : Val × Knd => hasB K.p (kk : Int) s.heap x.1 x.2) (xs := ys.zip T) (k := j) (by omega)
    rw [List.getElem_zip] at hstep hnot
    dsimp only at hstep hnot
    have KMr := (hM4.out.keep E hfr).cells
    have K0r := fun W (hW : Fr No wr W) => (B04.out.keep (hfr.trans0 hW)).c3
    have K0l := fun W (hW : Fr No wr W) => (B04.out.keep (hfr.trans0 hW)).lt
    obtain ⟨v0, v1, vf, vl⟩ := KVj wr (Fr.refl _ _)
    have hadd : IntKind.i64.wrap ((j : Int) + 1) = ((j + 1 : Nat) : Int) := by rw [IntWalk.i64_in _ (by omega)]; simp
    obtain ⟨hcv1, hcv2⟩ := hcv.out
    unfold maxLen at hcv2 t2
    have hTl2 := Lib.hid hTl
    generalize T[j] = ty at *
    generalize ys[j] = x at *
    obtain ⟨xk, xn⟩ := x
    obtain ⟨tk, tn⟩ := ty
    dsimp only at *
    generalize hasB K.p (kk : Int) s.heap ⟨xk, xn⟩ ⟨tk, tn⟩ = bv at *
    replace hadd := Lib.hid hadd
    clear KTj0 KV KT HH hTl hzl
    cases bv
    all_goals
     go_wp2_with fail
     obtain ⟨wD, hwD⟩ : ∃ wD, wD = wr.alloc (.cells #[.int .i64 xk, .int .i64 xn] 40) := ⟨_, rfl⟩
     rw [← hwD]
     have hfD : Fr No wr wD := hwD ▸ (Fr.refl No wr).alloc _
     have KX := (hwD ▸ Bx.new_ rfl : Bx wD wr.heap.size 40 #[.int .i64 xk, .int .i64 xn]).r2
     have HHD := fun W (hW : Fr No wD W) => HHj W (hfD.trans0 hW)
     have KTD := fun W (hW : Fr No wD W) => KTj W (hfD.trans0 hW)
     have KMD := fun W (hW : Fr No wD W) => KMr W (hfD.trans0 hW)
     have K0D := fun W (hW : Fr No wD W) => K0r W (hfD.trans0 hW)
     have K0Dl := fun W (hW : Fr No wD W) => K0l W (hfD.trans0 hW)
     replace hwD := Lib.hid hwD
     clear HHj KTj KMr K0r K0l KVj v0 v1 vf vl
     (refine wp_region_fr (X := No) (by kernel_rfl) (by kernel_rfl) ?_)
     (repeat (first | (go_big_quiet_skip; (try simp only [Act.put, List.setIfInBounds_toArray, List.set_cons_zero, List.set_cons_succ])) | (go_big_quiet_want; (apply Exists.intro; refine ⟨fun W hW => ?_, ?_⟩); (focus (go_simp; (try simp only [↓IntWalk.iteOmega]); (try simp only [reduceIte]); first | done | exact rfl | exact ⟨trivial, rfl⟩ | exact ⟨rfl, rfl⟩ | (go_at_call 79; exact (HHD W hW).mono (fun _ _ h => ⟨h.1, hW.trans0 h.2⟩)))); go_big_quiet_on; (try simp only [Act.put, List.setIfInBounds_toArray, List.set_cons_zero, List.set_cons_succ])))); refine wpQuiet_nil ?_
     intro wE hfE
     clear HHD KTD KMD K0D K0Dl KX
    ·go_wp2_with fail
     go_ret
     have hf4E := hfr.trans0 (hfD.trans0 hfE)
     have hR := hRES.out
     have htb : typesB K.p ⟨⟨kk, nm⟩, a⟩ s.heap ys = false := by
      unfold typesB
      rw [hMth.out, ← hTe.out]
      exact hnot (by first | rfl | trivial)
     rw [htb] at hR
     rw [hR]
     exact ⟨rfl, ((hM4.out.keep E hf4E).ends hgo 10 (by decide) (fun _ h => .inl h) (Fr.refl _ _)).then (fun _ h => .inl h) ((hfw4.trans0 hf4E).mono (fun b hb hx => hx.imp id (fun h => absurd h (by omega))))⟩
    ·go_wp2_with fail
     exact ⟨⟨j + 1, by omega, by simp, Lib.hid ⟨hfr.trans0 (hfD.trans0 hfE), hstep (by first | rfl | trivial)⟩⟩, by simp [intOf]; omega⟩
   ·obtain rfl : j = ys.length := by omega
    have hallT : typesB K.p ⟨⟨kk, nm⟩, a⟩ s.heap ys = true := by
     unfold typesB
     rw [hMth.out, ← hTe.out]
     exact allB_yes (by omega) hall.out
    have hR := hRES.out
    rw [hallT] at hR
    simp only [if_true] at hR
    replace hR := Lib.hid hR
    clear hRES
    obtain ⟨N, hN⟩ : ∃ N : Nat, M.locals = (N : Int) := ⟨M.locals.toNat, by omega⟩
    have hNl : M.locals.toNat = N := by omega
    have hN1 : 1 ≤ N ∧ N ≤ 6 ∧ ys.length ≤ N := by omega
    obtain ⟨MC, hMC⟩ : ∃ MC, MC = madeCells (Value.agg #[.int .i64 0, .int .i64 0]).cells (N * 2) := ⟨_, rfl⟩
    have hMCs : MC.size = N * 2 := by rw [hMC, size_madeCells]
    have hMCl : MC.toList = (List.replicate N noVal).flatMap valCells := by rw [hMC]; exact made_vals hN1.1 hN1.2.1
    have hmk : ∀ W, (Instr.makeSlice 102 (.int .i64 M.locals) (.int .i64 M.locals)).run Tryz.prog W = .ok (.slice (some ⟨W.heap.size, 0, none⟩) N N) (W.alloc (.cells MC tVal)) := fun W => by
     rw [hMC, hN]; exact run_make_n (P := Tryz.prog) 102 tVal _ 2 16 Tryz.underlying102 info_val N (by omega) (by omega) W
    have BMr := BM4.out.keep hfr
    obtain ⟨y0, y1, y2, y3, y4, y5, y6, y7⟩ := Bx.c8 BMr
    have yl := BMr.lt
    have hfF : Fr No wr (wr.alloc (.cells MC tVal)) := (Fr.refl No wr).alloc _
    have BF : Bx (wr.alloc (.cells MC tVal)) wr.heap.size tVal MC := Bx.new_ rfl
    have hvF : Sl No (wr.alloc (.cells MC tVal)) 2 ValC (.slice (some ⟨gv, 0, none⟩) ys.length cv) ys := (ValRow.sl (X := No) (hv4.out.keep0 (hfr.trans0 hfF)) (fun _ _ h => h))
    have hsrcV := Lib.hid (hvF.newsW (C := valCells) (by decide) valCells_len (fun _ _ h => h))
    have hlenV := flatW_len valCells_len ys
    have hNM := Lib.hid (And.intro hN hNl)
    have hMC3 := Lib.hid (And.intro hMC hMCl)
    have hcvB := hcv.out
    unfold maxLen at hcvB
    replace hMth := hMth
    clear hN hNl hMC hMCl hallT hzl hall hj KV KT HH
    replace BMr := Lib.hid BMr
    go_wp2_with ((refine wpList_copy_wide rfl (.tmp 74) (.tmp 75) 102 102 rfl tVal 2 Tryz.underlying102 (by kernel_rfl) wr.heap.size N N ⟨gv, 0, none⟩ ys.length cv rfl rfl hN1.2.2 MC tVal BF (ys.flatMap valCells) hlenV hsrcV.out (by omega) (by intro u hu; obtain ⟨t, _, ht⟩ := List.mem_flatMap.1 hu; simp only [valCells, List.mem_cons, List.not_mem_nil, or_false] at ht; rcases ht with rfl | rfl <;> rfl) ?_); (intro wG hBG hfG))
    clear y0 y1 y2 y3 y4 y5 y6 y7 yl hmk
    have hvG : ValRow wG (.slice (some ⟨wr.heap.size, 0, none⟩) N N) (ys ++ List.replicate (N - ys.length) noVal) := by
     have e1 : (ys ++ List.replicate (N - ys.length) noVal).length = N := by simp; omega
     have e2 : List.replicate N noVal = List.replicate ys.length noVal ++ List.replicate (N - ys.length) noVal := by rw [List.replicate_append_replicate]; congr 1; omega
     have e3 : MC.toList.drop (ys.flatMap valCells).length = (List.replicate (N - ys.length) noVal).flatMap valCells := by
      have hz := flatW_len valCells_len (List.replicate ys.length noVal)
      rw [List.length_replicate] at hz
      rw [hMC3.out.2, e2, List.flatMap_append, hlenV, ← hz, List.drop_left]
     refine .inl ⟨by rw [flatW_len valCells_len], .inr ⟨wr.heap.size, N, _, by rw [e1], Nat.zero_le _, hBG, by rw [e1]; exact Nat.le_refl _, by unfold maxLen; omega, ?_, ?_⟩⟩
     ·simp only [List.size_toArray, List.length_append, List.length_drop, Array.length_toList, hMCs]
      omega
     ·rw [e3, e1, ← List.flatMap_append]
      have := flatW_len valCells_len (ys ++ List.replicate (N - ys.length) noVal)
      rw [e1] at this
      rw [← this]
      show List.take _ (List.flatMap valCells (ys ++ List.replicate (N - ys.length) noVal)) = _
      exact List.take_length
    have hgr : rowBlk (.slice (some ⟨wr.heap.size, 0, none⟩) N N) = some wr.heap.size := rowBlk_some (by omega)
    have hwr4 := hfr.size
    have hlw4 : w.heap.size < w4.heap.size := B04.out.lt
    have hfwG : Fr (fun b => b = K.bl ∨ w.heap.size ≤ b) w wG := ((hfw4.trans0 hfr).trans0 hfF).trans hfG (fun b _ e => .inr (by omega))
    have hMG : McS K (n + 34) s m wG := (hM4.out.keep E (hfr.trans0 hfF)).far E hfG (fun b hb => ⟨by omega, fun hx => by have := hMlt.out b hx; omega⟩)
    have KMG := hMG.cells
    rw [hvc.out] at KMG
    have B0G := ((B04.out.keep (hfr.trans0 hfF)).keepX hfG (by omega))
    have BMG := ((BMr.out.keep hfF).keepX hfG (by have := BMr.out.lt; omega))
    have K0G := fun W (hW : Fr No wG W) => (B0G.keep hW).c3
    have K0Gl := fun W (hW : Fr No wG W) => (B0G.keep hW).lt
    have KBG := fun W (hW : Fr No wG W) => Bx.c8 (BMG.keep hW)
    have KBGl := fun W (hW : Fr No wG W) => (BMG.keep hW).lt
    replace hBG := Lib.hid hBG
    replace hvG := Lib.hid hvG
    replace hMG := Lib.hid hMG
    replace B0G := Lib.hid B0G
    replace BMG := Lib.hid BMG
    replace hvF := Lib.hid hvF
    replace hlenV := Lib.hid hlenV
    obtain ⟨j0, hj0, hk0, hk1, hk2⟩ := info_parts info_ptr
    replace hj0 := Lib.hid hj0
    replace hk0 := Lib.hid hk0
    replace hk1 := Lib.hid hk1
    replace hk2 := Lib.hid hk2
    try simp only [Act.put, List.setIfInBounds_toArray, List.set_cons_zero, List.set_cons_succ]
    try go_wp2_with fail
    refine wp_region_monR 14 91 [mE (mV (.pointer (some ⟨K.mb, 0, none⟩))), mV (.pointer (some ⟨K.mb, 0, none⟩)), mV (.pointer (some ⟨K.mb, 0, none⟩)), mV (.pointer (some ⟨K.mb, 3, none⟩)), mV (.slice Ac s.frames.length cc), mV (.agg #[.int .i64 (kk : Int), .string nm, .int .i64 (a : Int)]), mV (.agg #[.string M.name, .slice (some ⟨ba, oa, none⟩) M.args.length ca, .int .i64 M.ret.kind, .string M.ret.name, .int .i64 M.locals, .int .i64 M.stack, .slice Ad M.code.length cd, .slice Ap M.maps.length cp]), mV (.slice (some ⟨wr.heap.size, 0, none⟩) N N), mV (.pointer (some ⟨b6, 5, none⟩)), mV (.int .i64 M.stack), mV (.agg #[.slice none 0 0, .int .i64 M.stack]), mV (.agg #[.int .i64 (kk : Int), .string nm, .int .i64 (a : Int), .string M.name, .slice (some ⟨ba, oa, none⟩) M.args.length ca, .int .i64 M.ret.kind, .string M.ret.name, .int .i64 M.locals, .int .i64 M.stack, .slice Ad M.code.length cd, .slice Ap M.maps.length cp, .int .i64 0, .slice (some ⟨wr.heap.size, 0, none⟩) N N, .slice none 0 0, .int .i64 M.stack]), mB 118 (#[.int .i64 (kk : Int), .string nm, .int .i64 (a : Int), .string M.name, .slice (some ⟨ba, oa, none⟩) M.args.length ca, .int .i64 M.ret.kind, .string M.ret.name, .int .i64 M.locals, .int .i64 M.stack, .slice Ad M.code.length cd, .slice Ap M.maps.length cp, .int .i64 0, .slice (some ⟨wr.heap.size, 0, none⟩) N N, .slice none 0 0, .int .i64 M.stack]) wG.heap.size, mC (ptrP wG.heap.size #[.int .i64 (kk : Int), .string nm, .int .i64 (a : Int), .string M.name, .slice (some ⟨ba, oa, none⟩) M.args.length ca, .int .i64 M.ret.kind, .string M.ret.name, .int .i64 M.locals, .int .i64 M.stack, .slice Ad M.code.length cd, .slice Ap M.maps.length cp, .int .i64 0, .slice (some ⟨wr.heap.size, 0, none⟩) N N, .slice none 0 0, .int .i64 M.stack]) (ptrP.mono)] (by kernel_rfl) (by kernel_rfl) (by simp) ?_ ?_
    ·refine hopC ?_ <| hopC ?_ <| hopC ?_ <| hopC ?_ <| hopC ?_ <| hopC ?_ <| hopC ?_ <| hopC ?_ <| hopC ?_ <| hopC ?_ <| hopC ?_ <| hopC ?_ <| hopC ?_ <| hopC ?_ <| hopZ
     all_goals (intro a' W hW hoff hdep; have hbs := hW.size; have H0 := hoff 0 rfl; have H4 := hoff 4 rfl; have H7 := hoff 7 rfl; have H11 := hoff 11 rfl)
     ·exact yE rfl ⟨.pointer (some ⟨K.mb, 0, none⟩), fun W => by simp [execOp, Act.eval, H0, go_sem], rfl, rfl⟩
     ·refine nE rfl ?_; simp [execOp, Act.eval, H0, go_sem, givesUpon]; exact fr1 rfl
     ·have D78 : _ = _ := hdep 1 78 rfl; refine nE rfl ?_; simp [execOp, Act.eval, D78, go_sem, givesUpon]; exact fr1 rfl
     ·have D79 : _ = _ := hdep 2 79 rfl; refine nE rfl ?_; simp [execOp, Act.eval, D79, go_sem, givesUpon]; exact fr1 rfl
     ·have D80 : _ = _ := hdep 3 80 rfl; refine nE rfl ?_; clear hoff hdep; simp [execOp, Act.eval, go_sem, givesUpon, *]; exact fr1 rfl
     ·refine nE rfl ?_; clear hoff hdep; simp [execOp, Act.eval, go_sem, givesUpon, *]; exact fr1 rfl
     ·refine nE rfl ?_; clear hoff hdep; simp [execOp, Act.eval, go_sem, givesUpon, *]; exact fr1 rfl
     ·refine nE rfl ?_; simp [execOp, Act.eval, H11, go_sem, givesUpon]; exact fr1 rfl
     ·refine nE rfl ?_; simp [execOp, Act.eval, H7, go_sem, givesUpon]; exact fr1 rfl
     ·have D85 : _ = _ := hdep 8 85 rfl; refine nE rfl ?_; clear hoff hdep; simp [execOp, Act.eval, go_sem, givesUpon, *]; exact fr1 rfl
     ·have D86 : _ = _ := hdep 9 86 rfl; simp at D86; refine nE rfl ?_; simp [execOp, Act.eval, D86, go_sem, givesUpon]; exact fr1 rfl
     ·have D82 : _ = _ := hdep 5 82 rfl; have D83 : _ = _ := hdep 6 83 rfl; have D84 : _ = _ := hdep 7 84 rfl; have D87 : _ = _ := hdep 10 87 rfl; simp at D82 D83 D84 D87; refine nE rfl ?_; simp [execOp, Act.eval, D82, D83, D84, D87, go_sem, givesUpon]; exact fr1 rfl
     ·have D88 : _ = _ := hdep 11 88 rfl; refine nE rfl ?_; simp [execOp, D88, go_sem, givesUpon]; exact ⟨(Fr.refl _ _).alloc _, ⟨_, rfl, Bx.new_ rfl, hbs⟩, Nat.le_refl _⟩
     ·obtain ⟨b, D89, hb, hl⟩ : (atB 118 #[.int .i64 (kk : Int), .string nm, .int .i64 (a : Int), .string M.name, .slice (some ⟨ba, oa, none⟩) M.args.length ca, .int .i64 M.ret.kind, .string M.ret.name, .int .i64 M.locals, .int .i64 M.stack, .slice Ad M.code.length cd, .slice Ap M.maps.length cp, .int .i64 0, .slice (some ⟨wr.heap.size, 0, none⟩) N N, .slice none 0 0, .int .i64 M.stack] wG.heap.size) _ W := hdep 12 89 rfl; simp at D89; refine nE rfl ?_; simp [execOp, Act.eval, D89, go_sem, givesUpon]; exact ⟨(Fr.refl _ _).alloc _, _, b, rfl, Bx.new_ rfl, hbs, hb.alloc _, hl, by have := hb.lt; omega⟩
    intro vs WR hWR hv hne
    obtain ⟨b12, e12, hb12, hl12⟩ := hv 12 (by omega)
    obtain ⟨gpR13, bpR13, e13, hgpR13, hglR13, hbpR13, hbl9R13, hgbR13⟩ := hv 13 (by omega)
    simp only [List.drop_succ_cons, List.drop_zero, putsR_B, putsR_C, putsR_EV, putsR_V, putsR_0, Nat.zero_add, Nat.reduceAdd, e12, e13]
    simp only [Act.put, List.setIfInBounds_toArray, List.set_cons_zero, List.set_cons_succ]
    clear e12 e13 hv
    have hR0 := hMG.out.keep E hWR
    have hwGs : wr.heap.size < wG.heap.size := hBG.out.lt
    have hk0m : ∀ q, rowBlk (.slice (some ⟨wr.heap.size, 0, none⟩) N N) = some q → q = wr.heap.size := fun q hq => by rw [hgr] at hq; exact (Option.some.inj hq).symm
    have hCR : CalR K WR ⟨bpR13, .slice (some ⟨ba, oa, none⟩) M.args.length ca, .slice Ad M.code.length cd, .slice Ap M.maps.length cp, .slice (some ⟨wr.heap.size, 0, none⟩) N N, .slice none 0 0⟩ ⟨⟨⟨kk, nm⟩, a⟩, 0, ys ++ List.replicate (N - ys.length) noVal, []⟩ := by
     refine ⟨?_, hvG.out.keep0 hWR, RowV.nil _ _ _, ?_, hs, ?_⟩
     ·rw [hMth.out]; exact hbpR13
     ·rw [hMth.out]; exact hcode.out
     ·rw [hMth.out]; exact hretn.out
    have hkB : ∀ b ∈ (⟨bpR13, .slice (some ⟨ba, oa, none⟩) M.args.length ca, .slice Ad M.code.length cd, .slice Ap M.maps.length cp, .slice (some ⟨wr.heap.size, 0, none⟩) N N, .slice none 0 0⟩ : KC).B, w.heap.size ≤ b := fun b hb => by
     rcases KC.mem_B.1 hb with h9 | h9 | h9
     ·dsimp only at h9; omega
     ·have := hk0m _ (mem_rowB.1 h9); omega
     ·cases h9
    have hkn : ∀ b ∈ (⟨bpR13, .slice (some ⟨ba, oa, none⟩) M.args.length ca, .slice Ad M.code.length cd, .slice Ap M.maps.length cp, .slice (some ⟨wr.heap.size, 0, none⟩) N N, .slice none 0 0⟩ : KC).B, b ∉ mcB K m ∧ K.w0.heap.size ≤ b := fun b hb => ⟨fun hx => by have := hMlt.out b hx; have := hkB b hb; omega, by have := hkB b hb; omega⟩
    have hnd : (⟨bpR13, .slice (some ⟨ba, oa, none⟩) M.args.length ca, .slice Ad M.code.length cd, .slice Ap M.maps.length cp, .slice (some ⟨wr.heap.size, 0, none⟩) N N, .slice none 0 0⟩ : KC).B.Nodup := KC.nodup_iff.2 ⟨fun q hq => by have := hk0m _ hq; dsimp only; omega, (fun q hq => by cases hq), (fun q _ hq => by cases hq)⟩
    have hrowR : RowV WR tPtr 1 (.slice Ac s.frames.length cc) s.frames.length (m.kc.flatMap (calL K).C) := by
     have := hR0.crow
     rw [hvc.out] at this
     exact this
    have hsrcP := Lib.hid (Bx.news (cs := [Value.pointer (some ⟨bpR13, 0, none⟩)]) hgpR13)
    have hboxR := hR0.box
    have hneR : ∀ q, rowBlk (.slice Ac s.frames.length cc) = some q → q ≠ K.mb := fun q hq => hR0.out3.1 q (by rw [hvc.out]; exact rowB_c hq)
    have hfin := fun {g' cap' : Nat} {w3 : World} (hrow : RowV w3 tPtr 1 (.slice (some ⟨g', 0, none⟩) (s.frames.length + 1) cap') (s.frames.length + 1) (m.kc.flatMap (calL K).C ++ [.pointer (some ⟨bpR13, 0, none⟩)])) (hgf : Fr (fun b => rowBlk (.slice Ac s.frames.length cc) = some b) WR w3) (hor : rowBlk (.slice Ac s.frames.length cc) = some g' ∨ g' = WR.heap.size) (hcap : s.frames.length + 1 ≤ cap') =>
     hR0.newCall E hCR hkn hnd hrow (by rw [hvc.out]; exact hgf) (by rw [hvc.out]; exact hor) hcap
    have hfwR := Lib.hid (hfwG.trans0 hWR)
    have hkB2 := Lib.hid hkB
    have hWRs : Hid (w.heap.size ≤ WR.heap.size) := Lib.hid (by have := hWR.size; omega)
    clear KMG K0G K0Gl KBG KBGl hkB hkn hnd hCR hne hb12 hbpR13 hgpR13
    replace hR0 := Lib.hid hR0
    go_wp2_with (at_builtin; (refine wpList_append_row _ rfl _ _ 79 rfl tPtr j0 (.pointer none) 1 8 Tryz.underlying79 hj0.out hk0.out hk1.out hk2.out rfl (by decide) (.slice Ac s.frames.length cc) s.frames.length (m.kc.flatMap (calL K).C) rfl hrowR ⟨gpR13, 0, none⟩ 1 1 [Value.pointer (some ⟨bpR13, 0, none⟩)] rfl rfl hsrcP.out (by simp [Value.oneCell']) (by decide) (by unfold maxLen; omega) (by omega) ?_); (intro g2 cap2 w6 hrow6 hcap6 hgf6 hor6); have hbx := hboxR.keepX hgf6 (fun e => hneR _ e rfl); (obtain ⟨m3, hS3, hB3, hf3⟩ := hfin hrow6 hgf6 hor6 hcap6); have z3 : w6.cell? ⟨K.mb, 3, none⟩ = some m.vc := hbx.cell 3; have zf := (fun i => hbx.frozen i); have zl := hbx.lt; replace hf3 := Lib.hid hf3; replace hB3 := Lib.hid hB3; replace hS3 := Lib.hid hS3)
    go_ret
    have hS3 := hS3.out
    rw [hgo] at hS3
    rw [hR.out, hNM.out.2]
    refine ⟨rfl, _, m3, hS3, fun _ => rfl, fun b hb => ?_, ?_⟩
    ·rcases hB3.out b hb with h9 | h9 | h9
     ·exact .inl h9
     ·exact .inr (hkB2.out b h9)
     ·exact .inr (Nat.le_trans hWRs.out h9)
    ·exact (hfwR.out.mono (fun b hb hx => hx.imp id (fun h => absurd h (by omega)))).trans hf3.out (fun b _ hx => .inr hx)
 | true =>
  rw [hlk] at KM
  simp only [Bool.true_and]
  have hG : ∀ j W, rgtC K n wA j W → Fr (fun x => x = K.bl) wA W := fun _ _ h => h.1
  have hGs : ∀ W, Fr (fun x => x = K.bl) wA W → wA.heap.size ≤ W.heap.size := fun _ h => h.size
  have KMA : ∀ W, Fr (fun x => x = K.bl) wA W → W.cell? ⟨K.mb, 0, none⟩ = some (.pointer (some ⟨K.l, 0, none⟩)) ∧ W.cell? ⟨K.mb, 1, none⟩ = some (.bool true) ∧ K.mb < W.heap.size := fun W hW => by
   have := hMA.out.box.keepX hW (by omega)
   exact ⟨this.cell 0, by rw [← hlk]; exact this.cell 1, this.lt⟩
  have K0 : ∀ W, Fr (fun x => x = K.bl) wA W → W.cell? ⟨w.heap.size, 0, none⟩ = some (.int .i64 (kk : Int)) ∧ W.cell? ⟨w.heap.size, 1, none⟩ = some (.string nm) ∧ W.cell? ⟨w.heap.size, 2, none⟩ = some (.int .i64 (a : Int)) ∧ w.heap.size < W.heap.size := fun W hW => by
   have := B0.keepX hW (by omega)
   exact ⟨this.c3.1, this.c3.2.1, this.c3.2.2, this.lt⟩
  have h00 : rgtC K n wA 0 wA.drew := ⟨(Fr.refl _ wA).drew, (hlg.keep hfA).keep ((Fr.refl No wA).drew)⟩
  generalize hrb : okM K.p ⟨kk, nm⟩ (clsAt K.p ⟨kk, nm⟩).methods[a] = rb at *
  clear hrb KM
  cases rb
  all_goals
   simp only [Bool.not_false, Bool.not_true, if_true, Bool.false_eq_true, if_false]
   go_enter Tryz.func40, Tryz.ntmps40
   go_wp2_with fail
   rw [← hwA]
   replace hwA := Lib.hid hwA
  ·skip
   refine wp_region_allL [isV (.pointer (some ⟨K.mb, 0, none⟩)), isV (.pointer (some ⟨K.mb, 0, none⟩)), isV (.pointer (some ⟨K.mb, 1, none⟩)), isV (.bool true), isV (.bool true), isV (.pointer (some ⟨K.mb, 0, none⟩)), isV (.pointer (some ⟨K.mb, 0, none⟩)), isV (.pointer (some ⟨K.mb, 0, none⟩)), isV (.pointer (some ⟨K.l, 0, none⟩)), isV (.agg #[.int .i64 (kk : Int), .string nm, .int .i64 (a : Int)]), isV (.bool false), isV (.bool true), isV (.bool true)] [false, false, false, false, false, false, false, false, false, false, true, false, false] [true, true, true, true, true, true, true, true, true, true, true, true, true] 1 (rgtC K n wA) (fun W W' => Fr (fun x => x = K.bl) W W') (by kernel_rfl) (by kernel_rfl) ?_ ?_ ?_ ?_ ?_ (by decide) ?_ ?_ ?_ ?_ ?_
   ·intro o ho d hd; simp only [List.mem_cons, List.not_mem_nil, or_false] at ho; rcases ho with rfl | rfl | rfl | rfl | rfl | rfl | rfl | rfl | rfl | rfl | rfl | rfl | rfl <;> (cases hd <;> simp)
   ·intro x hx
    simp only [List.mem_cons, List.not_mem_nil, or_false] at hx
    rcases hx with rfl | rfl | rfl | rfl | rfl | rfl | rfl | rfl | rfl | rfl | rfl | rfl | rfl
    ·exact isV_mono _
    ·exact isV_mono _
    ·exact isV_mono _
    ·exact isV_mono _
    ·exact isV_mono _
    ·exact isV_mono _
    ·exact isV_mono _
    ·exact isV_mono _
    ·exact isV_mono _
    ·exact isV_mono _
    ·exact isV_mono _
    ·exact isV_mono _
    ·exact isV_mono _
   ·intro x hx v W W' h hs
    simp only [List.mem_cons, List.not_mem_nil, or_false] at hx
    rcases hx with rfl | rfl | rfl | rfl | rfl | rfl | rfl | rfl | rfl | rfl | rfl | rfl | rfl
    ·exact h
    ·exact h
    ·exact h
    ·exact h
    ·exact h
    ·exact h
    ·exact h
    ·exact h
    ·exact h
    ·exact h
    ·exact h
    ·exact h
    ·exact h
   ·exact fun _ _ _ h hf => ⟨h.1.trans0 hf, h.2.keep hf⟩
   ·intro k o ho
    rcases k with _ | _ | _ | _ | _ | _ | _ | _ | _ | _ | _ | _ | _ | k
    all_goals (first | (simp at ho; done) | skip)
    all_goals simp only [List.getElem?_cons_zero, List.getElem?_cons_succ, Option.some.injEq] at ho
    all_goals subst ho
    all_goals refine ⟨fun h => ?_, fun g b h v W hv => ?_⟩
    all_goals first | rfl | (cases h; done) | (cases h; obtain rfl : v = Value.bool _ := hv; rfl) | (cases h; obtain rfl : v = undef := hv; rfl)
   ·intro k hk h W; exfalso; revert h; revert hk; revert k; decide
   ·exact h00
   ·intro k o ho hu hg a' W jc hjc hW0 hoff hdep
    have hW := hG jc _ hW0
    have hbs := hGs _ hW
    have H0 := hoff 0 (by simp)
    have H4 := hoff 4 (by simp)
    simp only [Act.eval] at H0 H4
    rcases k with _ | _ | _ | _ | _ | _ | _ | _ | _ | _ | _ | _ | _ | k
    all_goals (first | (simp at ho; done) | skip)
    all_goals (first | (exact absurd hu (by decide)) | skip)
    all_goals (first | (exact absurd hg (by decide)) | skip)
    all_goals simp only [List.getElem?_cons_zero, List.getElem?_cons_succ, Option.some.injEq] at ho
    all_goals subst ho
    ·unfold opGives
     simp [execOp, Act.eval, H0, go_sem, givesUpon]
     exact ⟨Fr.refl _ _, rfl⟩
    ·have D18 : a'.eval (.tmp 18) = .pointer (some ⟨K.mb, 0, none⟩) := hdep ⟨0, .data⟩ (by simp) rfl _ 18 rfl rfl
     simp only [Act.eval] at D18
     unfold opGives
     simp [execOp, Act.eval, D18, go_sem, givesUpon]
     exact ⟨Fr.refl _ _, rfl⟩
    ·have D19 : a'.eval (.tmp 19) = .pointer (some ⟨K.mb, 0, none⟩) := hdep ⟨1, .data⟩ (by simp) rfl _ 19 rfl rfl
     simp only [Act.eval] at D19
     unfold opGives
     simp [execOp, Act.eval, D19, go_sem, givesUpon]
     exact ⟨Fr.refl _ _, rfl⟩
    ·have D20 : a'.eval (.tmp 20) = .pointer (some ⟨K.mb, 1, none⟩) := hdep ⟨2, .data⟩ (by simp) rfl _ 20 rfl rfl
     simp only [Act.eval] at D20
     unfold opGives
     simp [execOp, Act.eval, go_sem, givesUpon, *]
     exact ⟨Fr.refl _ _, rfl⟩
    ·have D21 : a'.eval (.tmp 21) = .bool true := hdep ⟨3, .data⟩ (by simp) rfl _ 21 rfl rfl
     simp only [Act.eval] at D21
     unfold opGives
     simp [execOp, Act.eval, D21, go_sem, givesUpon]
     exact ⟨Fr.refl _ _, rfl⟩
    ·unfold opGives
     simp [execOp, Act.eval, H0, go_sem, givesUpon]
     exact ⟨Fr.refl _ _, rfl⟩
    ·have D23 : a'.eval (.tmp 23) = .pointer (some ⟨K.mb, 0, none⟩) := hdep ⟨5, .data⟩ (by simp) rfl _ 23 rfl rfl
     simp only [Act.eval] at D23
     unfold opGives
     simp [execOp, Act.eval, D23, go_sem, givesUpon]
     exact ⟨Fr.refl _ _, rfl⟩
    ·have D24 : a'.eval (.tmp 24) = .pointer (some ⟨K.mb, 0, none⟩) := hdep ⟨6, .data⟩ (by simp) rfl _ 24 rfl rfl
     simp only [Act.eval] at D24
     unfold opGives
     simp [execOp, Act.eval, D24, go_sem, givesUpon]
     exact ⟨Fr.refl _ _, rfl⟩
    ·have D25 : a'.eval (.tmp 25) = .pointer (some ⟨K.mb, 0, none⟩) := hdep ⟨7, .data⟩ (by simp) rfl _ 25 rfl rfl
     simp only [Act.eval] at D25
     unfold opGives
     simp [execOp, Act.eval, go_sem, givesUpon, *]
     exact ⟨Fr.refl _ _, rfl⟩
    ·unfold opGives
     simp [execOp, Act.eval, go_sem, givesUpon, *]
     exact ⟨Fr.refl _ _, rfl⟩
    ·have D28 : a'.eval (.tmp 28) = .bool false := hdep ⟨10, .data⟩ (by simp) rfl _ 28 rfl rfl
     simp only [Act.eval] at D28
     unfold opGives
     simp [execOp, Act.eval, D28, go_sem, givesUpon]
     exact ⟨Fr.refl _ _, rfl⟩
    ·have D22 : a'.eval (.tmp 22) = .bool true := hdep ⟨4, .data⟩ (by simp) rfl _ 22 rfl rfl
     have D29 : a'.eval (.tmp 29) = .bool true := hdep ⟨11, .data⟩ (by simp) rfl _ 29 rfl rfl
     simp only [Act.eval] at D22 D29
     unfold opGives
     simp [execOp, Act.eval, go_sem, givesUpon, D22, D29]
     exact ⟨Fr.refl _ _, rfl⟩
   ·intro k o ho hu a' W jc hjc hW0 hoff hdep
    have hW := hG jc _ hW0
    have hbs := hGs _ hW
    have H0 := hoff 0 (by simp)
    have H4 := hoff 4 (by simp)
    simp only [Act.eval] at H0 H4
    rcases k with _ | _ | _ | _ | _ | _ | _ | _ | _ | _ | _ | _ | _ | k
    all_goals (first | (simp at ho; done) | skip)
    all_goals (first | (exact absurd hu (by decide)) | skip)
    all_goals simp only [List.getElem?_cons_zero, List.getElem?_cons_succ, Option.some.injEq] at ho
    all_goals subst ho
    ·have D26 : a'.eval (.tmp 26) = .pointer (some ⟨K.l, 0, none⟩) := hdep ⟨8, .data⟩ (by simp) rfl _ 26 rfl rfl
     have D27 : a'.eval (.tmp 27) = .agg #[.int .i64 (kk : Int), .string nm, .int .i64 (a : Int)] := hdep ⟨9, .data⟩ (by simp) rfl _ 27 rfl rfl
     simp only [Act.eval] at D26 D27
     unfold opGives
     simp [Act.eval, D26, D27, go_sem, givesUpon]
     exact (HR _ W hW0.2 (by omega)).mono (fun e w' h => ⟨_, h.1, ⟨hW0.1.trans h.2.2 (fun _ _ h => h), h.2.1.mono (by omega)⟩, h.2.2, rfl⟩)
   intro vs WR hWR hv
   have e0 : vs 0 = _ := hv 0 (by decide)
   have e1 : vs 1 = _ := hv 1 (by decide)
   have e2 : vs 2 = _ := hv 2 (by decide)
   have e3 : vs 3 = _ := hv 3 (by decide)
   have e4 : vs 4 = _ := hv 4 (by decide)
   have e5 : vs 5 = _ := hv 5 (by decide)
   have e6 : vs 6 = _ := hv 6 (by decide)
   have e7 : vs 7 = _ := hv 7 (by decide)
   have e8 : vs 8 = _ := hv 8 (by decide)
   have e9 : vs 9 = _ := hv 9 (by decide)
   have e10 : vs 10 = _ := hv 10 (by decide)
   have e11 : vs 11 = _ := hv 11 (by decide)
   have e12 : vs 12 = _ := hv 12 (by decide)
   simp only [putsL, if_true, Nat.zero_add, Nat.reduceAdd, e0, e1, e2, e3, e4, e5, e6, e7, e8, e9, e10, e11, e12]
   simp only [Act.put, List.setIfInBounds_toArray, List.set_cons_zero, List.set_cons_succ]
   clear e0 e1 e2 e3 e4 e5 e6 e7 e8 e9 e10 e11 e12 hv
   clear KMA K0 hG hGs h00 HR z3 zl
   obtain ⟨hf3b, hl3⟩ := id hWR
   have hWR1 := Lib.hid hWR
   clear hWR
   go_wp2_with fail
   go_ret
   have hM3 := (hM0.out.keep E hfA).lodge E (hl3.mono (by omega) : Lg WR K.l K.bl (n + 34) K.p) hf3b
   exact ⟨rfl, (hM3.ends hgo 5 (by decide) (fun _ h => .inl h) (Fr.refl _ _)).then (fun _ h => .inl h) ((hfA.of0).trans hf3b (fun _ _ h => .inl h))⟩
  ·skip
   refine wp_region_allL [isV (.pointer (some ⟨K.mb, 0, none⟩)), isV (.pointer (some ⟨K.mb, 0, none⟩)), isV (.pointer (some ⟨K.mb, 1, none⟩)), isV (.bool true), isV (.bool true), isV (.pointer (some ⟨K.mb, 0, none⟩)), isV (.pointer (some ⟨K.mb, 0, none⟩)), isV (.pointer (some ⟨K.mb, 0, none⟩)), isV (.pointer (some ⟨K.l, 0, none⟩)), isV (.agg #[.int .i64 (kk : Int), .string nm, .int .i64 (a : Int)]), isV (.bool true), isV (.bool false), isV (.bool false)] [false, false, false, false, false, false, false, false, false, false, true, false, false] [true, true, true, true, true, true, true, true, true, true, true, true, true] 1 (rgtC K n wA) (fun W W' => Fr (fun x => x = K.bl) W W') (by kernel_rfl) (by kernel_rfl) ?_ ?_ ?_ ?_ ?_ (by decide) ?_ ?_ ?_ ?_ ?_
   ·intro o ho d hd; simp only [List.mem_cons, List.not_mem_nil, or_false] at ho; rcases ho with rfl | rfl | rfl | rfl | rfl | rfl | rfl | rfl | rfl | rfl | rfl | rfl | rfl <;> (cases hd <;> simp)
   ·intro x hx
    simp only [List.mem_cons, List.not_mem_nil, or_false] at hx
    rcases hx with rfl | rfl | rfl | rfl | rfl | rfl | rfl | rfl | rfl | rfl | rfl | rfl | rfl
    ·exact isV_mono _
    ·exact isV_mono _
    ·exact isV_mono _
    ·exact isV_mono _
    ·exact isV_mono _
    ·exact isV_mono _
    ·exact isV_mono _
    ·exact isV_mono _
    ·exact isV_mono _
    ·exact isV_mono _
    ·exact isV_mono _
    ·exact isV_mono _
    ·exact isV_mono _
   ·intro x hx v W W' h hs
    simp only [List.mem_cons, List.not_mem_nil, or_false] at hx
    rcases hx with rfl | rfl | rfl | rfl | rfl | rfl | rfl | rfl | rfl | rfl | rfl | rfl | rfl
    ·exact h
    ·exact h
    ·exact h
    ·exact h
    ·exact h
    ·exact h
    ·exact h
    ·exact h
    ·exact h
    ·exact h
    ·exact h
    ·exact h
    ·exact h
   ·exact fun _ _ _ h hf => ⟨h.1.trans0 hf, h.2.keep hf⟩
   ·intro k o ho
    rcases k with _ | _ | _ | _ | _ | _ | _ | _ | _ | _ | _ | _ | _ | k
    all_goals (first | (simp at ho; done) | skip)
    all_goals simp only [List.getElem?_cons_zero, List.getElem?_cons_succ, Option.some.injEq] at ho
    all_goals subst ho
    all_goals refine ⟨fun h => ?_, fun g b h v W hv => ?_⟩
    all_goals first | rfl | (cases h; done) | (cases h; obtain rfl : v = Value.bool _ := hv; rfl) | (cases h; obtain rfl : v = undef := hv; rfl)
   ·intro k hk h W; exfalso; revert h; revert hk; revert k; decide
   ·exact h00
   ·intro k o ho hu hg a' W jc hjc hW0 hoff hdep
    have hW := hG jc _ hW0
    have hbs := hGs _ hW
    have H0 := hoff 0 (by simp)
    have H4 := hoff 4 (by simp)
    simp only [Act.eval] at H0 H4
    rcases k with _ | _ | _ | _ | _ | _ | _ | _ | _ | _ | _ | _ | _ | k
    all_goals (first | (simp at ho; done) | skip)
    all_goals (first | (exact absurd hu (by decide)) | skip)
    all_goals (first | (exact absurd hg (by decide)) | skip)
    all_goals simp only [List.getElem?_cons_zero, List.getElem?_cons_succ, Option.some.injEq] at ho
    all_goals subst ho
    ·unfold opGives
     simp [execOp, Act.eval, H0, go_sem, givesUpon]
     exact ⟨Fr.refl _ _, rfl⟩
    ·have D18 : a'.eval (.tmp 18) = .pointer (some ⟨K.mb, 0, none⟩) := hdep ⟨0, .data⟩ (by simp) rfl _ 18 rfl rfl
     simp only [Act.eval] at D18
     unfold opGives
     simp [execOp, Act.eval, D18, go_sem, givesUpon]
     exact ⟨Fr.refl _ _, rfl⟩
    ·have D19 : a'.eval (.tmp 19) = .pointer (some ⟨K.mb, 0, none⟩) := hdep ⟨1, .data⟩ (by simp) rfl _ 19 rfl rfl
     simp only [Act.eval] at D19
     unfold opGives
     simp [execOp, Act.eval, D19, go_sem, givesUpon]
     exact ⟨Fr.refl _ _, rfl⟩
    ·have D20 : a'.eval (.tmp 20) = .pointer (some ⟨K.mb, 1, none⟩) := hdep ⟨2, .data⟩ (by simp) rfl _ 20 rfl rfl
     simp only [Act.eval] at D20
     unfold opGives
     simp [execOp, Act.eval, go_sem, givesUpon, *]
     exact ⟨Fr.refl _ _, rfl⟩
    ·have D21 : a'.eval (.tmp 21) = .bool true := hdep ⟨3, .data⟩ (by simp) rfl _ 21 rfl rfl
     simp only [Act.eval] at D21
     unfold opGives
     simp [execOp, Act.eval, D21, go_sem, givesUpon]
     exact ⟨Fr.refl _ _, rfl⟩
    ·unfold opGives
     simp [execOp, Act.eval, H0, go_sem, givesUpon]
     exact ⟨Fr.refl _ _, rfl⟩
    ·have D23 : a'.eval (.tmp 23) = .pointer (some ⟨K.mb, 0, none⟩) := hdep ⟨5, .data⟩ (by simp) rfl _ 23 rfl rfl
     simp only [Act.eval] at D23
     unfold opGives
     simp [execOp, Act.eval, D23, go_sem, givesUpon]
     exact ⟨Fr.refl _ _, rfl⟩
    ·have D24 : a'.eval (.tmp 24) = .pointer (some ⟨K.mb, 0, none⟩) := hdep ⟨6, .data⟩ (by simp) rfl _ 24 rfl rfl
     simp only [Act.eval] at D24
     unfold opGives
     simp [execOp, Act.eval, D24, go_sem, givesUpon]
     exact ⟨Fr.refl _ _, rfl⟩
    ·have D25 : a'.eval (.tmp 25) = .pointer (some ⟨K.mb, 0, none⟩) := hdep ⟨7, .data⟩ (by simp) rfl _ 25 rfl rfl
     simp only [Act.eval] at D25
     unfold opGives
     simp [execOp, Act.eval, go_sem, givesUpon, *]
     exact ⟨Fr.refl _ _, rfl⟩
    ·unfold opGives
     simp [execOp, Act.eval, go_sem, givesUpon, *]
     exact ⟨Fr.refl _ _, rfl⟩
    ·have D28 : a'.eval (.tmp 28) = .bool true := hdep ⟨10, .data⟩ (by simp) rfl _ 28 rfl rfl
     simp only [Act.eval] at D28
     unfold opGives
     simp [execOp, Act.eval, D28, go_sem, givesUpon]
     exact ⟨Fr.refl _ _, rfl⟩
    ·have D22 : a'.eval (.tmp 22) = .bool true := hdep ⟨4, .data⟩ (by simp) rfl _ 22 rfl rfl
     have D29 : a'.eval (.tmp 29) = .bool false := hdep ⟨11, .data⟩ (by simp) rfl _ 29 rfl rfl
     simp only [Act.eval] at D22 D29
     unfold opGives
     simp [execOp, Act.eval, go_sem, givesUpon, D22, D29]
     exact ⟨Fr.refl _ _, rfl⟩
   ·intro k o ho hu a' W jc hjc hW0 hoff hdep
    have hW := hG jc _ hW0
    have hbs := hGs _ hW
    have H0 := hoff 0 (by simp)
    have H4 := hoff 4 (by simp)
    simp only [Act.eval] at H0 H4
    rcases k with _ | _ | _ | _ | _ | _ | _ | _ | _ | _ | _ | _ | _ | k
    all_goals (first | (simp at ho; done) | skip)
    all_goals (first | (exact absurd hu (by decide)) | skip)
    all_goals simp only [List.getElem?_cons_zero, List.getElem?_cons_succ, Option.some.injEq] at ho
    all_goals subst ho
    ·have D26 : a'.eval (.tmp 26) = .pointer (some ⟨K.l, 0, none⟩) := hdep ⟨8, .data⟩ (by simp) rfl _ 26 rfl rfl
     have D27 : a'.eval (.tmp 27) = .agg #[.int .i64 (kk : Int), .string nm, .int .i64 (a : Int)] := hdep ⟨9, .data⟩ (by simp) rfl _ 27 rfl rfl
     simp only [Act.eval] at D26 D27
     unfold opGives
     simp [Act.eval, D26, D27, go_sem, givesUpon]
     exact (HR _ W hW0.2 (by omega)).mono (fun e w' h => ⟨_, h.1, ⟨hW0.1.trans h.2.2 (fun _ _ h => h), h.2.1.mono (by omega)⟩, h.2.2, rfl⟩)
   intro vs WR hWR hv
   have e0 : vs 0 = _ := hv 0 (by decide)
   have e1 : vs 1 = _ := hv 1 (by decide)
   have e2 : vs 2 = _ := hv 2 (by decide)
   have e3 : vs 3 = _ := hv 3 (by decide)
   have e4 : vs 4 = _ := hv 4 (by decide)
   have e5 : vs 5 = _ := hv 5 (by decide)
   have e6 : vs 6 = _ := hv 6 (by decide)
   have e7 : vs 7 = _ := hv 7 (by decide)
   have e8 : vs 8 = _ := hv 8 (by decide)
   have e9 : vs 9 = _ := hv 9 (by decide)
   have e10 : vs 10 = _ := hv 10 (by decide)
   have e11 : vs 11 = _ := hv 11 (by decide)
   have e12 : vs 12 = _ := hv 12 (by decide)
   simp only [putsL, if_true, Nat.zero_add, Nat.reduceAdd, e0, e1, e2, e3, e4, e5, e6, e7, e8, e9, e10, e11, e12]
   simp only [Act.put, List.setIfInBounds_toArray, List.set_cons_zero, List.set_cons_succ]
   clear e0 e1 e2 e3 e4 e5 e6 e7 e8 e9 e10 e11 e12 hv
   clear KMA K0 hG hGs h00 HR z3 zl
   obtain ⟨hf3b, hl3⟩ := id hWR
   obtain ⟨w3, hw3⟩ : ∃ w3, w3 = WR := ⟨_, rfl⟩
   rw [← hw3] at hf3b hl3 ⊢
   clear hWR hw3
   replace hl3 : Lg w3 K.l K.bl (n + 34) K.p := hl3.mono (by omega)
   go_wp2_with fail
   have hM3 : McS K (n + 34) s m w3 := (hM0.out.keep E hfA).lodge E hl3 hf3b
   have B3 := B0.keepX hf3b (by omega)
   obtain ⟨mcs, ⟨va, vcd, vmp, rfl, _, hretn, hA1, hA2, hA3⟩, HMv⟩ := method_valX (E.lodgeX hM3.anchor) hh hs ha
   have hcode := hA2.back hM3.anchor
   obtain ⟨Aa, ca, rfl, _, hal2⟩ := hA1.form
   obtain ⟨Ad, cd, rfl, _, _⟩ := hA2.form
   obtain ⟨Ap, cp, rfl, _, _⟩ := hA3.form
   have hMth : Hid (mthOf K.p ⟨⟨kk, nm⟩, a⟩ = (clsAt K.p ⟨kk, nm⟩).methods[a]) := Lib.hid (mthOf_at ha)
   generalize hMm : (clsAt K.p ⟨kk, nm⟩).methods[a] = M at *
   have hfw3 : Fr (fun b => b = K.bl) w w3 := (hfA.of0).trans hf3b (fun _ _ h => h)
   have KM3 := hM3.cells
   have K3 := B3.r3
   replace hMm := Lib.hid hMm
   replace hM3 := Lib.hid hM3
   replace hcode := Lib.hid hcode
   replace hretn := Lib.hid hretn
   obtain ⟨i0, hi, hz0, hz1, hz2⟩ := info_parts info_kndM
   replace hi := Lib.hid hi
   replace hz0 := Lib.hid hz0
   replace hz1 := Lib.hid hz1
   replace hz2 := Lib.hid hz2
   refine wp_region_monR 7 37 [mV (.pointer (some ⟨K.mb, 0, none⟩)), mV (.pointer (some ⟨K.mb, 0, none⟩)), mV (.pointer (some ⟨K.mb, 0, none⟩)), mV (.pointer (some ⟨K.l, 0, none⟩)), mV (.agg #[.int .i64 (kk : Int), .string nm, .int .i64 (a : Int)]), mV (.agg #[.string M.name, .slice Aa M.args.length ca, .int .i64 M.ret.kind, .string M.ret.name, .int .i64 M.locals, .int .i64 M.stack, .slice Ad M.code.length cd, .slice Ap M.maps.length cp]), mB 67 (#[.string ⟨#[]⟩, .slice none 0 0, .int .i64 0, .string ⟨#[]⟩, .int .i64 0, .int .i64 0, .slice none 0 0, .slice none 0 0]) w3.heap.size] (by kernel_rfl) (by kernel_rfl) (by simp) ?_ ?_
   ·refine hopC ?_ <| hopC ?_ <| hopC ?_ <| hopC ?_ <| hopC ?_ <| hopC ?_ <| hopC ?_ <| hopZ
    all_goals (intro a' W hW hoff hdep; have hbs := hW.size; have H0 := hoff 0 rfl; have H4 := hoff 4 rfl; refine nE rfl ?_)
    ·simp [execOp, Act.eval, H0, go_sem, givesUpon]; exact fr1 rfl
    ·have D31 : _ = _ := hdep 0 31 rfl; simp [execOp, Act.eval, D31, go_sem, givesUpon]; exact fr1 rfl
    ·have D32 : _ = _ := hdep 1 32 rfl; simp [execOp, Act.eval, D32, go_sem, givesUpon]; exact fr1 rfl
    ·have D33 : _ = _ := hdep 2 33 rfl; clear hoff hdep; simp [execOp, Act.eval, go_sem, givesUpon, *]; exact fr1 rfl
    ·clear hoff hdep; simp [execOp, Act.eval, go_sem, givesUpon, *]; exact fr1 rfl
    ·have D34 : _ = _ := hdep 3 34 rfl; have D35 : _ = _ := hdep 4 35 rfl; simp [Act.eval, D34, D35, go_sem, givesUpon]; exact (HMv _ hW).mono fun e w' h => ⟨_, h.1, h.2, rfl⟩
    ·simp [execOp, go_sem, givesUpon]; exact ⟨(Fr.refl _ _).alloc _, ⟨_, rfl, Bx.new_ rfl, hbs⟩, Nat.le_refl _⟩
   intro vs WR hWR hv hne
   obtain ⟨b6, e6, hb6, hl6⟩ := hv 6 (by omega)
   simp only [List.drop_succ_cons, List.drop_zero, putsR_B, putsR_V, putsR_0, Nat.zero_add, Nat.reduceAdd, e6]
   simp only [Act.put, List.setIfInBounds_toArray, List.set_cons_zero, List.set_cons_succ]
   clear e6 hv
   have hwl3 : w.heap.size < w3.heap.size := B3.lt
   have B0R := B3.keep hWR
   clear KM3 K3 HMv hne
   refine wpList_store_all rfl 67 (.tmp 7) (.tmp 36) rfl 8 (by kernel_rfl) b6 67 _ [.string M.name, .slice Aa M.args.length ca, .int .i64 M.ret.kind, .string M.ret.name, .int .i64 M.locals, .int .i64 M.stack, .slice Ad M.code.length cd, .slice Ap M.maps.length cp] rfl rfl hb6 rfl rfl (by simp [Value.oneCell']) ?_
   intro wB BB hfB
   have B0B := B0R.keepX hfB (by omega)
   have hlB := BB.lt
   obtain ⟨x0, x1, x2⟩ := B0B.c3
   have xl := B0B.lt
   obtain ⟨y0, y1, y2, y3, y4, y5, y6, y7⟩ := Bx.c8 BB
   obtain ⟨ba, oa, _, hAa, _, _, _⟩ := hA1.cells (k := 0) hargs
   subst hAa
   have hfC : Fr No wB (wB.alloc (.cells #[.int .i64 2, .string nm] 55)) := (Fr.refl No wB).alloc _
   have hlw3 : K.w0.heap.size ≤ w3.heap.size := Nat.le_trans hw0 (Nat.le_of_lt hwl3)
   have hA1C := ((hA1.keep (R' := KndC) hWR (fun _ h => h.elim) (fun _ _ _ h => h)).keep (R' := KndC) hfB (fun b hb => .inr (by omega)) (fun _ _ _ h => h)).keep (R' := KndC) hfC (fun _ h => h.elim) (fun _ _ _ h => h)
   have hnewT := Lib.hid (hA1C.newsW (C := kndC2) (by decide) kndC2_len (fun _ _ h => h.1))
   have hsmT := hA1C.knds
   have hrow0 : RowV (wB.alloc (.cells #[.int .i64 2, .string nm] 55)) 55 2 (.slice (some ⟨wB.heap.size, 0, none⟩) 1 1) 1 [.int .i64 2, .string nm] := RowV.newOne wB _ 2 [.int .i64 2, .string nm] rfl
   have hfw3B : Fr (fun b => w.heap.size ≤ b) w3 (wB.alloc (.cells #[.int .i64 2, .string nm] 55)) := ((hWR.of0 (X := fun b => w.heap.size ≤ b)).trans hfB (fun b hb e => by omega)).trans0 hfC
   have hlBC := hfC.size
   have hbB : w3.heap.size ≤ wB.heap.size := by have := hWR.size; have := hfB.size; omega
   replace BB := Lib.hid BB
   replace B0B := Lib.hid B0B
   replace hb6 := Lib.hid hb6
   replace hA1 := Lib.hid hA1
   replace hA1C := Lib.hid hA1C
   replace hal2 := Lib.hid hal2
   clear hWR
   go_wp2_with (at_builtin; (refine wpList_append_row _ rfl _ _ 65 rfl 55 i0 (.agg #[.int .i64 0, .string ⟨#[]⟩]) 2 24 Tryz.underlying65 hi.out hz0.out hz1.out hz2.out rfl (by decide) (.slice (some ⟨wB.heap.size, 0, none⟩) 1 1) 1 [.int .i64 2, .string nm] rfl hrow0 ⟨ba, oa, none⟩ M.args.length ca (M.args.flatMap kndC2) rfl (flatW_len kndC2_len M.args) hnewT.out (by intro u hu; obtain ⟨t, _, ht⟩ := List.mem_flatMap.1 hu; simp only [kndC2, List.mem_cons, List.not_mem_nil, or_false] at ht; rcases ht with rfl | rfl <;> rfl) hargs (by unfold maxLen; omega) (by omega) ?_); (intro g' cap' w4 hrowT hcapT hgfT horT))
   clear x0 x1 x2 xl y0 y1 y2 y3 y4 y5 y6 y7
   have hT : RowV w4 55 2 (.slice (some ⟨g', 0, none⟩) (1 + M.args.length) cap') ((⟨2, nm⟩ :: M.args).length) (((⟨2, nm⟩ : Knd) :: M.args).flatMap kndC2) := by
    have e1 : (((⟨2, nm⟩ : Knd) :: M.args).length) = 1 + M.args.length := by simp; omega
    have e2 : (((⟨2, nm⟩ : Knd) :: M.args).flatMap kndC2) = [.int .i64 2, .string nm] ++ M.args.flatMap kndC2 := rfl
    rw [e1, e2]
    exact hrowT
   have hg'n : wB.heap.size ≤ g' := by
    rcases horT with h9 | h9
    ·rw [rowBlk_some (by decide)] at h9
     have := Option.some.inj h9
     omega
    ·omega
   have hf34 : Fr (fun b => w.heap.size ≤ b) w3 w4 := hfw3B.trans hgfT (fun b hb e => by rw [rowBlk_some (by decide)] at e; have := Option.some.inj e; omega)
   have hfw4 : Fr (fun b => b = K.bl ∨ w.heap.size ≤ b) w w4 := (hfw3.mono (fun _ _ h => .inl h)).trans hf34 (fun b _ h => .inr h)
   have hM4 : McS K (n + 34) s m w4 := hM3.out.far E hf34 (fun b hb => ⟨by omega, fun hx => by have := hMlt.out b hx; omega⟩)
   have hgfTn : ∀ b, rowBlk (.slice (some ⟨wB.heap.size, 0, none⟩) 1 1) = some b → b = wB.heap.size := fun b e => by rw [rowBlk_some (by decide)] at e; exact (Option.some.inj e).symm
   have B04 := (B0B.out.keep hfC).keepX hgfT (fun e => by have := hgfTn _ e; have := B0B.out.lt; omega)
   have BM4 := (BB.out.keep hfC).keepX hgfT (fun e => by have := hgfTn _ e; have := hlB; omega)
   have hv4 : ValRow w4 (.slice (some ⟨gv, 0, none⟩) ys.length cv) ys := hv.keepB hfw4 (fun q hq hx => by
    have h9 := hvn q (mem_rowB.1 hq)
    have := RowV.ltB hv hq
    rcases hx with hx | hx <;> omega)
   have hTsz : ∀ x ∈ (⟨2, nm⟩ :: M.args : List Knd), x.name.size ≤ maxLen := fun x hx => by
    rcases List.mem_cons.1 hx with rfl | hx
    ·exact hs
    ·exact hsmT x hx
   obtain ⟨T, hTe⟩ : ∃ T, T = ((⟨2, nm⟩ : Knd) :: M.args) := ⟨_, rfl⟩
   rw [← hTe] at hT hTsz
   have hTl : T.length = 1 + M.args.length := by rw [hTe]; simp; omega
   have HH := Lib.hid (fun (j : Nat) (hj : j < ys.length) (hjT : j < T.length) W (hW : Fr No w4 W) => menter_type (hM4.keep E hW) (k := (kk : Int)) (x := ys[j]) (t := T[j]) (hvr _ (List.getElem_mem hj)) (hTsz _ (List.getElem_mem hjT)))
   have KV := Lib.hid (fun (j : Nat) (hj : j < ys.length) => (hv4.at2 hj).2.2.2)
   have KT := Lib.hid (fun (j : Nat) (hj : j < T.length) => knd_at hT (hTl.symm) hj)
   have hcv := (hv4.at2 (j := 0) hv0).2
   have hI0 : Hid (Fr No w4 w4 ∧ ((ys.zip T).take 0).all (fun x => hasB K.p (kk : Int) s.heap x.1 x.2) = true) := Lib.hid ⟨Fr.refl _ _, rfl⟩
   replace hv4 := Lib.hid hv4
   replace hT := Lib.hid hT
   replace hM4 := Lib.hid hM4
   replace B04 := Lib.hid B04
   replace BM4 := Lib.hid BM4
   replace hTe := Lib.hid hTe
   replace hcv := Lib.hid hcv
   clear hrowT hrow0 hgfT horT hnewT hfw3B hM3 hf34 hgfTn
   go_loopw [47] (fun i wr => ∃ j : Nat, j ≤ ys.length ∧ i = .int .i64 (j : Int) ∧ Hid (Fr No w4 wr ∧ ((ys.zip T).take j).all (fun x => hasB K.p (kk : Int) s.heap x.1 x.2) = true)) (fun i _ => ys.length - (intOf i).toNat)
   case atStart => exact ⟨0, Nat.zero_le _, rfl, hI0⟩
   case round =>
    clear hI0
    obtain ⟨j, hj, rfl, hI⟩ := hrel
    obtain ⟨hfr, hall⟩ := hI.out
    clear hI
    replace hall := Lib.hid hall
    have hzl : (ys.zip T).length = ys.length := by rw [List.length_zip]; omega
    by_cases hlt : j < ys.length
    ·have hjT : j < T.length := by omega
     have HHj := fun W (hW : Fr No wr W) => HH.out j hlt hjT W (hfr.trans0 hW)
     have KVj := fun W (hW : Fr No wr W) => KV.out j hlt W (hfr.trans0 hW)
     obtain ⟨t1, t2, KTj0⟩ := KT.out j hjT
     have KTj := fun W (hW : Fr No wr W) => KTj0 W (hfr.trans0 hW)
     have hstep := allB_step (f := fun x : Val × Knd => hasB K.p (kk : Int) s.heap x.1 x.2) (xs := ys.zip T) (k := j) (by omega) hall.out
     have hnot := allB_no (f := fun x : Val × Knd => hasB K.p (kk : Int) s.heap x.1 x.2) (xs := ys.zip T) (k := j) (by omega)
     rw [List.getElem_zip] at hstep hnot
     dsimp only at hstep hnot
     have KMr := (hM4.out.keep E hfr).cells
     have K0r := fun W (hW : Fr No wr W) => (B04.out.keep (hfr.trans0 hW)).c3
     have K0l := fun W (hW : Fr No wr W) => (B04.out.keep (hfr.trans0 hW)).lt
     obtain ⟨v0, v1, vf, vl⟩ := KVj wr (Fr.refl _ _)
     have hadd : IntKind.i64.wrap ((j : Int) + 1) = ((j + 1 : Nat) : Int) := by rw [IntWalk.i64_in _ (by omega)]; simp
     obtain ⟨hcv1, hcv2⟩ := hcv.out
     unfold maxLen at hcv2 t2
     have hTl2 := Lib.hid hTl
     generalize T[j] = ty at *
     generalize ys[j] = x at *
     obtain ⟨xk, xn⟩ := x
     obtain ⟨tk, tn⟩ := ty
     dsimp only at *
     generalize hasB K.p (kk : Int) s.heap ⟨xk, xn⟩ ⟨tk, tn⟩ = bv at *
     replace hadd := Lib.hid hadd
     clear KTj0 KV KT HH hTl hzl
     cases bv
     all_goals
      go_wp2_with fail
      obtain ⟨wD, hwD⟩ : ∃ wD, wD = wr.alloc (.cells #[.int .i64 xk, .int .i64 xn] 40) := ⟨_, rfl⟩
      rw [← hwD]
      have hfD : Fr No wr wD := hwD ▸ (Fr.refl No wr).alloc _
      have KX := (hwD ▸ Bx.new_ rfl : Bx wD wr.heap.size 40 #[.int .i64 xk, .int .i64 xn]).r2
      have HHD := fun W (hW : Fr No wD W) => HHj W (hfD.trans0 hW)
      have KTD := fun W (hW : Fr No wD W) => KTj W (hfD.trans0 hW)
      have KMD := fun W (hW : Fr No wD W) => KMr W (hfD.trans0 hW)
      have K0D := fun W (hW : Fr No wD W) => K0r W (hfD.trans0 hW)
      have K0Dl := fun W (hW : Fr No wD W) => K0l W (hfD.trans0 hW)
      replace hwD := Lib.hid hwD
      clear HHj KTj KMr K0r K0l KVj v0 v1 vf vl
      (refine wp_region_fr (X := No) (by kernel_rfl) (by kernel_rfl) ?_)
      (repeat (first | (go_big_quiet_skip; (try simp only [Act.put, List.setIfInBounds_toArray, List.set_cons_zero, List.set_cons_succ])) | (go_big_quiet_want; (apply Exists.intro; refine ⟨fun W hW => ?_, ?_⟩); (focus (go_simp; (try simp only [↓IntWalk.iteOmega]); (try simp only [reduceIte]); first | done | exact rfl | exact ⟨trivial, rfl⟩ | exact ⟨rfl, rfl⟩ | (go_at_call 79; exact (HHD W hW).mono (fun _ _ h => ⟨h.1, hW.trans0 h.2⟩)))); go_big_quiet_on; (try simp only [Act.put, List.setIfInBounds_toArray, List.set_cons_zero, List.set_cons_succ])))); refine wpQuiet_nil ?_
      intro wE hfE
      clear HHD KTD KMD K0D K0Dl KX
     ·go_wp2_with fail
      go_ret
      have hf4E := hfr.trans0 (hfD.trans0 hfE)
      have hR := hRES.out
      have htb : typesB K.p ⟨⟨kk, nm⟩, a⟩ s.heap ys = false := by
       unfold typesB
       rw [hMth.out, ← hTe.out]
       exact hnot (by first | rfl | trivial)
      rw [htb] at hR
      rw [hR]
      exact ⟨rfl, ((hM4.out.keep E hf4E).ends hgo 10 (by decide) (fun _ h => .inl h) (Fr.refl _ _)).then (fun _ h => .inl h) ((hfw4.trans0 hf4E).mono (fun b hb hx => hx.imp id (fun h => absurd h (by omega))))⟩
     ·go_wp2_with fail
      exact ⟨⟨j + 1, by omega, by simp, Lib.hid ⟨hfr.trans0 (hfD.trans0 hfE), hstep (by first | rfl | trivial)⟩⟩, by simp [intOf]; omega⟩
    ·obtain rfl : j = ys.length := by omega
     have hallT : typesB K.p ⟨⟨kk, nm⟩, a⟩ s.heap ys = true := by
      unfold typesB
      rw [hMth.out, ← hTe.out]
      exact allB_yes (by omega) hall.out
     have hR := hRES.out
     rw [hallT] at hR
     simp only [if_true] at hR
     replace hR := Lib.hid hR
     clear hRES
     obtain ⟨N, hN⟩ : ∃ N : Nat, M.locals = (N : Int) := ⟨M.locals.toNat, by omega⟩
     have hNl : M.locals.toNat = N := by omega
     have hN1 : 1 ≤ N ∧ N ≤ 6 ∧ ys.length ≤ N := by omega
     obtain ⟨MC, hMC⟩ : ∃ MC, MC = madeCells (Value.agg #[.int .i64 0, .int .i64 0]).cells (N * 2) := ⟨_, rfl⟩
     have hMCs : MC.size = N * 2 := by rw [hMC, size_madeCells]
     have hMCl : MC.toList = (List.replicate N noVal).flatMap valCells := by rw [hMC]; exact made_vals hN1.1 hN1.2.1
     have hmk : ∀ W, (Instr.makeSlice 102 (.int .i64 M.locals) (.int .i64 M.locals)).run Tryz.prog W = .ok (.slice (some ⟨W.heap.size, 0, none⟩) N N) (W.alloc (.cells MC tVal)) := fun W => by
      rw [hMC, hN]; exact run_make_n (P := Tryz.prog) 102 tVal _ 2 16 Tryz.underlying102 info_val N (by omega) (by omega) W
     have BMr := BM4.out.keep hfr
     obtain ⟨y0, y1, y2, y3, y4, y5, y6, y7⟩ := Bx.c8 BMr
     have yl := BMr.lt
     have hfF : Fr No wr (wr.alloc (.cells MC tVal)) := (Fr.refl No wr).alloc _
     have BF : Bx (wr.alloc (.cells MC tVal)) wr.heap.size tVal MC := Bx.new_ rfl
     have hvF : Sl No (wr.alloc (.cells MC tVal)) 2 ValC (.slice (some ⟨gv, 0, none⟩) ys.length cv) ys := (ValRow.sl (X := No) (hv4.out.keep0 (hfr.trans0 hfF)) (fun _ _ h => h))
     have hsrcV := Lib.hid (hvF.newsW (C := valCells) (by decide) valCells_len (fun _ _ h => h))
     have hlenV := flatW_len valCells_len ys
     have hNM := Lib.hid (And.intro hN hNl)
     have hMC3 := Lib.hid (And.intro hMC hMCl)
     have hcvB := hcv.out
     unfold maxLen at hcvB
     replace hMth := hMth
     clear hN hNl hMC hMCl hallT hzl hall hj KV KT HH
     replace BMr := Lib.hid BMr
     go_wp2_with ((refine wpList_copy_wide rfl (.tmp 74) (.tmp 75) 102 102 rfl tVal 2 Tryz.underlying102 (by kernel_rfl) wr.heap.size N N ⟨gv, 0, none⟩ ys.length cv rfl rfl hN1.2.2 MC tVal BF (ys.flatMap valCells) hlenV hsrcV.out (by omega) (by intro u hu; obtain ⟨t, _, ht⟩ := List.mem_flatMap.1 hu; simp only [valCells, List.mem_cons, List.not_mem_nil, or_false] at ht; rcases ht with rfl | rfl <;> rfl) ?_); (intro wG hBG hfG))
     clear y0 y1 y2 y3 y4 y5 y6 y7 yl hmk
     have hvG : ValRow wG (.slice (some ⟨wr.heap.size, 0, none⟩) N N) (ys ++ List.replicate (N - ys.length) noVal) := by
      have e1 : (ys ++ List.replicate (N - ys.length) noVal).length = N := by simp; omega
      have e2 : List.replicate N noVal = List.replicate ys.length noVal ++ List.replicate (N - ys.length) noVal := by rw [List.replicate_append_replicate]; congr 1; omega
      have e3 : MC.toList.drop (ys.flatMap valCells).length = (List.replicate (N - ys.length) noVal).flatMap valCells := by
       have hz := flatW_len valCells_len (List.replicate ys.length noVal)
       rw [List.length_replicate] at hz
       rw [hMC3.out.2, e2, List.flatMap_append, hlenV, ← hz, List.drop_left]
      refine .inl ⟨by rw [flatW_len valCells_len], .inr ⟨wr.heap.size, N, _, by rw [e1], Nat.zero_le _, hBG, by rw [e1]; exact Nat.le_refl _, by unfold maxLen; omega, ?_, ?_⟩⟩
      ·simp only [List.size_toArray, List.length_append, List.length_drop, Array.length_toList, hMCs]
       omega
      ·rw [e3, e1, ← List.flatMap_append]
       have := flatW_len valCells_len (ys ++ List.replicate (N - ys.length) noVal)
       rw [e1] at this
       rw [← this]
       show List.take _ (List.flatMap valCells (ys ++ List.replicate (N - ys.length) noVal)) = _
       exact List.take_length
     have hgr : rowBlk (.slice (some ⟨wr.heap.size, 0, none⟩) N N) = some wr.heap.size := rowBlk_some (by omega)
     have hwr4 := hfr.size
     have hlw4 : w.heap.size < w4.heap.size := B04.out.lt
     have hfwG : Fr (fun b => b = K.bl ∨ w.heap.size ≤ b) w wG := ((hfw4.trans0 hfr).trans0 hfF).trans hfG (fun b _ e => .inr (by omega))
     have hMG : McS K (n + 34) s m wG := (hM4.out.keep E (hfr.trans0 hfF)).far E hfG (fun b hb => ⟨by omega, fun hx => by have := hMlt.out b hx; omega⟩)
     have KMG := hMG.cells
     rw [hvc.out] at KMG
     have B0G := ((B04.out.keep (hfr.trans0 hfF)).keepX hfG (by omega))
     have BMG := ((BMr.out.keep hfF).keepX hfG (by have := BMr.out.lt; omega))
     have K0G := fun W (hW : Fr No wG W) => (B0G.keep hW).c3
     have K0Gl := fun W (hW : Fr No wG W) => (B0G.keep hW).lt
     have KBG := fun W (hW : Fr No wG W) => Bx.c8 (BMG.keep hW)
     have KBGl := fun W (hW : Fr No wG W) => (BMG.keep hW).lt
     replace hBG := Lib.hid hBG
     replace hvG := Lib.hid hvG
     replace hMG := Lib.hid hMG
     replace B0G := Lib.hid B0G
     replace BMG := Lib.hid BMG
     replace hvF := Lib.hid hvF
     replace hlenV := Lib.hid hlenV
     obtain ⟨j0, hj0, hk0, hk1, hk2⟩ := info_parts info_ptr
     replace hj0 := Lib.hid hj0
     replace hk0 := Lib.hid hk0
     replace hk1 := Lib.hid hk1
     replace hk2 := Lib.hid hk2
     try simp only [Act.put, List.setIfInBounds_toArray, List.set_cons_zero, List.set_cons_succ]
     try go_wp2_with fail
     refine wp_region_monR 14 91 [mE (mV (.pointer (some ⟨K.mb, 0, none⟩))), mV (.pointer (some ⟨K.mb, 0, none⟩)), mV (.pointer (some ⟨K.mb, 0, none⟩)), mV (.pointer (some ⟨K.mb, 3, none⟩)), mV (.slice Ac s.frames.length cc), mV (.agg #[.int .i64 (kk : Int), .string nm, .int .i64 (a : Int)]), mV (.agg #[.string M.name, .slice (some ⟨ba, oa, none⟩) M.args.length ca, .int .i64 M.ret.kind, .string M.ret.name, .int .i64 M.locals, .int .i64 M.stack, .slice Ad M.code.length cd, .slice Ap M.maps.length cp]), mV (.slice (some ⟨wr.heap.size, 0, none⟩) N N), mV (.pointer (some ⟨b6, 5, none⟩)), mV (.int .i64 M.stack), mV (.agg #[.slice none 0 0, .int .i64 M.stack]), mV (.agg #[.int .i64 (kk : Int), .string nm, .int .i64 (a : Int), .string M.name, .slice (some ⟨ba, oa, none⟩) M.args.length ca, .int .i64 M.ret.kind, .string M.ret.name, .int .i64 M.locals, .int .i64 M.stack, .slice Ad M.code.length cd, .slice Ap M.maps.length cp, .int .i64 0, .slice (some ⟨wr.heap.size, 0, none⟩) N N, .slice none 0 0, .int .i64 M.stack]), mB 118 (#[.int .i64 (kk : Int), .string nm, .int .i64 (a : Int), .string M.name, .slice (some ⟨ba, oa, none⟩) M.args.length ca, .int .i64 M.ret.kind, .string M.ret.name, .int .i64 M.locals, .int .i64 M.stack, .slice Ad M.code.length cd, .slice Ap M.maps.length cp, .int .i64 0, .slice (some ⟨wr.heap.size, 0, none⟩) N N, .slice none 0 0, .int .i64 M.stack]) wG.heap.size, mC (ptrP wG.heap.size #[.int .i64 (kk : Int), .string nm, .int .i64 (a : Int), .string M.name, .slice (some ⟨ba, oa, none⟩) M.args.length ca, .int .i64 M.ret.kind, .string M.ret.name, .int .i64 M.locals, .int .i64 M.stack, .slice Ad M.code.length cd, .slice Ap M.maps.length cp, .int .i64 0, .slice (some ⟨wr.heap.size, 0, none⟩) N N, .slice none 0 0, .int .i64 M.stack]) (ptrP.mono)] (by kernel_rfl) (by kernel_rfl) (by simp) ?_ ?_
     ·refine hopC ?_ <| hopC ?_ <| hopC ?_ <| hopC ?_ <| hopC ?_ <| hopC ?_ <| hopC ?_ <| hopC ?_ <| hopC ?_ <| hopC ?_ <| hopC ?_ <| hopC ?_ <| hopC ?_ <| hopC ?_ <| hopZ
      all_goals (intro a' W hW hoff hdep; have hbs := hW.size; have H0 := hoff 0 rfl; have H4 := hoff 4 rfl; have H7 := hoff 7 rfl; have H11 := hoff 11 rfl)
      ·exact yE rfl ⟨.pointer (some ⟨K.mb, 0, none⟩), fun W => by simp [execOp, Act.eval, H0, go_sem], rfl, rfl⟩
      ·refine nE rfl ?_; simp [execOp, Act.eval, H0, go_sem, givesUpon]; exact fr1 rfl
      ·have D78 : _ = _ := hdep 1 78 rfl; refine nE rfl ?_; simp [execOp, Act.eval, D78, go_sem, givesUpon]; exact fr1 rfl
      ·have D79 : _ = _ := hdep 2 79 rfl; refine nE rfl ?_; simp [execOp, Act.eval, D79, go_sem, givesUpon]; exact fr1 rfl
      ·have D80 : _ = _ := hdep 3 80 rfl; refine nE rfl ?_; clear hoff hdep; simp [execOp, Act.eval, go_sem, givesUpon, *]; exact fr1 rfl
      ·refine nE rfl ?_; clear hoff hdep; simp [execOp, Act.eval, go_sem, givesUpon, *]; exact fr1 rfl
      ·refine nE rfl ?_; clear hoff hdep; simp [execOp, Act.eval, go_sem, givesUpon, *]; exact fr1 rfl
      ·refine nE rfl ?_; simp [execOp, Act.eval, H11, go_sem, givesUpon]; exact fr1 rfl
      ·refine nE rfl ?_; simp [execOp, Act.eval, H7, go_sem, givesUpon]; exact fr1 rfl
      ·have D85 : _ = _ := hdep 8 85 rfl; refine nE rfl ?_; clear hoff hdep; simp [execOp, Act.eval, go_sem, givesUpon, *]; exact fr1 rfl
      ·have D86 : _ = _ := hdep 9 86 rfl; simp at D86; refine nE rfl ?_; simp [execOp, Act.eval, D86, go_sem, givesUpon]; exact fr1 rfl
      ·have D82 : _ = _ := hdep 5 82 rfl; have D83 : _ = _ := hdep 6 83 rfl; have D84 : _ = _ := hdep 7 84 rfl; have D87 : _ = _ := hdep 10 87 rfl; simp at D82 D83 D84 D87; refine nE rfl ?_; simp [execOp, Act.eval, D82, D83, D84, D87, go_sem, givesUpon]; exact fr1 rfl
      ·have D88 : _ = _ := hdep 11 88 rfl; refine nE rfl ?_; simp [execOp, D88, go_sem, givesUpon]; exact ⟨(Fr.refl _ _).alloc _, ⟨_, rfl, Bx.new_ rfl, hbs⟩, Nat.le_refl _⟩
      ·obtain ⟨b, D89, hb, hl⟩ : (atB 118 #[.int .i64 (kk : Int), .string nm, .int .i64 (a : Int), .string M.name, .slice (some ⟨ba, oa, none⟩) M.args.length ca, .int .i64 M.ret.kind, .string M.ret.name, .int .i64 M.locals, .int .i64 M.stack, .slice Ad M.code.length cd, .slice Ap M.maps.length cp, .int .i64 0, .slice (some ⟨wr.heap.size, 0, none⟩) N N, .slice none 0 0, .int .i64 M.stack] wG.heap.size) _ W := hdep 12 89 rfl; simp at D89; refine nE rfl ?_; simp [execOp, Act.eval, D89, go_sem, givesUpon]; exact ⟨(Fr.refl _ _).alloc _, _, b, rfl, Bx.new_ rfl, hbs, hb.alloc _, hl, by have := hb.lt; omega⟩
     intro vs WR hWR hv hne
     obtain ⟨b12, e12, hb12, hl12⟩ := hv 12 (by omega)
     obtain ⟨gpR13, bpR13, e13, hgpR13, hglR13, hbpR13, hbl9R13, hgbR13⟩ := hv 13 (by omega)
     simp only [List.drop_succ_cons, List.drop_zero, putsR_B, putsR_C, putsR_EV, putsR_V, putsR_0, Nat.zero_add, Nat.reduceAdd, e12, e13]
     simp only [Act.put, List.setIfInBounds_toArray, List.set_cons_zero, List.set_cons_succ]
     clear e12 e13 hv
     have hR0 := hMG.out.keep E hWR
     have hwGs : wr.heap.size < wG.heap.size := hBG.out.lt
     have hk0m : ∀ q, rowBlk (.slice (some ⟨wr.heap.size, 0, none⟩) N N) = some q → q = wr.heap.size := fun q hq => by rw [hgr] at hq; exact (Option.some.inj hq).symm
     have hCR : CalR K WR ⟨bpR13, .slice (some ⟨ba, oa, none⟩) M.args.length ca, .slice Ad M.code.length cd, .slice Ap M.maps.length cp, .slice (some ⟨wr.heap.size, 0, none⟩) N N, .slice none 0 0⟩ ⟨⟨⟨kk, nm⟩, a⟩, 0, ys ++ List.replicate (N - ys.length) noVal, []⟩ := by
      refine ⟨?_, hvG.out.keep0 hWR, RowV.nil _ _ _, ?_, hs, ?_⟩
      ·rw [hMth.out]; exact hbpR13
      ·rw [hMth.out]; exact hcode.out
      ·rw [hMth.out]; exact hretn.out
     have hkB : ∀ b ∈ (⟨bpR13, .slice (some ⟨ba, oa, none⟩) M.args.length ca, .slice Ad M.code.length cd, .slice Ap M.maps.length cp, .slice (some ⟨wr.heap.size, 0, none⟩) N N, .slice none 0 0⟩ : KC).B, w.heap.size ≤ b := fun b hb => by
      rcases KC.mem_B.1 hb with h9 | h9 | h9
      ·dsimp only at h9; omega
      ·have := hk0m _ (mem_rowB.1 h9); omega
      ·cases h9
     have hkn : ∀ b ∈ (⟨bpR13, .slice (some ⟨ba, oa, none⟩) M.args.length ca, .slice Ad M.code.length cd, .slice Ap M.maps.length cp, .slice (some ⟨wr.heap.size, 0, none⟩) N N, .slice none 0 0⟩ : KC).B, b ∉ mcB K m ∧ K.w0.heap.size ≤ b := fun b hb => ⟨fun hx => by have := hMlt.out b hx; have := hkB b hb; omega, by have := hkB b hb; omega⟩
     have hnd : (⟨bpR13, .slice (some ⟨ba, oa, none⟩) M.args.length ca, .slice Ad M.code.length cd, .slice Ap M.maps.length cp, .slice (some ⟨wr.heap.size, 0, none⟩) N N, .slice none 0 0⟩ : KC).B.Nodup := KC.nodup_iff.2 ⟨fun q hq => by have := hk0m _ hq; dsimp only; omega, (fun q hq => by cases hq), (fun q _ hq => by cases hq)⟩
     have hrowR : RowV WR tPtr 1 (.slice Ac s.frames.length cc) s.frames.length (m.kc.flatMap (calL K).C) := by
      have := hR0.crow
      rw [hvc.out] at this
      exact this
     have hsrcP := Lib.hid (Bx.news (cs := [Value.pointer (some ⟨bpR13, 0, none⟩)]) hgpR13)
     have hboxR := hR0.box
     have hneR : ∀ q, rowBlk (.slice Ac s.frames.length cc) = some q → q ≠ K.mb := fun q hq => hR0.out3.1 q (by rw [hvc.out]; exact rowB_c hq)
     have hfin := fun {g' cap' : Nat} {w3 : World} (hrow : RowV w3 tPtr 1 (.slice (some ⟨g', 0, none⟩) (s.frames.length + 1) cap') (s.frames.length + 1) (m.kc.flatMap (calL K).C ++ [.pointer (some ⟨bpR13, 0, none⟩)])) (hgf : Fr (fun b => rowBlk (.slice Ac s.frames.length cc) = some b) WR w3) (hor : rowBlk (.slice Ac s.frames.length cc) = some g' ∨ g' = WR.heap.size) (hcap : s.frames.length + 1 ≤ cap') =>
      hR0.newCall E hCR hkn hnd hrow (by rw [hvc.out]; exact hgf) (by rw [hvc.out]; exact hor) hcap
     have hfwR := Lib.hid (hfwG.trans0 hWR)
     have hkB2 := Lib.hid hkB
     have hWRs : Hid (w.heap.size ≤ WR.heap.size) := Lib.hid (by have := hWR.size; omega)
     clear KMG K0G K0Gl KBG KBGl hkB hkn hnd hCR hne hb12 hbpR13 hgpR13
     replace hR0 := Lib.hid hR0
     go_wp2_with (at_builtin; (refine wpList_append_row _ rfl _ _ 79 rfl tPtr j0 (.pointer none) 1 8 Tryz.underlying79 hj0.out hk0.out hk1.out hk2.out rfl (by decide) (.slice Ac s.frames.length cc) s.frames.length (m.kc.flatMap (calL K).C) rfl hrowR ⟨gpR13, 0, none⟩ 1 1 [Value.pointer (some ⟨bpR13, 0, none⟩)] rfl rfl hsrcP.out (by simp [Value.oneCell']) (by decide) (by unfold maxLen; omega) (by omega) ?_); (intro g2 cap2 w6 hrow6 hcap6 hgf6 hor6); have hbx := hboxR.keepX hgf6 (fun e => hneR _ e rfl); (obtain ⟨m3, hS3, hB3, hf3⟩ := hfin hrow6 hgf6 hor6 hcap6); have z3 : w6.cell? ⟨K.mb, 3, none⟩ = some m.vc := hbx.cell 3; have zf := (fun i => hbx.frozen i); have zl := hbx.lt; replace hf3 := Lib.hid hf3; replace hB3 := Lib.hid hB3; replace hS3 := Lib.hid hS3)
     go_ret
     have hS3 := hS3.out
     rw [hgo] at hS3
     rw [hR.out, hNM.out.2]
     refine ⟨rfl, _, m3, hS3, fun _ => rfl, fun b hb => ?_, ?_⟩
     ·rcases hB3.out b hb with h9 | h9 | h9
      ·exact .inl h9
      ·exact .inr (hkB2.out b h9)
      ·exact .inr (Nat.le_trans hWRs.out h9)
     ·exact (hfwR.out.mono (fun b hb hx => hx.imp id (fun h => absurd h (by omega)))).trans hf3.out (fun b _ hx => .inr hx)
end Go.Proofs.YtbalicnnlfennaaGreat
