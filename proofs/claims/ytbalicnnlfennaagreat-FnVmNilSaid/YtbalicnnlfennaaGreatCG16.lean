/- The layout of a class: all its fields, those from above first (the program's own). -/
import Derived.Test.YtbalicnnlfennaaGreatCG13
import Derived.Test.YtbalicnnlfennaaGreatCG15
namespace Go.Proofs.YtbalicnnlfennaaGreat
open Go.RowKit

def slB (t : TypeId) (cs : Array Value) (n : Nat) (base : Nat) : Value → World → Prop := fun v W => ∃ b, v = .slice (some ⟨b, 0, none⟩) n n ∧ Bx W b t cs ∧ base ≤ b
theorem slB_mono (t : TypeId) (cs : Array Value) (n base : Nat) : MonP (slB t cs n base) := fun _ _ _ ⟨b, h1, h2, h3⟩ hf => ⟨b, h1, h2.keep hf, h3⟩
theorem slB_bk {t : TypeId} {cs : Array Value} {n base : Nat} {v : Value} {W : World} (h : slB t cs n base v W) : bk v < W.heap.size := by
 obtain ⟨b, rfl, hb, _⟩ := h
 exact hb.lt

def lfCells (f : LFld) : List Value := [.int .i64 f.of_.keeper, .string f.of_.name, .int .i64 f.at_, .int .i64 f.kind.kind, .string f.kind.name]
def LFldC (cs : List Value) (f : LFld) : Prop := cs = lfCells f ∧ f.of_.name.size ≤ maxLen ∧ f.kind.name.size ≤ maxLen
def layAdd (r : Ref) (acc : List LFld) (fs : List Fld) : List LFld := acc ++ layGo acc.length (fs.map (r, ·))
theorem layAdd_cons (r : Ref) (acc : List LFld) (f : Fld) (fs : List Fld) : layAdd r acc (f :: fs) = layAdd r (acc ++ [⟨r, acc.length, f.kind⟩]) fs := by
 unfold layAdd
 rw [List.map_cons, layGo, List.append_assoc, List.length_append]
 rfl
theorem layAdd_nil (r : Ref) (acc : List LFld) : layAdd r acc [] = acc := by simp [layAdd, layGo]
theorem own_ty_ne {w : World} {base sz n b : Nat} {v : Value} {e t : TypeId} {xs : List Value} {cs : Array Value} (h : w.ownsRow base e sz v n xs) (hb : Bx w b t cs) (hne : e ≠ t) : ∀ q, v.ownBlock = some q → q ≠ b := by
 intro q hq
 obtain ⟨A, m, c, rfl⟩ : ∃ A m c, v = .slice A m c := by
  obtain ⟨_, ⟨rfl, _⟩ | ⟨g, cap, cur, rfl, _⟩⟩ := h <;> exact ⟨_, _, _, rfl⟩
 obtain ⟨_, ⟨h1, _⟩ | ⟨g', cap', cur, h1, _, h2, _⟩⟩ := h
 ·cases h1; cases hq
 ·cases h1
  cases hq
  rintro rfl
  unfold Bx at hb
  rw [h2] at hb
  simp at hb
  exact hne hb.2
theorem info_lf : (Tryz.prog.info? 154).map (fun i => (i.zero, i.size, i.bytes)) = some (some (.agg #[.int .i64 0, .string ⟨#[]⟩, .int .i64 0, .int .i64 0, .string ⟨#[]⟩]), 5, 56) := by kernel_rfl
def AddPost (b base : Nat) (xs : List LFld) (w : World) (e : Ending) (w' : World) : Prop :=
 (∃ v, e = .returned v) ∧ (∃ v, Bx w' b 188 #[v] ∧ w'.ownsRow base 154 5 v xs.length (xs.flatMap lfCells)) ∧ Fr (fun x => x = b ∨ base ≤ x) w w'

set_option maxRecDepth 100000 in
set_option maxHeartbeats 4000000 in
theorem add_ok (Y : Nat → Prop) (b base : Nat) (r : Ref) (A : Option Addr) (cap : Nat) (fs : List Fld) (cur : List LFld) (v : Value) (w : World)
  (hb : Bx w b 188 #[v]) (hrow : w.ownsRow base 154 5 v cur.length (cur.flatMap lfCells)) (hs : Sl Y w 3 FldC (.slice A fs.length cap) fs) (hY : ∀ x, (x = b ∨ base ≤ x) → Y x)
  (hbb : b < base) (hbase : base ≤ w.heap.size) (hlen : cur.length + fs.length ≤ 1000) :
  Calls Tryz.prog 118 #[.pointer (some ⟨b, 0, none⟩), .agg #[.int .i64 r.keeper, .string r.name], .slice A fs.length cap] w (AddPost b base (layAdd r cur fs) w) := by
 obtain ⟨i0, hi, hz0, hz1, hz2⟩ := info_parts info_lf
 obtain ⟨rk, rn⟩ := r
 obtain ⟨wA, hwA⟩ : ∃ wA, wA = (w.alloc (.cells #[.int .i64 rk, .string rn] 54)) := ⟨_, rfl⟩
 have hfA : Fr (fun x => x = b ∨ base ≤ x) w wA := hwA ▸ (Fr.refl _ w).alloc _
 have B0 : Bx wA w.heap.size 54 #[.int .i64 rk, .string rn] := hwA ▸ Bx.new_ rfl
 have hbA : Bx wA b 188 #[v] := hwA ▸ hb.alloc _
 have hrowA : wA.ownsRow base 154 5 v cur.length (cur.flatMap lfCells) := hwA ▸ hrow.alloc _
 have hbl := hb.lt
 clear hb hrow
 dsimp only
 replace hi := Lib.hid hi
 replace hz0 := Lib.hid hz0
 replace hz1 := Lib.hid hz1
 replace hz2 := Lib.hid hz2
 go_enter Tryz.func118, Tryz.ntmps118
 go_wp2
 rw [← hwA]
 replace hwA := Lib.hid hwA
 go_loopw [10] (fun i wr => ∃ (k : Nat) (xs : List LFld) (u : Value), k ≤ fs.length ∧ i = .int .i64 k ∧ Hid (layAdd ⟨rk, rn⟩ cur fs = layAdd ⟨rk, rn⟩ xs (fs.drop k)) ∧ xs.length = cur.length + k ∧ Bx wr w.heap.size 54 #[.int .i64 rk, .string rn] ∧
  Bx wr b 188 #[u] ∧ wr.ownsRow base 154 5 u xs.length (xs.flatMap lfCells) ∧ Fr (fun x => x = b ∨ base ≤ x) w wr) (fun i _ => fs.length - (intOf i).toNat)
 case atStart => exact ⟨0, cur, v, Nat.zero_le _, rfl, rfl, rfl, B0, hbA, hrowA, hfA⟩
 case round =>
  clear B0 hbA hrowA hfA
  obtain ⟨k, xs, u, hk, rfl, hd, hxl, hB0, hbr, hrow, hw⟩ := hrel
  by_cases hlt : k < fs.length
  ·obtain ⟨b9, off, rfl, hX, q0, q1, q2, hz1', hz2'⟩ := (hs.keep (R' := FldC) hw hY (fun _ _ _ h => h)).fld hlt
   have q0l := lt_of_cell q0
   rw [List.drop_eq_getElem_cons hlt, layAdd_cons] at hd
   have hd := Lib.hid hd
   clear hs
   generalize fs[k] = f at *
   obtain ⟨Av, nv, cv, rfl⟩ : ∃ A n c, u = Value.slice A n c := by
    obtain ⟨_, ⟨rfl, _⟩ | ⟨g, cap, cur, rfl, _⟩⟩ := hrow <;> exact ⟨_, _, _, rfl⟩
   have hnv := ownsRow_len hrow
   dsimp only [sliceLen] at hnv
   subst hnv
   obtain ⟨W0, hW0⟩ : ∃ W0, W0 = (wr.alloc (.cells #[.string f.name, .int .i64 f.kind.kind, .string f.kind.name] 58)) := ⟨_, rfl⟩
   have hf0 : Fr No wr W0 := hW0 ▸ (Fr.refl No wr).alloc _
   have hF : Bx W0 wr.heap.size 58 #[.string f.name, .int .i64 f.kind.kind, .string f.kind.name] := hW0 ▸ Bx.new_ rfl
   have hR0 := hB0.keep hf0
   have hL0 := hbr.keep hf0
   have hrow0 : W0.ownsRow base 154 5 (.slice Av xs.length cv) xs.length (xs.flatMap lfCells) := hW0 ▸ hrow.alloc _
   have KF := hF.r3
   have KR := hR0.r2
   have KL := hL0.r1
   have hwl := hw.size
   have hxm : xs.length ≤ 1000 := by omega
   go_wp2_with fail
   rw [← hW0]
   replace hW0 := Lib.hid hW0
   refine wp_region_monL 15 [isV (.pointer (some ⟨b, 0, none⟩)), isV (.pointer (some ⟨b, 0, none⟩)), isV (.pointer (some ⟨b, 0, none⟩)), isV (.pointer (some ⟨b, 0, none⟩)), isV (.slice Av xs.length cv), isV (.agg #[.int .i64 rk, .string rn]), isV (.pointer (some ⟨b, 0, none⟩)), isV (.pointer (some ⟨b, 0, none⟩)), isV (.pointer (some ⟨b, 0, none⟩)), isV (.slice Av xs.length cv), isV (.int .i64 xs.length), isV (.pointer (some ⟨wr.heap.size, 1, none⟩)), isV (.agg #[.int .i64 f.kind.kind, .string f.kind.name]), isV (.agg #[.int .i64 rk, .string rn, .int .i64 xs.length, .int .i64 f.kind.kind, .string f.kind.name]), slB 154 #[.int .i64 rk, .string rn, .int .i64 xs.length, .int .i64 f.kind.kind, .string f.kind.name] 1 W0.heap.size] [false, false, false, false, false, false, false, false, false, false, false, false, false, false, true] [true, false, false, false, false, false, false, false, false, false, false, false, false, false, false] ?_ (by kernel_rfl) (by kernel_rfl) ?_ ?_ ?_ ?_
   ·intro x hx hb v W h
    simp only [List.zip_cons_cons, List.zip_nil_left, List.mem_cons, List.not_mem_nil, or_false] at hx
    rcases hx with rfl | rfl | rfl | rfl | rfl | rfl | rfl | rfl | rfl | rfl | rfl | rfl | rfl | rfl | rfl <;> first | (cases hb; done) | exact atB_bk h | exact slB_bk h
   ·intro o ho d hd; simp only [List.take_succ_cons, List.take_zero, List.mem_cons, List.not_mem_nil, or_false] at ho; rcases ho with rfl | rfl | rfl | rfl | rfl | rfl | rfl | rfl | rfl | rfl | rfl | rfl | rfl | rfl | rfl <;> (cases hd; simp)
   ·intro x hx
    simp only [List.mem_cons, List.not_mem_nil, or_false] at hx
    rcases hx with rfl | rfl | rfl | rfl | rfl | rfl | rfl | rfl | rfl | rfl | rfl | rfl | rfl | rfl | rfl
    ·exact isV_mono _
    ·exact isV_mono _
    ·exact isV_mono _
    ·exact isV_mono _
    ·exact isV_mono _
    ·exact isV_mono _
    ·exact isV_mono _
    ·exact isV_mono _
    ·exact isV_mono _
    ·exact isV_mono _
    ·exact isV_mono _
    ·exact isV_mono _
    ·exact isV_mono _
    ·exact isV_mono _
    ·exact slB_mono _ _ _ _
   ·intro k o ho a' W hW hoff hdep
    have hbs := hW.size
    have H0 := hoff 0 (by simp)
    have H4 := hoff 4 (by simp)
    have H7 := hoff 7 (by simp)
    simp only [Act.eval] at H0 H4 H7
    simp only [List.take_succ_cons, List.take_zero] at ho hdep
    rcases k with _ | _ | _ | _ | _ | _ | _ | _ | _ | _ | _ | _ | _ | _ | _ | k
    all_goals (first | (simp at ho; done) | skip)
    all_goals simp only [List.getElem?_cons_zero, List.getElem?_cons_succ, Option.some.injEq] at ho
    all_goals subst ho
    ·refine ⟨fun _ => ⟨.pointer (some ⟨b, 0, none⟩), fun W => by simp [execOp, Act.eval, H0, go_sem], rfl, rfl⟩, fun h => absurd h (by decide)⟩
    ·refine ⟨fun h => absurd h (by decide), fun _ => ?_⟩
     unfold opGives
     simp [execOp, Act.eval, H0, go_sem, givesUpon]
     exact ⟨Fr.refl _ _, rfl⟩
    ·have D15 : a'.eval (.tmp 15) = .pointer (some ⟨b, 0, none⟩) := hdep ⟨1, .data⟩ (by simp) rfl _ 15 rfl rfl
     simp only [Act.eval] at D15
     refine ⟨fun h => absurd h (by decide), fun _ => ?_⟩
     unfold opGives
     simp [execOp, Act.eval, D15, go_sem, givesUpon]
     exact ⟨Fr.refl _ _, rfl⟩
    ·have D16 : a'.eval (.tmp 16) = .pointer (some ⟨b, 0, none⟩) := hdep ⟨2, .data⟩ (by simp) rfl _ 16 rfl rfl
     simp only [Act.eval] at D16
     refine ⟨fun h => absurd h (by decide), fun _ => ?_⟩
     unfold opGives
     simp [execOp, Act.eval, D16, go_sem, givesUpon]
     exact ⟨Fr.refl _ _, rfl⟩
    ·have D17 : a'.eval (.tmp 17) = .pointer (some ⟨b, 0, none⟩) := hdep ⟨3, .data⟩ (by simp) rfl _ 17 rfl rfl
     simp only [Act.eval] at D17
     refine ⟨fun h => absurd h (by decide), fun _ => ?_⟩
     unfold opGives
     simp [execOp, Act.eval, go_sem, givesUpon, *]
     exact ⟨Fr.refl _ _, rfl⟩
    ·refine ⟨fun h => absurd h (by decide), fun _ => ?_⟩
     unfold opGives
     simp [execOp, Act.eval, go_sem, givesUpon, *]
     exact ⟨Fr.refl _ _, rfl⟩
    ·refine ⟨fun h => absurd h (by decide), fun _ => ?_⟩
     unfold opGives
     simp [execOp, Act.eval, H0, go_sem, givesUpon]
     exact ⟨Fr.refl _ _, rfl⟩
    ·have D20 : a'.eval (.tmp 20) = .pointer (some ⟨b, 0, none⟩) := hdep ⟨6, .data⟩ (by simp) rfl _ 20 rfl rfl
     simp only [Act.eval] at D20
     refine ⟨fun h => absurd h (by decide), fun _ => ?_⟩
     unfold opGives
     simp [execOp, Act.eval, D20, go_sem, givesUpon]
     exact ⟨Fr.refl _ _, rfl⟩
    ·have D21 : a'.eval (.tmp 21) = .pointer (some ⟨b, 0, none⟩) := hdep ⟨7, .data⟩ (by simp) rfl _ 21 rfl rfl
     simp only [Act.eval] at D21
     refine ⟨fun h => absurd h (by decide), fun _ => ?_⟩
     unfold opGives
     simp [execOp, Act.eval, D21, go_sem, givesUpon]
     exact ⟨Fr.refl _ _, rfl⟩
    ·have D22 : a'.eval (.tmp 22) = .pointer (some ⟨b, 0, none⟩) := hdep ⟨8, .data⟩ (by simp) rfl _ 22 rfl rfl
     simp only [Act.eval] at D22
     refine ⟨fun h => absurd h (by decide), fun _ => ?_⟩
     unfold opGives
     simp [execOp, Act.eval, go_sem, givesUpon, *]
     exact ⟨Fr.refl _ _, rfl⟩
    ·have D23 : a'.eval (.tmp 23) = .slice Av xs.length cv := hdep ⟨9, .data⟩ (by simp) rfl _ 23 rfl rfl
     simp only [Act.eval] at D23
     refine ⟨fun h => absurd h (by decide), fun _ => ?_⟩
     unfold opGives
     simp [Act.eval, D23, go_sem, givesUpon]
     exact ⟨Fr.refl _ _, rfl⟩
    ·refine ⟨fun h => absurd h (by decide), fun _ => ?_⟩
     unfold opGives
     simp [execOp, Act.eval, H7, go_sem, givesUpon]
     exact ⟨Fr.refl _ _, rfl⟩
    ·have D25 : a'.eval (.tmp 25) = .pointer (some ⟨wr.heap.size, 1, none⟩) := hdep ⟨11, .data⟩ (by simp) rfl _ 25 rfl rfl
     simp only [Act.eval] at D25
     refine ⟨fun h => absurd h (by decide), fun _ => ?_⟩
     unfold opGives
     simp [execOp, Act.eval, go_sem, givesUpon, *]
     exact ⟨Fr.refl _ _, rfl⟩
    ·have D19 : a'.eval (.tmp 19) = .agg #[.int .i64 rk, .string rn] := hdep ⟨5, .data⟩ (by simp) rfl _ 19 rfl rfl
     have D24 : a'.eval (.tmp 24) = .int .i64 xs.length := hdep ⟨10, .data⟩ (by simp) rfl _ 24 rfl rfl
     have D26 : a'.eval (.tmp 26) = .agg #[.int .i64 f.kind.kind, .string f.kind.name] := hdep ⟨12, .data⟩ (by simp) rfl _ 26 rfl rfl
     simp [Act.eval] at D19 D24 D26
     refine ⟨fun h => absurd h (by decide), fun _ => ?_⟩
     unfold opGives
     simp [execOp, Act.eval, D19, D24, D26, go_sem, givesUpon]
     exact ⟨Fr.refl _ _, rfl⟩
    ·have D27 : a'.eval (.tmp 27) = .agg #[.int .i64 rk, .string rn, .int .i64 xs.length, .int .i64 f.kind.kind, .string f.kind.name] := hdep ⟨13, .data⟩ (by simp) rfl _ 27 rfl rfl
     simp [Act.eval] at D27
     refine ⟨fun h => absurd h (by decide), fun _ => ?_⟩
     unfold opGives
     simp [execOp, Act.eval, D27, go_sem, givesUpon]
     exact ⟨(Fr.refl _ _).alloc _, ⟨_, rfl, Bx.new_ rfl, hbs⟩, Nat.le_refl _⟩
   intro vs WR hWR hv hne
   have e0 : vs 0 = _ := hv 0 (by omega)
   have e1 : vs 1 = _ := hv 1 (by omega)
   have e2 : vs 2 = _ := hv 2 (by omega)
   have e3 : vs 3 = _ := hv 3 (by omega)
   have e4 : vs 4 = _ := hv 4 (by omega)
   have e5 : vs 5 = _ := hv 5 (by omega)
   have e6 : vs 6 = _ := hv 6 (by omega)
   have e7 : vs 7 = _ := hv 7 (by omega)
   have e8 : vs 8 = _ := hv 8 (by omega)
   have e9 : vs 9 = _ := hv 9 (by omega)
   have e10 : vs 10 = _ := hv 10 (by omega)
   have e11 : vs 11 = _ := hv 11 (by omega)
   have e12 : vs 12 = _ := hv 12 (by omega)
   have e13 : vs 13 = _ := hv 13 (by omega)
   obtain ⟨b14, e14, hb14, hl14⟩ := hv 14 (by omega)
   simp only [List.take_succ_cons, List.take_zero, List.drop_succ_cons, List.drop_zero, putsL, if_true, Nat.zero_add, Nat.reduceAdd, e0, e1, e2, e3, e4, e5, e6, e7, e8, e9, e10, e11, e12, e13, e14]
   simp only [Act.put, List.setIfInBounds_toArray, List.set_cons_zero, List.set_cons_succ]
   clear e0 e1 e2 e3 e4 e5 e6 e7 e8 e9 e10 e11 e12 e13 e14 hv
   clear hne KF KR KL
   have hLR := hL0.keep hWR
   have hrowR := ownsRow_keepX hrow0 hWR (fun _ h => h.elim)
   have hrl := hrowR.lt
   have hfwR : Fr (fun x => x = b ∨ base ≤ x) w WR := (hw.trans0 hf0).trans0 hWR
   have hRR := hR0.keep hWR
   have hs0 := hWR.size
   have hs1 := hf0.size
   clear hF hR0 hL0 hrow0 hrow hbr hB0 hw
   replace hrl := Lib.hid hrl
   have hown := own_ty_ne hrowR hRR (by decide)
   replace hown := Lib.hid hown
   replace hxl := Lib.hid hxl
   have hsrc : Hid (∀ (j : Nat) (u : Value), (lfCells ⟨⟨rk, rn⟩, xs.length, f.kind⟩)[j]? = some u → WR.cell? ((⟨b14, 0, none⟩ : Addr).add j) = some u) := fun j u h => by
    rw [show ((⟨b14, 0, none⟩ : Addr).add j) = ⟨b14, j, none⟩ by simp [Addr.add]; omega]
    rw [hb14.cell]
    simpa [lfCells] using h
   go_wp2_with (at_builtin; refine wpList_append_own _ rfl _ _ 151 rfl base 154 i0 (.agg #[.int .i64 0, .string ⟨#[]⟩, .int .i64 0, .int .i64 0, .string ⟨#[]⟩]) 5 56 Tryz.underlying151 hi.out hz0.out hz1.out hz2.out rfl (by decide) _ _ _ rfl hrowR ⟨b14, 0, none⟩ 1 1 (lfCells ⟨⟨rk, rn⟩, xs.length, f.kind⟩) rfl rfl hsrc.out (by simp [lfCells, Value.oneCell']) (by unfold maxLen; omega) (by omega) (by omega) ?_; intro v' w1 hown' hgrow hnil; obtain ⟨g', cap', rfl⟩ := ownsRow_succ hown'; have hfg : Fr (fun x => base ≤ x) WR w1 := (Fr.refl _ WR).grown hgrow (fun k e => .inr (hrl.out k e).1); have hfo : Fr (fun x => (Value.slice Av xs.length cv).ownBlock = some x) WR w1 := (Fr.refl _ WR).grown hgrow (fun k e => .inr e); have p5 := hLR.keepX hfg (by first | omega | (dsimp only; omega)); have e6 := p5.c1; have f6 := fun j => p5.frozen j; have l7 := p5.lt)
   have hfs : Fr (fun x => x = b) w1 (w1.setCell ⟨b, 0, none⟩ (.slice (some ⟨g', 0, none⟩) (xs.length + 1) cap')) := Fr.setCellX (X := fun x => x = b) (p := ⟨b, 0, none⟩) (Fr.refl _ w1) (by rfl) _
   have hfin : Fr (fun x => x = b ∨ base ≤ x) w (w1.setCell ⟨b, 0, none⟩ (.slice (some ⟨g', 0, none⟩) (xs.length + 1) cap')) := (hfwR.trans hfg (fun x _ hx => .inr hx)).trans hfs (fun x _ hx => .inl hx)
   have hr1 : w1.ownsRow base 154 5 (.slice (some ⟨g', 0, none⟩) (xs.length + 1) cap') (xs ++ [(⟨⟨rk, rn⟩, xs.length, f.kind⟩ : LFld)]).length ((xs ++ [(⟨⟨rk, rn⟩, xs.length, f.kind⟩ : LFld)]).flatMap lfCells) := by
    rw [List.flatMap_append, List.length_append]
    simpa using hown'
   have hr2 := ownsRow_keepX hr1 hfs (fun x (hx : x = b) => by omega)
   have hR2 := (hRR.keepX hfo (fun e => hown.out _ e rfl)).keepX hfs (by first | omega | (dsimp only; omega))
   go_roundw
   case rel => exact ⟨k + 1, xs ++ [⟨⟨rk, rn⟩, xs.length, f.kind⟩], _, by omega, by go_num, hd.out, by have := hxl.out; simp; omega, hR2, p5.set_ 0 _, hr2, hfin⟩
   case measure => simp [intOf]; omega
  ·clear hs
   have HS : Hid (layAdd ⟨rk, rn⟩ cur fs = xs) := by have := hd.out; rwa [List.drop_eq_nil_of_le (by omega), layAdd_nil] at this
   go_wp2
   go_end0
   exact ⟨⟨_, rfl⟩, ⟨u, hbr, by rw [HS.out]; exact hrow⟩, hw⟩
end Go.Proofs.YtbalicnnlfennaaGreat

namespace Go.Proofs.YtbalicnnlfennaaGreat
open Go.RowKit Go.Shelf
attribute [local go_sem] Oper.semAt_some

def accJ (p : Plan) (rs : List Ref) (j : Nat) : List LFld := layGo 0 (fldsOf p (rs.reverse.take j))
theorem accJ_zero (p : Plan) (rs : List Ref) : accJ p rs 0 = [] := by simp [accJ, fldsOf, layGo]
theorem bwOK_rev {xs : List Ref} {j : Nat} {x : Int × Ref} (h : bwOK xs j x) : ∃ h : j < xs.reverse.length, xs.reverse[j] = x.2 := by
 obtain ⟨h1, _, h3⟩ := h
 refine ⟨by simpa using h1, ?_⟩
 rw [List.getElem_reverse]
 rw [List.getElem?_eq_getElem (by omega)] at h3
 exact Option.some.inj h3
theorem accJ_step (p : Plan) {rs : List Ref} {j : Nat} {x : Int × Ref} (h : bwOK rs j x) : accJ p rs (j + 1) = layAdd x.2 (accJ p rs j) (clsAt p x.2).fields := by
 obtain ⟨hj, he⟩ := bwOK_rev h
 unfold accJ layAdd
 rw [List.take_succ_eq_append_getElem hj, he, fldsOf_append, layGo_append, layGo_len, Nat.zero_add]
 simp [fldsOf]
theorem accJ_all (p : Plan) (rs : List Ref) : accJ p rs rs.length = layL p rs := by
 unfold accJ layL
 rw [List.take_of_length_le (by simp)]
theorem accJ_len {p : Plan} (hp : lodB p = true) {rs : List Ref} (h : AllHere p rs) (j : Nat) : (accJ p rs j).length ≤ 3 * rs.length := by
 unfold accJ
 rw [layGo_len]
 have h1 := fldsOf_len hp (rs := rs.reverse.take j) (fun x hx => h x (by simpa using List.mem_of_mem_take hx))
 have h2 : (rs.reverse.take j).length ≤ rs.length := by simp; omega
 omega
theorem ownsRow_len2 {w : World} {base sz n : Nat} {e : TypeId} {v : Value} {xs : List Value} (h : w.ownsRow base e sz v n xs) : ∃ A c, v = .slice A n c := by
 obtain ⟨_, ⟨rfl, rfl⟩ | ⟨g, cap, cur, rfl, _⟩⟩ := h <;> exact ⟨_, _, rfl⟩
theorem ownsRow_base {w : World} {base base' sz n : Nat} {e : TypeId} {v : Value} {xs : List Value} (h : w.ownsRow base e sz v n xs) (hb : base' ≤ base) : w.ownsRow base' e sz v n xs := by
 obtain ⟨h1, h2 | ⟨g, cap, cur, h2, h3, h4⟩⟩ := h
 ·exact ⟨h1, .inl h2⟩
 ·exact ⟨h1, .inr ⟨g, cap, cur, h2, Nat.le_trans hb h3, h4⟩⟩
def LayT (p : Plan) (rs : List Ref) (l c b lo base : Nat) (lb : Nat) (A : Option Addr) (cap : Nat) (w0 : World) (j : Nat) (W : World) : Prop :=
 Fr No w0 W ∧ Bx W c 136 #[.slice A rs.length cap] ∧ Sl (fun x => x = b ∨ lo ≤ x) W 2 RefC (.slice A rs.length cap) rs ∧ Bx W lb 71 #[.pointer (some ⟨l, 0, none⟩)] ∧
 ∃ v, Bx W b 188 #[v] ∧ W.ownsRow base 154 5 v (accJ p rs j).length ((accJ p rs j).flatMap lfCells)
theorem LayT.keepX {p : Plan} {rs : List Ref} {l c b lo base lb cap : Nat} {A : Option Addr} {w0 W W' : World} {j : Nat} {X : Nat → Prop} (h : LayT p rs l c b lo base lb A cap w0 j W) (hf : Fr X W W')
  (hX : ∀ x, X x → w0.heap.size ≤ x ∧ x ≠ c ∧ x ≠ b ∧ x ≠ lb ∧ x < base ∧ lo ≤ x) : LayT p rs l c b lo base lb A cap w0 j W' := by
 obtain ⟨h1, h2, h3, h4, v, h5, h6⟩ := h
 exact ⟨h1.trans hf (fun x hx hy => by have := hX x hy; omega), h2.keepX hf (fun hx => (hX _ hx).2.1 rfl), h3.keep hf (fun x hx => .inr (hX x hx).2.2.2.2.2) (fun _ _ _ h => h), h4.keepX hf (fun hx => (hX _ hx).2.2.2.1 rfl), v, h5.keepX hf (fun hx => (hX _ hx).2.2.1 rfl), ownsRow_keepX h6 hf (fun x hx => (hX x hx).2.2.2.2.1)⟩
theorem LayT.keep {p : Plan} {rs : List Ref} {l c b lo base lb cap : Nat} {A : Option Addr} {w0 W W' : World} {j : Nat} (h : LayT p rs l c b lo base lb A cap w0 j W) (hf : Fr No W W') : LayT p rs l c b lo base lb A cap w0 j W' := h.keepX hf (fun _ h => h.elim)
def LayPost (L : List LFld) (p : Plan) (l bl n : Nat) (w : World) (e : Ending) (w' : World) : Prop :=
 ∃ v, e = .returned v ∧ w'.ownsRow w.heap.size 154 5 v L.length (L.flatMap lfCells) ∧ Fr (fun b => b = bl) w w' ∧ Lg w' l bl n p

set_option maxRecDepth 100000 in
set_option maxHeartbeats 8000000 in
theorem layout_ok (l bl n : Nat) (p : Plan) (r : Ref) (w : World) (h : Lg w l bl n p) (hr : r.name.size ≤ maxLen) (wk : (Lit.int .i64 r.keeper).wf = true) (hn : n < 1000000) :
  Calls Tryz.prog 76 #[.pointer (some ⟨l, 0, none⟩), .agg #[.int .i64 r.keeper, .string r.name]] w (LayPost (layB p r) p l bl (n + 1) w) := by
 obtain ⟨rk, rn⟩ := r
 dsimp only at hr wk
 have hlt := h.lt
 have h0 := h
 have hp := h.ok
 obtain ⟨wA, hwA⟩ : ∃ wA, wA = ((w.alloc (.cells #[.pointer (some ⟨l, 0, none⟩)] 71)).alloc (.cells #[.int .i64 rk, .string rn] 54)) := ⟨_, rfl⟩
 have hfA : Fr No w wA := hwA ▸ frc
 have B0 : Bx wA w.heap.size 71 #[.pointer (some ⟨l, 0, none⟩)] := hwA ▸ bxc
 have B1 : Bx wA (w.heap.size + 1) 54 #[.int .i64 rk, .string rn] := hwA ▸ bxc
 have HC := fun W (hW : Fr No wA W) => canLay_ok l bl n p ⟨rk, rn⟩ W ((h.keep hfA).keep hW) hr wk hn
 have hlay : layB p ⟨rk, rn⟩ = if canB p ⟨rk, rn⟩ then layL p (chainK p ⟨rk, rn⟩) else [] := rfl
 have hall := chainK_here hp ⟨rk, rn⟩
 have hlen : (chainK p ⟨rk, rn⟩).length ≤ 6 := chainK_len hp _
 have HCH := fun (g : Int → Str → Option Int) W (hW : Lodge W l bl (n + 1) p g) => chain_ok l bl (n + 1) p g ⟨rk, rn⟩ W hW hr
 generalize hL : layB p ⟨rk, rn⟩ = L at *
 replace hL := Lib.hid hL
 replace hlay := Lib.hid hlay
 unfold CanPost at HC
 have A0 := B0.c1
 obtain ⟨A1, A2⟩ := B1.c2
 have L0 := B0.lt
 have L1 := B1.lt
 clear h
 refine (callsIn_wide (n := 4)).1 ?_
 refine callsIn_of_wp_marks Tryz.func76 rfl trivial ?_ rfl
 simp only [Tryz.ntmps76, List.size_toArray, List.length_cons, List.length_nil, Nat.reduceAdd, Nat.reduceSub, Array.replicate_succ, Array.replicate_zero, List.push_toArray, List.append_toArray, List.nil_append, List.cons_append]
 gi_wp2_with fail
 rw [← hwA]
 replace hwA := Lib.hid hwA
 refine ⟨trivial, (callsIn_wide.2 (HC _ (Fr.refl _ _))).mono ?_⟩
 rintro e w1 ⟨rfl, hf1, hL1⟩
 have hw1 : Fr (fun b => b = bl) w w1 := hfA.of0.same hf1
 have hB0 := B0.keepX hf1 (by omega)
 have hB1 := B1.keepX hf1 (by omega)
 have hs1 := hf1.size
 obtain ⟨g, hLo, hg⟩ := hL1
 clear A0 A1 A2 L0 L1 HC B0 B1
 cases hc : canB p ⟨rk, rn⟩
 ·have HS : Hid (L = []) := hlay.out.trans (by rw [hc]; rfl)
  clear hlay hall hlen HCH hL hc
  gi_wp2
  exact ⟨.slice none 0 0, by simp [results, Tryz.results76, go_sem], _, rfl, by rw [HS.out]; exact World.ownsRow_nil _ _ _ _, hw1, h0.over ⟨g, hLo, hg⟩ hw1 frx⟩
 ·have HS : Hid (L = layL p (chainK p ⟨rk, rn⟩)) := hlay.out.trans (by rw [hc]; rfl)
  generalize chainK p ⟨rk, rn⟩ = xs at *
  clear hlay hL hc
  obtain ⟨x0, x1⟩ := hB1.c2
  have y0 := hB0.c1
  have hl0 := hB0.lt
  have hl1 := hB1.lt
  gi_wp2_with (first
   | (refine ⟨trivial, ?_⟩; gi_at_call 71; refine (callsIn_wide.2 (HCH g _ (hLo.keep frc))).mono ?_; rintro e w2 ⟨v2, rfl, hsl, hf2⟩; obtain ⟨A2, c2, rfl, _, _⟩ := hsl.form)
   | (refine ⟨trivial, ?_⟩; gi_at_call 117; refine (callsIn_wide.2 (backward_ok _ _ _ _)).mono ?_; rintro e w' ⟨rfl, rfl⟩))
  have hbN : Bx w2 w1.heap.size 188 #[.slice none 0 0] := (Bx.new_ rfl).keep hf2
  have hap := refs_apart hsl hbN
  have hsz2 := hf2.size
  simp at hsz2
  have hwl := hl0
  obtain ⟨W0, hW0⟩ : ∃ W0, W0 = w2.alloc (.cells #[.slice A2 xs.length c2] 136) := ⟨_, rfl⟩
  have hfW : Fr No w1 W0 := hW0 ▸ frc
  have hf20 : Fr No w2 W0 := hW0 ▸ frc
  have hsz : W0.heap.size = w2.heap.size + 1 := by rw [hW0]; simp
  have hT0 : LayT p xs l w2.heap.size w1.heap.size w2.heap.size (W0.heap.size + 2) w.heap.size A2 c2 w1 0 W0 :=
   ⟨hfW, hW0 ▸ Bx.new_ rfl, hap.keep hf20 (fun _ h => h.elim) (fun _ _ _ h => h), hB0.keep hfW, _, hbN.keep hf20, by rw [accJ_zero]; exact World.ownsRow_nil _ _ _ _⟩
  rw [← hW0]
  clear hbN hap hW0 hfW hf20 hf2 hsl x0 x1 y0 hl0 hl1 HCH hB1
  refine bwd_law (n := 2) (fun x => x = w1.heap.size ∨ w2.heap.size ≤ x) xs A2 c2 w2.heap.size (by omega) rfl rfl (LayT p xs l w2.heap.size w1.heap.size w2.heap.size (W0.heap.size + 2) w.heap.size A2 c2 w1) (fun _ => False)
   (fun j W h => ⟨h.2.1, h.2.2.1⟩) (fun j W W' h hf => h.keepX hf (fun x (hx : x = W0.heap.size + 1) => by omega)) (fun _ _ h _ => h) (fun o o' => hT0.keep (((Fr.refl No _).alloc _).alloc _)) (by omega) ?round ?done (fun _ h _ => h.elim)
  case done =>
   rintro W hT hD
   obtain ⟨q1, q2, q3, q4, v, q5, q6⟩ := hT
   obtain ⟨Av, cv, rfl⟩ := ownsRow_len2 q6
   have e5 := q5.c1
   have l5 := q5.lt
   rw [accJ_all] at q6 e5
   replace hD := Lib.hid hD
   clear q5
   gi_wp2
   refine ⟨by simp, .inl ⟨_, _, rfl, run_takeDeferred hD.out, ?_⟩⟩
   have hfp : Fr (fun b => b = W0.heap.size) W (W.putObj W0.heap.size (.deferred none)) := (Fr.refl _ W).putObj _ rfl
   have q7 := ownsRow_keepX q6 hfp (fun x (hx : x = W0.heap.size) => by omega)
   have hwf : Fr (fun b => b = bl) w (W.putObj W0.heap.size (.deferred none)) := (hw1.trans0 q1).trans hfp (fun x hx (hy : x = W0.heap.size) => by omega)
   have hf1p : Fr No w1 (W.putObj W0.heap.size (.deferred none)) := q1.trans hfp (fun x hx (hy : x = W0.heap.size) => by omega)
   refine ⟨.slice Av (layL p xs).length cv, by simp [results, Tryz.results76, go_sem], _, rfl, by rw [HS.out]; exact ownsRow_base q7 (by omega), hwf, h0.over ⟨g, hLo.keep hf1p, hg⟩ hwf frx⟩
  case round =>
   intro j x W hT hO hlt
   have e : ∀ t : Array Value, ((#[16, 17] : Array Nat).zip (bwA x)).foldl (fun t x => t.setIfInBounds x.1 x.2) t = (t.setIfInBounds 16 (.int .i64 x.1)).setIfInBounds 17 (.agg #[.int .i64 x.2.keeper, .string x.2.name]) := fun t => by simp [bwA]
   simp only [e, List.setIfInBounds_toArray, List.set_cons_succ, List.set_cons_zero]
   clear e
   obtain ⟨px, ⟨kq, sq⟩⟩ := x
   gi_wp2
   refine ⟨⟨Below.heap_alloc _ _ _ hlt, Below.heap_alloc _ _ _ (by omega)⟩, ?_⟩
   intro W2 hf2
   have hT2 := (hT.keep ((Fr.refl No W).alloc (.cells #[.int .i64 kq, .string sq] 54))).keepX hf2 (fun x (hx : x = W0.heap.size + 1) => by omega)
   have hC2 := (Bx.new W 54 #[.int .i64 kq, .string sq]).keepX hf2 (by first | omega | (dsimp only; omega))
   obtain ⟨_, kc, ix, hhr⟩ := hall _ (by obtain ⟨_, _, h3⟩ := hO; exact List.mem_of_getElem? h3)
   obtain rfl : kq = (kc : Int) := hhr.1
   have hst := accJ_step p hO
   have hl3 := accJ_len hp hall (j + 1)
   rw [hst] at hl3
   obtain ⟨q1, q2, q3, q4, v, q5, q6⟩ := hT2
   have hsq : sq.size ≤ maxLen := (hall _ (by obtain ⟨_, _, h3⟩ := hO; exact List.mem_of_getElem? h3)).1
   obtain ⟨Af, cf, Am, cm, hR, HC1⟩ := here_class hLo hhr hsq
   have HCl := fun W' (hW : Fr No W2 W') => HC1 W' (q1.trans0 hW)
   have KC := hC2.r2
   have KL := q4.r1
   have hfl : Sl (fun b => b = bl ∨ w1.heap.size ≤ b) W2 3 FldC (.slice Af (clsAt p ⟨kc, sq⟩).fields.length cf) (clsAt p ⟨kc, sq⟩).fields := by obtain ⟨_, _, he, _, _, h, _⟩ := hR; cases he; exact (h.oldX (by decide) (fun _ _ _ h => h)).keep q1 (fun _ h => h.elim) (fun _ _ _ h => h)
   gi_wp2_with fail
   refine wpIn_region_monL 5 [isV (.agg #[.int .i64 kc, .string sq]), isV (.pointer (some ⟨l, 0, none⟩)), isV (.agg #[.int .i64 kc, .string sq]), isV (.agg #[.string (clsAt p ⟨kc, sq⟩).name, .string (clsAt p ⟨kc, sq⟩).super, .slice Af (clsAt p ⟨kc, sq⟩).fields.length cf, .slice Am (clsAt p ⟨kc, sq⟩).methods.length cm]), isV (.slice Af (clsAt p ⟨kc, sq⟩).fields.length cf)] [false, false, false, false, false] [false, false, false, false, false] ?_ (by kernel_rfl) (by kernel_rfl) ?_ ?_ (by kernel_rfl) ?_ ?_
   ·intro x hx hb v W h
    simp only [List.zip_cons_cons, List.zip_nil_left, List.mem_cons, List.not_mem_nil, or_false] at hx
    rcases hx with rfl | rfl | rfl | rfl | rfl <;> first | (cases hb; done) | exact atB_bk h
   ·intro o ho d hd; simp only [List.take_succ_cons, List.take_zero, List.mem_cons, List.not_mem_nil, or_false] at ho; rcases ho with rfl | rfl | rfl | rfl | rfl <;> (cases hd; simp)
   ·intro x hx
    simp only [List.mem_cons, List.not_mem_nil, or_false] at hx
    rcases hx with rfl | rfl | rfl | rfl | rfl
    ·exact isV_mono _
    ·exact isV_mono _
    ·exact isV_mono _
    ·exact isV_mono _
    ·exact isV_mono _
   ·intro k o ho a' W hW hoff hdep
    have hbs := hW.size
    have H7 := hoff 7 (by simp)
    have H2 := hoff 2 (by simp)
    simp only [Act.eval] at H7 H2
    simp only [List.take_succ_cons, List.take_zero] at ho hdep
    rcases k with _ | _ | _ | _ | _ | k
    all_goals (first | (simp at ho; done) | skip)
    all_goals simp only [List.getElem?_cons_zero, List.getElem?_cons_succ, Option.some.injEq] at ho
    all_goals subst ho
    ·refine ⟨fun h => absurd h (by decide), fun _ => ?_⟩
     unfold opGives
     simp [execOp, Act.eval, go_sem, givesUpon, *]
     exact ⟨Fr.refl _ _, rfl⟩
    ·refine ⟨fun h => absurd h (by decide), fun _ => ?_⟩
     unfold opGives
     simp [execOp, Act.eval, go_sem, givesUpon, *]
     exact ⟨Fr.refl _ _, rfl⟩
    ·refine ⟨fun h => absurd h (by decide), fun _ => ?_⟩
     unfold opGives
     simp [execOp, Act.eval, go_sem, givesUpon, *]
     exact ⟨Fr.refl _ _, rfl⟩
    ·have D19 : a'.eval (.tmp 19) = .pointer (some ⟨l, 0, none⟩) := hdep ⟨1, .data⟩ (by simp) rfl _ 19 rfl rfl
     have D20 : a'.eval (.tmp 20) = .agg #[.int .i64 kc, .string sq] := hdep ⟨2, .data⟩ (by simp) rfl _ 20 rfl rfl
     simp only [Act.eval] at D19 D20
     refine ⟨fun h => absurd h (by decide), fun _ => ?_⟩
     unfold opGives
     simp [Act.eval, D19, D20, go_sem, givesUpon]
     exact (HCl _ hW).mono fun e w' h => ⟨_, h.1, h.2, rfl⟩
    ·have D21 : a'.eval (.tmp 21) = .agg #[.string (clsAt p ⟨kc, sq⟩).name, .string (clsAt p ⟨kc, sq⟩).super, .slice Af (clsAt p ⟨kc, sq⟩).fields.length cf, .slice Am (clsAt p ⟨kc, sq⟩).methods.length cm] := hdep ⟨3, .data⟩ (by simp) rfl _ 21 rfl rfl
     simp only [Act.eval] at D21
     refine ⟨fun h => absurd h (by decide), fun _ => ?_⟩
     unfold opGives
     simp [execOp, Act.eval, D21, go_sem, givesUpon]
     exact ⟨Fr.refl _ _, rfl⟩
   intro vs WR hWR hv hne
   have e0 : vs 0 = _ := hv 0 (by omega)
   have e1 : vs 1 = _ := hv 1 (by omega)
   have e2 : vs 2 = _ := hv 2 (by omega)
   have e3 : vs 3 = _ := hv 3 (by omega)
   have e4 : vs 4 = _ := hv 4 (by omega)
   simp only [List.take_succ_cons, List.take_zero, List.drop_succ_cons, List.drop_zero, putsL, if_true, Nat.zero_add, Nat.reduceAdd, e0, e1, e2, e3, e4]
   simp only [Act.put, List.setIfInBounds_toArray, List.set_cons_zero, List.set_cons_succ]
   clear e0 e1 e2 e3 e4 hv
   have q1R := q1.trans0 hWR
   have hA := add_ok (fun x => x = bl ∨ w1.heap.size ≤ x) w1.heap.size (W0.heap.size + 2) ⟨kc, sq⟩ Af cf (clsAt p ⟨kc, sq⟩).fields (accJ p xs j) v WR (q5.keep hWR) (ownsRow_keepX q6 hWR (fun _ h => h.elim)) (hfl.keep hWR (fun _ h => h.elim) (fun _ _ _ h => h)) (fun x hx => .inr (by omega)) (by omega) (by have := hWR.size; have := hf2.size; simp at *; omega) (by unfold layAdd at hl3; simp [layGo_len] at hl3; omega)
   go_wp2_with (go_at_call 118; refine hA.mono ?_; rintro e w9 ⟨⟨v9, rfl⟩, ⟨v', hb9, hr9⟩, hf9⟩)
   have hs2 := hf2.size
   have hsR := hWR.size
   simp at hs2
   refine ⟨⟨(hf9.block _ (by omega) (by first | omega | (dsimp only; omega))).trans (hWR.block _ (by omega) (fun h => h)), (hf9.block _ (by omega) (by first | omega | (dsimp only; omega))).trans (hWR.block _ (by omega) (fun h => h))⟩, ?_⟩
   exact ⟨q1R.trans hf9 (fun x hx hy => by omega), (q2.keep hWR).keepX hf9 (by first | omega | (dsimp only; omega)), (q3.keep hWR (fun _ h => h.elim) (fun _ _ _ h => h)).keep hf9 (fun x hx => by omega) (fun _ _ _ h => h), (q4.keep hWR).keepX hf9 (by first | omega | (dsimp only; omega)), v', hb9, by rw [hst]; exact hr9⟩
end Go.Proofs.YtbalicnnlfennaaGreat

namespace Go.Proofs.YtbalicnnlfennaaGreat
open Go.RowKit Go.Shelf
attribute [local go_sem] Oper.semAt_some

theorem refs_apart1 {w : World} {v u : Value} {rs : List Ref} {b : Nat} {t : TypeId} (h : Sl No w 2 RefC v rs) (hb : Bx w b t #[u]) : Sl (fun x => x = b ∨ w.heap.size ≤ x) w 2 RefC v rs := by
 obtain ⟨A', cap, rfl, h1, h2, h3⟩ := h
 refine ⟨A', cap, rfl, h1, h2, fun h0 => ?_⟩
 obtain ⟨g, off, rfl, hX, hc⟩ := h3 h0
 refine ⟨g, off, rfl, ?_, hc⟩
 obtain ⟨cs, ⟨rfl, _⟩, _, hcs⟩ := hc 0 h0
 have c0 := hcs 1 (by decide)
 simp only [Nat.zero_mul, Nat.add_zero, List.getElem?_cons_succ, List.getElem?_cons_zero] at c0
 have hl := lt_of_cell c0
 rintro (rfl | h)
 ·rw [hb.cell] at c0
  simp at c0
 ·omega
def FstT (p : Plan) (rs : List Ref) (q : Ref) (l c lb ob fb : Nat) (A : Option Addr) (cap : Nat) (w0 : World) (j : Nat) (W : World) : Prop :=
 Fr No w0 W ∧ Bx W c 136 #[.slice A rs.length cap] ∧ Sl (fun x => x = fb ∨ c ≤ x) W 2 RefC (.slice A rs.length cap) rs ∧ Bx W lb 71 #[.pointer (some ⟨l, 0, none⟩)] ∧ Bx W ob 54 #[.int .i64 q.keeper, .string q.name] ∧
 ∃ n : Nat, Hid (firstLen p rs.reverse q = n + firstLen p (rs.reverse.drop j) q) ∧ n ≤ 3 * j ∧ Bx W fb 3 #[.int .i64 n]
theorem FstT.keepX {p : Plan} {rs : List Ref} {q : Ref} {l c lb ob fb cap : Nat} {A : Option Addr} {w0 W W' : World} {j : Nat} {X : Nat → Prop} (h : FstT p rs q l c lb ob fb A cap w0 j W) (hf : Fr X W W')
  (hX : ∀ x, X x → w0.heap.size ≤ x ∧ x ≠ c ∧ x ≠ lb ∧ x ≠ ob ∧ x ≠ fb) (hsl : Sl (fun x => x = fb ∨ c ≤ x) W' 2 RefC (.slice A rs.length cap) rs) : FstT p rs q l c lb ob fb A cap w0 j W' := by
 obtain ⟨h1, h2, h3, h4, h5, n, h6, h7, h8⟩ := h
 exact ⟨h1.trans hf (fun x hx hy => (by have := hX x hy; omega)), h2.keepX hf (fun hx => (hX _ hx).2.1 rfl), hsl, h4.keepX hf (fun hx => (hX _ hx).2.2.1 rfl), h5.keepX hf (fun hx => (hX _ hx).2.2.2.1 rfl), n, h6, h7, h8.keepX hf (fun hx => (hX _ hx).2.2.2.2 rfl)⟩

set_option maxRecDepth 100000 in
set_option maxHeartbeats 8000000 in
theorem firstField_ok (l bl nn : Nat) (p : Plan) (g : Int → Str → Option Int) (q r : Ref) (w : World) (h : Lodge w l bl nn p g) (hr : r.name.size ≤ maxLen) (hq : q.name.size ≤ maxLen) :
  Calls Tryz.prog 120 #[.pointer (some ⟨l, 0, none⟩), .agg #[.int .i64 q.keeper, .string q.name], .agg #[.int .i64 r.keeper, .string r.name]] w (Gives (.int .i64 (firstLen p (chainK p r).reverse q)) w) := by
 obtain ⟨rk, rn⟩ := r
 obtain ⟨qk, qn⟩ := q
 dsimp only at hr hq
 have hp := h.1
 have hall := chainK_here hp ⟨rk, rn⟩
 have hlen : (chainK p ⟨rk, rn⟩).length ≤ 6 := chainK_len hp _
 have HCH := fun W (hW : Fr No w W) => chain_ok l bl nn p g ⟨rk, rn⟩ W (h.keep hW) hr
 generalize chainK p ⟨rk, rn⟩ = xs at *
 refine (callsIn_wide (n := 4)).1 ?_
 refine callsIn_of_wp_marks Tryz.func120 rfl trivial ?_ rfl
 simp only [Tryz.ntmps120, List.size_toArray, List.length_cons, List.length_nil, Nat.reduceAdd, Nat.reduceSub, Array.replicate_succ, Array.replicate_zero, List.push_toArray, List.append_toArray, List.nil_append, List.cons_append]
 gi_wp2_with (first
   | (refine ⟨trivial, ?_⟩; gi_at_call 71; refine (callsIn_wide.2 (HCH _ frc)).mono ?_; rintro e w2 ⟨v2, rfl, hsl, hf2⟩; obtain ⟨A2, c2, rfl, _, _⟩ := hsl.form)
   | (refine ⟨trivial, ?_⟩; gi_at_call 117; refine (callsIn_wide.2 (backward_ok _ _ _ _)).mono ?_; rintro e w' ⟨rfl, rfl⟩))
 obtain ⟨wB, hwB⟩ : ∃ wB, wB = ((((w.alloc (.cells #[.pointer (some ⟨l, 0, none⟩)] 71)).alloc (.cells #[.int .i64 qk, .string qn] 54)).alloc (.cells #[.int .i64 rk, .string rn] 54)).alloc (.cells #[.int .i64 0] 3)) := ⟨_, rfl⟩
 have hfB : Fr No w wB := hwB ▸ frc
 have b0 : Bx wB w.heap.size 71 #[.pointer (some ⟨l, 0, none⟩)] := hwB ▸ bxc
 have b1 : Bx wB (w.heap.size + 1) 54 #[.int .i64 qk, .string qn] := hwB ▸ bxc
 have b3 : Bx wB (w.heap.size + 1 + 1 + 1) 3 #[.int .i64 0] := hwB ▸ bxc
 have hszB : wB.heap.size = w.heap.size + 4 := by rw [hwB]; simp
 rw [← hwB] at hf2
 have hs2 := hf2.size
 obtain ⟨W0, hW0⟩ : ∃ W0, W0 = w2.alloc (.cells #[.slice A2 xs.length c2] 136) := ⟨_, rfl⟩
 have hf20 : Fr No w2 W0 := hW0 ▸ frc
 have hsz : W0.heap.size = w2.heap.size + 1 := by rw [hW0]; simp
 have hT0 : FstT p xs ⟨qk, qn⟩ l w2.heap.size w.heap.size (w.heap.size + 1) (w.heap.size + 1 + 1 + 1) A2 c2 w 0 W0 :=
  ⟨(hfB.trans0 hf2).trans0 hf20, hW0 ▸ Bx.new_ rfl, (refs_apart1 hsl (b3.keep hf2)).keep hf20 (fun _ h => h.elim) (fun _ _ _ h => h), (b0.keep hf2).keep hf20, (b1.keep hf2).keep hf20, 0, by rw [List.drop_zero, Nat.zero_add]; exact rfl, by omega, (b3.keep hf2).keep hf20⟩
 rw [← hW0]
 clear hwB hW0 hf20 hf2 hsl b0 b1 b3 hfB
 have hkeep : ∀ j W W', FstT p xs ⟨qk, qn⟩ l w2.heap.size w.heap.size (w.heap.size + 1) (w.heap.size + 1 + 1 + 1) A2 c2 w j W → ∀ X : Nat → Prop, Fr X W W' → (∀ x, X x → W0.heap.size ≤ x) → FstT p xs ⟨qk, qn⟩ l w2.heap.size w.heap.size (w.heap.size + 1) (w.heap.size + 1 + 1 + 1) A2 c2 w j W' := fun j W W' h X hf hX => by
  exact h.keepX hf (fun x hx => by have := hX x hx; omega) (h.2.2.1.keep hf (fun x hx => .inr (by have := hX x hx; omega)) (fun _ _ _ h => h))
 refine bwd_lawX 0 (n := 2) (fun x => x = w.heap.size + 1 + 1 + 1 ∨ w2.heap.size ≤ x) xs A2 c2 w2.heap.size (by omega) rfl rfl (FstT p xs ⟨qk, qn⟩ l w2.heap.size w.heap.size (w.heap.size + 1) (w.heap.size + 1 + 1 + 1) A2 c2 w)
  (fun W => Fr No w W ∧ Bx W (w.heap.size + 1 + 1 + 1) 3 #[.int .i64 (firstLen p xs.reverse ⟨qk, qn⟩)])
  (fun j W h => ⟨h.2.1, h.2.2.1⟩) (fun j W W' h hf => hkeep j W W' h _ hf (fun x (hx : x = W0.heap.size + 1) => by omega)) (fun W W' h hf => ⟨h.1.trans hf (fun x hx (hy : x = W0.heap.size + 1) => by omega), h.2.keepX hf (by first | omega | (dsimp only; omega))⟩) (fun o o' => hkeep 0 _ _ hT0 _ (((Fr.refl No _).alloc _).alloc _) (fun _ h => h.elim)) (by omega) ?round ?done ?stop
 case done =>
  rintro W hT hD
  obtain ⟨q1, q2, q3, q4, q5, n, q6, q7, q8⟩ := hT
  have q6' : Hid (firstLen p xs.reverse ⟨qk, qn⟩ = n) := by
   have := q6.out
   rwa [List.drop_of_length_le (by simp), firstLen, Nat.add_zero] at this
  have e5 := q8.c1
  have l5 := q8.lt
  replace hD := Lib.hid hD
  clear q6 q2 q3 q4 q5 hT0
  gi_wp2
  refine ⟨by simp, .inl ⟨_, _, rfl, run_takeDeferred hD.out, ?_⟩⟩
  have hfp : Fr (fun b => b = W0.heap.size) W (W.putObj W0.heap.size (.deferred none)) := (Fr.refl _ W).putObj _ rfl
  exact ⟨.int .i64 n, by simp [results, Tryz.results120, go_sem], by rw [q6'.out], q1.trans hfp (fun x hx (hy : x = W0.heap.size) => by omega)⟩
 case stop =>
  rintro W ⟨hf, hb⟩ hD
  have e5 := hb.c1
  have l5 := hb.lt
  generalize firstLen p xs.reverse ⟨qk, qn⟩ = n at *
  replace hD := Lib.hid hD
  clear hb hT0
  gi_wp2
  refine ⟨by simp, .inl ⟨_, _, rfl, run_takeDeferred hD.out, ?_⟩⟩
  have hfp : Fr (fun b => b = W0.heap.size) W (W.putObj W0.heap.size (.deferred none)) := (Fr.refl _ W).putObj _ rfl
  exact ⟨.int .i64 n, by simp [results, Tryz.results120, go_sem], rfl, hf.trans hfp (fun x hx (hy : x = W0.heap.size) => by omega)⟩
 case round =>
  intro j x W hT hO hlt
  have e : ∀ t : Array Value, ((#[14, 15] : Array Nat).zip (bwA x)).foldl (fun t x => t.setIfInBounds x.1 x.2) t = (t.setIfInBounds 14 (.int .i64 x.1)).setIfInBounds 15 (.agg #[.int .i64 x.2.keeper, .string x.2.name]) := fun t => by simp [bwA]
  simp only [e, List.setIfInBounds_toArray, List.set_cons_succ, List.set_cons_zero]
  clear e
  obtain ⟨px, ⟨kq, sq⟩⟩ := x
  gi_wp2
  refine ⟨⟨Below.heap_alloc _ _ _ hlt, Below.heap_alloc _ _ _ (by omega)⟩, ?_⟩
  intro W2 hf2
  have hT2 := hkeep j _ _ (hkeep j _ _ hT No ((Fr.refl No W).alloc (.cells #[.int .i64 kq, .string sq] 54)) (fun _ h => h.elim)) _ hf2 (fun x (hx : x = W0.heap.size + 1) => by omega)
  have hC2 := (Bx.new W 54 #[.int .i64 kq, .string sq]).keepX hf2 (by first | omega | (dsimp only; omega))
  obtain ⟨_, kc, ix, hhr⟩ := hall _ (by obtain ⟨_, _, h3⟩ := hO; exact List.mem_of_getElem? h3)
  obtain rfl : kq = (kc : Int) := hhr.1
  obtain ⟨hj, hje⟩ := bwOK_rev hO
  have hsq : sq.size ≤ maxLen := (hall _ (by obtain ⟨_, _, h3⟩ := hO; exact List.mem_of_getElem? h3)).1
  obtain ⟨q1, q2, q3, q4, q5, n, q6, q7, q8⟩ := hT2
  rw [List.drop_eq_getElem_cons hj, hje, firstLen] at q6
  obtain ⟨Af, cf, Am, cm, hR, HCl⟩ := here_class (h.keep q1) hhr hsq
  have hfl : (clsAt p ⟨kc, sq⟩).fields.length ≤ 3 := clsB_fields (Here.clsB hp hhr)
  have KC := hC2.r2
  have KL := q4.r1
  have KF := q8.r1
  obtain ⟨x0, x1⟩ := hC2.c2
  obtain ⟨y0, y1⟩ := q5.c2
  have lC := hC2.lt
  have lO := q5.lt
  replace hsz := Lib.hid hsz
  cases hc : refIs ⟨kc, sq⟩ ⟨qk, qn⟩
  ·have hcase : (¬ (kc : Int) = qk) ∨ ((kc : Int) = qk ∧ ¬ sq.toList = qn.toList) := by
    unfold refIs at hc
    by_cases hk : (kc : Int) = qk
    ·exact .inr ⟨hk, by simpa [hk] using hc⟩
    ·exact .inl hk
   have q6n : Hid (firstLen p xs.reverse ⟨qk, qn⟩ = n + ((clsAt p ⟨kc, sq⟩).fields.length + firstLen p (xs.reverse.drop (j + 1)) ⟨qk, qn⟩)) := q6.out.trans (by rw [hc]; rfl)
   replace q6n := Lib.hid q6n
   clear q6
   clear hc
   have hj6 : j < 6 := by simp at hj; omega
   have wl : IntKind.i64.wrap ((n : Int) + (clsAt p ⟨kc, sq⟩).fields.length) = (n : Int) + (clsAt p ⟨kc, sq⟩).fields.length := IntWalk.i64_in _ (by omega)
   rcases hcase with hk | ⟨rfl, hk⟩
   all_goals gi_wp2_with fail
   all_goals clear x0 x1 y0 y1
   all_goals
    refine wpIn_region_monL 7 [isV (.int .i64 n), isV (.pointer (some ⟨l, 0, none⟩)), isV (.agg #[.int .i64 kc, .string sq]), isV (.agg #[.string (clsAt p ⟨kc, sq⟩).name, .string (clsAt p ⟨kc, sq⟩).super, .slice Af (clsAt p ⟨kc, sq⟩).fields.length cf, .slice Am (clsAt p ⟨kc, sq⟩).methods.length cm]), isV (.slice Af (clsAt p ⟨kc, sq⟩).fields.length cf), isV (.int .i64 (clsAt p ⟨kc, sq⟩).fields.length), isV (.int .i64 ((n : Int) + (clsAt p ⟨kc, sq⟩).fields.length))] [false, false, false, false, false, false, false] [false, false, false, false, false, false, false] ?_ (by kernel_rfl) (by kernel_rfl) ?_ ?_ (by kernel_rfl) ?_ ?_
    ·intro x hx hb v W h
     simp only [List.zip_cons_cons, List.zip_nil_left, List.mem_cons, List.not_mem_nil, or_false] at hx
     rcases hx with rfl | rfl | rfl | rfl | rfl | rfl | rfl <;> first | (cases hb; done) | exact atB_bk h
    ·intro o ho d hd; simp only [List.take_succ_cons, List.take_zero, List.mem_cons, List.not_mem_nil, or_false] at ho; rcases ho with rfl | rfl | rfl | rfl | rfl | rfl | rfl <;> (cases hd; simp)
    ·intro x hx
     simp only [List.mem_cons, List.not_mem_nil, or_false] at hx
     rcases hx with rfl | rfl | rfl | rfl | rfl | rfl | rfl
     ·exact isV_mono _
     ·exact isV_mono _
     ·exact isV_mono _
     ·exact isV_mono _
     ·exact isV_mono _
     ·exact isV_mono _
     ·exact isV_mono _
    ·intro k o ho a' W hW hoff hdep
     have hbs := hW.size
     have H7 := hoff 7 (by simp)
     have H3 := hoff 3 (by simp)
     have H9 := hoff 9 (by simp)
     simp only [Act.eval] at H7 H3 H9
     simp only [List.take_succ_cons, List.take_zero] at ho hdep
     rcases k with _ | _ | _ | _ | _ | _ | _ | k
     all_goals (first | (simp at ho; done) | skip)
     all_goals simp only [List.getElem?_cons_zero, List.getElem?_cons_succ, Option.some.injEq] at ho
     all_goals subst ho
     ·refine ⟨fun h => absurd h (by decide), fun _ => ?_⟩
      unfold opGives
      simp [execOp, Act.eval, go_sem, givesUpon, *]
      exact ⟨Fr.refl _ _, rfl⟩
     ·refine ⟨fun h => absurd h (by decide), fun _ => ?_⟩
      unfold opGives
      simp [execOp, Act.eval, go_sem, givesUpon, *]
      exact ⟨Fr.refl _ _, rfl⟩
     ·refine ⟨fun h => absurd h (by decide), fun _ => ?_⟩
      unfold opGives
      simp [execOp, Act.eval, go_sem, givesUpon, *]
      exact ⟨Fr.refl _ _, rfl⟩
     ·have D20 : a'.eval (.tmp 20) = .pointer (some ⟨l, 0, none⟩) := hdep ⟨1, .data⟩ (by simp) rfl _ 20 rfl rfl
      have D21 : a'.eval (.tmp 21) = .agg #[.int .i64 kc, .string sq] := hdep ⟨2, .data⟩ (by simp) rfl _ 21 rfl rfl
      simp only [Act.eval] at D20 D21
      refine ⟨fun h => absurd h (by decide), fun _ => ?_⟩
      unfold opGives
      simp [Act.eval, D20, D21, go_sem, givesUpon]
      exact (HCl _ hW).mono fun e w' h => ⟨_, h.1, h.2, rfl⟩
     ·have D22 : a'.eval (.tmp 22) = .agg #[.string (clsAt p ⟨kc, sq⟩).name, .string (clsAt p ⟨kc, sq⟩).super, .slice Af (clsAt p ⟨kc, sq⟩).fields.length cf, .slice Am (clsAt p ⟨kc, sq⟩).methods.length cm] := hdep ⟨3, .data⟩ (by simp) rfl _ 22 rfl rfl
      simp only [Act.eval] at D22
      refine ⟨fun h => absurd h (by decide), fun _ => ?_⟩
      unfold opGives
      simp [execOp, Act.eval, D22, go_sem, givesUpon]
      exact ⟨Fr.refl _ _, rfl⟩
     ·have D23 : a'.eval (.tmp 23) = .slice Af (clsAt p ⟨kc, sq⟩).fields.length cf := hdep ⟨4, .data⟩ (by simp) rfl _ 23 rfl rfl
      simp only [Act.eval] at D23
      refine ⟨fun h => absurd h (by decide), fun _ => ?_⟩
      unfold opGives
      simp [Act.eval, D23, go_sem, givesUpon]
      exact ⟨Fr.refl _ _, rfl⟩
     ·have D19 : a'.eval (.tmp 19) = .int .i64 n := hdep ⟨0, .data⟩ (by simp) rfl _ 19 rfl rfl
      have D24 : a'.eval (.tmp 24) = .int .i64 (clsAt p ⟨kc, sq⟩).fields.length := hdep ⟨5, .data⟩ (by simp) rfl _ 24 rfl rfl
      simp only [Act.eval] at D19 D24
      refine ⟨fun h => absurd h (by decide), fun _ => ?_⟩
      unfold opGives
      simp [execOp, Act.eval, D19, D24, go_sem, givesUpon]
      exact ⟨Fr.refl _ _, by show Value.int _ _ = _; rw [wl]⟩
    intro vs WR hWR hv hne
    have e0 : vs 0 = _ := hv 0 (by omega)
    have e1 : vs 1 = _ := hv 1 (by omega)
    have e2 : vs 2 = _ := hv 2 (by omega)
    have e3 : vs 3 = _ := hv 3 (by omega)
    have e4 : vs 4 = _ := hv 4 (by omega)
    have e5 : vs 5 = _ := hv 5 (by omega)
    have e6 : vs 6 = _ := hv 6 (by omega)
    simp only [List.take_succ_cons, List.take_zero, List.drop_succ_cons, List.drop_zero, putsL, if_true, Nat.zero_add, Nat.reduceAdd, e0, e1, e2, e3, e4, e5, e6]
    simp only [Act.put, List.setIfInBounds_toArray, List.set_cons_zero, List.set_cons_succ]
    clear e0 e1 e2 e3 e4 e5 e6 hv
    have hR8 := q8.keep hWR
    have e8 := hR8.c1
    have f8 := fun j => hR8.frozen j
    have l8 := hR8.lt
    have hs2' := hf2.size
    have hsR := hWR.size
    have hs0 := hsz.out
    simp at hs2'
    replace hs0 := Lib.hid hs0
    clear KC KL KF
    go_wp2
    have hs0 := hs0.out
    have hfs : Fr (fun x => x = w.heap.size + 1 + 1 + 1) WR (WR.setCell ⟨w.heap.size + 1 + 1 + 1, 0, none⟩ (.int .i64 ((n : Int) + (clsAt p ⟨kc, sq⟩).fields.length))) := Fr.setCellX (X := fun x => x = w.heap.size + 1 + 1 + 1) (p := ⟨w.heap.size + 1 + 1 + 1, 0, none⟩) (Fr.refl _ WR) (by rfl) _
    refine ⟨⟨(hfs.block _ (by omega) (by first | omega | (dsimp only; omega))).trans (hWR.block _ (by omega) (fun h => h)), (hfs.block _ (by omega) (by first | omega | (dsimp only; omega))).trans (hWR.block _ (by omega) (fun h => h))⟩, ?_⟩
    exact ⟨(q1.trans0 hWR).trans hfs (fun x hx hy => by omega), (q2.keep hWR).keepX hfs (by first | omega | (dsimp only; omega)), (q3.keep hWR (fun _ h => h.elim) (fun _ _ _ h => h)).keep hfs (fun x hx => .inl hx) (fun _ _ _ h => h), (q4.keep hWR).keepX hfs (by first | omega | (dsimp only; omega)), (q5.keep hWR).keepX hfs (by first | omega | (dsimp only; omega)), n + (clsAt p ⟨kc, sq⟩).fields.length, q6n.out.out.trans (Nat.add_assoc _ _ _).symm, by omega, by have := hR8.set_ 0 (.int .i64 ((n : Int) + (clsAt p ⟨kc, sq⟩).fields.length)); simpa using this⟩
  ·have q6n : Hid (firstLen p xs.reverse ⟨qk, qn⟩ = n) := q6.out.trans (by rw [hc]; rfl)
   replace q6n := Lib.hid q6n
   clear q6
   have he := refIs_iff.1 hc
   rw [Ref.mk.injEq] at he
   obtain ⟨rfl, rfl⟩ := he
   clear hc
   gi_wp2_with fail
   refine ⟨rfl, ⟨rfl, rfl⟩, q1, ?_⟩
   rw [q6n.out.out]
   exact q8
end Go.Proofs.YtbalicnnlfennaaGreat
