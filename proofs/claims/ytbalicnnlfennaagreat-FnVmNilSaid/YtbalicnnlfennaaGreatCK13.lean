/- The program's verifier: any instruction, by its number. -/
import Derived.Test.YtbalicnnlfennaaGreatCK10
namespace Go.Proofs.YtbalicnnlfennaaGreat
open Go.RowKit

def opFn (o : Int) : FuncId :=
 if o = 1 then 93 else if o = 2 then 94 else if o = 3 then 95
 else if o = 4 then 96 else if o = 5 then 97 else if o = 6 then 98
 else if o = 7 then 99 else if o = 8 then 100 else if o = 9 then 101
 else if o = 10 then 102 else if o = 11 then 103 else if o = 12 then 104
 else if o = 13 then 105 else if o = 14 then 106 else 107
def opTab : Array Value := #[.nilFunc, .func (.func (opFn 1)) #[] #[], .func (.func (opFn 2)) #[] #[], .func (.func (opFn 3)) #[] #[], .func (.func (opFn 4)) #[] #[], .func (.func (opFn 5)) #[] #[], .func (.func (opFn 6)) #[] #[], .func (.func (opFn 7)) #[] #[], .func (.func (opFn 8)) #[] #[], .func (.func (opFn 9)) #[] #[], .func (.func (opFn 10)) #[] #[], .func (.func (opFn 11)) #[] #[], .func (.func (opFn 12)) #[] #[], .func (.func (opFn 13)) #[] #[], .func (.func (opFn 14)) #[] #[], .func (.func (opFn 15)) #[] #[]]
def opF (p : Plan) (k : Int) (m : Mth) (f : Frm) (i : Ins) : Option Frm := (insF p k m f i).bind fun h => if leadsF p k m h i then some h else none
theorem insB_op {i : Ins} (h : insB i = true) : i.op = 1 ∨ i.op = 2 ∨ i.op = 3 ∨ i.op = 4 ∨ i.op = 5 ∨ i.op = 6 ∨ i.op = 7 ∨ i.op = 8 ∨ i.op = 9 ∨ i.op = 10 ∨ i.op = 11 ∨ i.op = 12 ∨ i.op = 13 ∨ i.op = 14 ∨ i.op = 15 := by
 unfold insB at h
 split at h
 ·rename_i h1; simp [opNum] at h1; omega
 ·split at h
  ·rename_i h1; simp [opCls] at h1; omega
  ·split at h
   ·rename_i h1; simp [opMem] at h1; omega
   ·simp [opPln] at h; omega
theorem LkPost.mono {K : LkP} {n m : Nat} {Z : Nat → Prop} {j : Int} {o : Option Frm} {w : World} {e : Ending} {w' : World} (h : LkPost K n Z j o w e w') (hm : n ≤ m) : LkPost K m Z j o w e w' := by
 cases o with
 | none => obtain ⟨c, h1, h2⟩ := h; exact ⟨c, h1, h2.mono hm⟩
 | some f => exact ⟨h.1, h.2.mono hm⟩
theorem op_join {K : LkP} {n m : Nat} {Z : Nat → Prop} {j : Int} {R o : Option Frm} {w : World} {g : FuncId} {args : Array Value} (hm : n ≤ m) (h : Calls Tryz.prog g args w (LkPost K n Z j R w)) (e : o = R) : Calls Tryz.prog g args w (LkPost K m Z j o w) := by
 subst e
 exact h.mono fun _ _ h => h.mono hm
theorem op_ok (K : LkP) (E : LkE K) (n : Nat) (Z : Nat → Prop) (j : Int) (f : Frm) (vl vs : Value) (w : World) (h : LkS K n Z j f vl vs w) (hj : 0 ≤ j) (hj2 : j < 1000) (i : Ins) (h1 : i.name.size ≤ maxLen) (h2 : i.member.size ≤ maxLen) (hn : n < 999999) (len : Int) (hi : insAt K.m.locals len i = true) (hop : opsL.contains i.op = true) :
  Calls Tryz.prog (opFn i.op) #[.pointer (some ⟨K.kb, 0, none⟩), .agg #[.int .i64 i.op, .int .i64 i.a, .string i.name, .string i.member]] w (LkPost K (n + 2) Z j (opF K.p K.k K.m f i) w) := by
 unfold insAt at hi
 rw [Bool.and_eq_true] at hi
 obtain ⟨hb, ha⟩ := hi
 have ho := opsL_of hop
 have hlead : ∀ {g : Option Frm}, insF K.p K.k K.m f i = g → ¬ (i.op = 11 ∨ i.op = 12 ∨ i.op = 13) → opF K.p K.k K.m f i = g := fun {g} hg hne => by
  unfold opF
  rw [hg]
  have : ∀ h : Frm, leadsF K.p K.k K.m h i = true := fun h => by unfold leadsF; rw [if_neg hne]
  cases g <;> simp [this]
 have hbr : ∀ {g : Option (List Tag)}, insF K.p K.k K.m f i = g.map (⟨f.locals, ·⟩) → (i.op = 11 ∨ i.op = 12 ∨ i.op = 13) → opF K.p K.k K.m f i = g.bind fun s => if brB K ⟨f.locals, s⟩ i.a then some ⟨f.locals, s⟩ else none := fun {g} hg hne => by
  unfold opF
  rw [hg]
  cases g with
  | none => rfl
  | some s =>
   simp only [Option.map_some, Option.bind_some]
   have : leadsF K.p K.k K.m ⟨f.locals, s⟩ i = brB K ⟨f.locals, s⟩ i.a := by unfold leadsF brB; rw [if_pos hne]; cases mapF K.m i.a <;> rfl
   rw [this]
 have hgo : i.op = 13 → opF K.p K.k K.m f i = if brB K f i.a then some f else none := fun ho => by
  unfold opF
  have e : insF K.p K.k K.m f i = some f := by unfold insF; simp [ho]
  have : leadsF K.p K.k K.m f i = brB K f i.a := by unfold leadsF brB; rw [if_pos (by omega)]; cases mapF K.m i.a <;> rfl
  rw [e, Option.bind_some, this]
 have hnum : i.op = 2 ∨ i.op = 3 → 0 ≤ i.a ∧ i.a ≤ 5 := fun h9 => by
  unfold insB at hb
  rcases h9 with h9 | h9 <;> · simp [opNum, numLo, numHi, h9] at hb; omega
 have hloc : i.op = 2 ∨ i.op = 3 → i.a < K.m.locals := fun h9 => by
  rcases h9 with h9 | h9 <;> simpa [h9] using ha
 rcases ho with ho | ho | ho | ho | ho | ho | ho
 ·rw [show opFn i.op = 93 from by rw [ho]; rfl]
  exact op_join (by omega) (lookNum_ok K E n Z j f vl vs w h hj hj2 i h1) (hlead (by unfold insF; simp [ho]) (by omega))
 ·rw [show opFn i.op = 94 from by rw [ho]; rfl]
  exact op_join (by omega) (lookTake_ok K E n Z j f vl vs w h hj hj2 i (by exact (hnum (by omega)).1) (by exact (hloc (by omega)))) (hlead (by unfold insF; simp [ho]) (by omega))
 ·rw [show opFn i.op = 98 from by rw [ho]; rfl]
  exact op_join (by omega) (lookNew_ok K E n Z j f vl vs w h hj hj2 i h1) (hlead (by unfold insF; simp [ho]) (by omega))
 ·rw [show opFn i.op = 99 from by rw [ho]; rfl]
  exact op_join (by omega) (lookGet_ok K E n Z j f vl vs w h hj hj2 i h1 h2 hn) (hlead (by unfold insF; simp [ho]) (by omega))
 ·rw [show opFn i.op = 102 from by rw [ho]; rfl]
  exact op_join (by omega) (lookRet_ok K E n Z j f vl vs w h hj hj2 i h1) (hlead (by unfold insF; simp [ho]) (by omega))
 ·rw [show opFn i.op = 104 from by rw [ho]; rfl]
  exact op_join (by omega) (lookNil_ok K E n Z j f vl vs w h hj hj2 i h1) (hbr (by unfold insF; simp [ho]) (by omega))
 ·rw [show opFn i.op = 107 from by rw [ho]; rfl]
  exact op_join (by omega) (lookCast_ok K E n Z j f vl vs w h hj hj2 i h1) (hlead (by unfold insF; simp [ho]) (by omega))
end Go.Proofs.YtbalicnnlfennaaGreat

namespace Go.Proofs.YtbalicnnlfennaaGreat
open Go.RowKit

abbrev tFrm : TypeId := 178
def kvC (p : Value × Value) : List Value := [p.1, p.2]
def kvB (p : Value × Value) : List Nat := (rowBlk p.1).toList ++ (rowBlk p.2).toList
def FrmR (W : World) (p : Value × Value) (f : Frm) : Prop := TagRow W tTag p.1 f.locals ∧ TagRow W tTag p.2 f.stack
def Frms (W : World) (Y : Nat → Prop) (v : Value) (fs : List Frm) : Prop :=
 ∃ kvs : List (Value × Value), RowV W tFrm 2 v fs.length (kvs.flatMap kvC) ∧ kvs.length = fs.length ∧ (∀ x ∈ kvs.zip fs, FrmR W x.1 x.2) ∧ (kvs.flatMap kvB).Nodup ∧ (∀ q ∈ kvs.flatMap kvB, Y q) ∧ (∀ q, rowBlk v = some q → Y q)
theorem kvB_mem {p : Value × Value} {q : Nat} : q ∈ kvB p ↔ rowBlk p.1 = some q ∨ rowBlk p.2 = some q := by
 unfold kvB
 rw [List.mem_append, Option.mem_toList, Option.mem_toList]
section
variable {W W' : World} {Y Y' X : Nat → Prop} {v : Value} {fs : List Frm}
theorem FrmR.keep {p : Value × Value} {f : Frm} (h : FrmR W p f) (hf : Fr X W W') (hX : ∀ q ∈ kvB p, ¬ X q) : FrmR W' p f :=
 ⟨h.1.keep hf (fun q hq => hX q (kvB_mem.2 (.inl hq))), h.2.keep hf (fun q hq => hX q (kvB_mem.2 (.inr hq)))⟩
theorem FrmR.lt {p : Value × Value} {f : Frm} (h : FrmR W p f) {q : Nat} (hq : q ∈ kvB p) : q < W.heap.size := by
 rcases kvB_mem.1 hq with hq | hq
 ·exact h.1.1.lt hq
 ·exact h.2.1.lt hq
theorem zip_mem {α β : Type} : ∀ {xs : List α} {ys : List β} (_ : xs.length = ys.length) {x : α} (_ : x ∈ xs), ∃ y, (x, y) ∈ xs.zip ys
 | x :: xs, y :: ys, hl, z, hz => by
  rcases List.mem_cons.1 hz with rfl | hz
  ·exact ⟨y, by simp⟩
  ·obtain ⟨y', h'⟩ := zip_mem (xs := xs) (ys := ys) (by simpa using hl) hz
   exact ⟨y', List.mem_cons_of_mem _ h'⟩
theorem Frms.nil (W : World) (Y : Nat → Prop) : Frms W Y (.slice none 0 0) [] := ⟨[], RowV.nil _ _ _, rfl, by simp, by simp, by simp, fun q hq => by cases hq⟩
theorem Frms.lt (_ : Frms W Y v fs) {kvs : List (Value × Value)} (hl : kvs.length = fs.length) (hr : ∀ x ∈ kvs.zip fs, FrmR W x.1 x.2) {q : Nat} (hq : q ∈ kvs.flatMap kvB) : q < W.heap.size := by
 obtain ⟨p, hp, hq⟩ := List.mem_flatMap.1 hq
 obtain ⟨f, hf⟩ := zip_mem hl hp
 exact (hr _ hf).lt hq
theorem Frms.keep (h : Frms W Y v fs) (hf : Fr X W W') (hX : ∀ b, Y b → b < W.heap.size → ¬ X b) (hY : ∀ b, Y b → b < W.heap.size → Y' b) : Frms W' Y' v fs := by
 obtain ⟨kvs, h1, h2, h3, h4, h5, h6⟩ := h
 have hlt : ∀ q ∈ kvs.flatMap kvB, q < W.heap.size := fun q hq => Frms.lt (Y := Y) ⟨kvs, h1, h2, h3, h4, h5, h6⟩ h2 h3 hq
 refine ⟨kvs, h1.keep hf (fun q hq => hX q (h6 q hq) (h1.lt hq)), h2, fun x hx => (h3 x hx).keep hf (fun q hq => ?_), h4, fun q hq => hY q (h5 q hq) (hlt q hq), fun q hq => hY q (h6 q hq) (h1.lt hq)⟩
 have hm : q ∈ kvs.flatMap kvB := List.mem_flatMap.2 ⟨x.1, (List.of_mem_zip hx).1, hq⟩
 exact hX q (h5 q hm) (hlt q hm)
theorem Frms.keep0 (h : Frms W Y v fs) (hf : Fr No W W') : Frms W' Y v fs := h.keep hf (fun _ _ _ h => h) (fun _ h _ => h)
theorem Frms.form (h : Frms W Y v fs) : ∃ A c, v = .slice A fs.length c ∧ fs.length ≤ c ∧ c ≤ maxLen := by
 obtain ⟨kvs, h1, _⟩ := h
 exact h1.form
theorem RowV.box {e : TypeId} {sz n : Nat} {xs : List Value} (h : RowV W e sz v n xs) {q : Nat} (hq : rowBlk v = some q) : ∃ cs, Bx W q e cs := by
 rcases h with ⟨_, ⟨rfl, rfl⟩ | ⟨g, cap, cur, rfl, _, hb, _⟩⟩ | ⟨rfl, rfl, A, rfl⟩
 ·cases hq
 ·rw [rowBlk_at] at hq
  split at hq
  ·cases hq
  ·cases hq; exact ⟨_, hb⟩
 ·rw [rowBlk_at, if_pos rfl] at hq; cases hq
theorem tag_ne_frm : tTag ≠ tFrm := by decide
theorem Frms.snoc {w W2 : World} {kvs : List (Value × Value)} {v1 v2 v' : Value} {g' : Nat} {f : Frm} (h1 : RowV w tFrm 2 v fs.length (kvs.flatMap kvC)) (h2 : kvs.length = fs.length) (h3 : ∀ x ∈ kvs.zip fs, FrmR w x.1 x.2) (h4 : (kvs.flatMap kvB).Nodup) (h5 : ∀ q ∈ kvs.flatMap kvB, Y q) (h6 : ∀ q, rowBlk v = some q → Y q)
  (hf0 : Fr No w W) (hl : TagRow W tTag v1 f.locals) (hs : TagRow W tTag v2 f.stack) (hb1 : ∀ q, rowBlk v1 = some q → w.heap.size ≤ q ∧ Y q) (hb2 : ∀ q, rowBlk v2 = some q → w.heap.size ≤ q ∧ Y q) (hne : ∀ q, rowBlk v1 = some q → rowBlk v2 = some q → False)
  (hrow : RowV W2 tFrm 2 v' (fs.length + 1) (kvs.flatMap kvC ++ [v1, v2])) (hf : Fr (fun b => rowBlk v = some b) W W2) (hor : rowBlk v = some g' ∨ g' = W.heap.size) (hv' : rowBlk v' = some g') (hYn : ∀ b, w.heap.size ≤ b → Y b) : Frms W2 Y v' (fs ++ [f]) := by
 have hbk : ∀ {t : Value} {xs : List Tag}, TagRow W tTag t xs → ∀ q, rowBlk t = some q → ¬ rowBlk v = some q := fun ht q hq hv => by
  obtain ⟨cs, hb⟩ := (h1.keep0 hf0).box hv
  exact ht.1.ne hb tag_ne_frm hq rfl
 have hlt : ∀ q ∈ kvs.flatMap kvB, q < w.heap.size := fun q hq => Frms.lt (Y := Y) ⟨kvs, h1, h2, h3, h4, h5, h6⟩ h2 h3 hq
 refine ⟨kvs ++ [(v1, v2)], by simpa [kvC] using hrow, by simp [h2], fun x hx => ?_, ?_, fun q hq => ?_, fun q hq => ?_⟩
 ·rw [List.zip_append h2, List.mem_append] at hx
  rcases hx with hx | hx
  ·have hr := (h3 x hx).keep (X := No) hf0 (fun _ _ h => h)
   exact hr.keep hf (fun q hq => by
    rcases kvB_mem.1 hq with h9 | h9
    ·exact hbk hr.1 q h9
    ·exact hbk hr.2 q h9)
  ·simp only [List.zip_cons_cons, List.zip_nil_left, List.mem_singleton] at hx
   subst hx
   exact ⟨hl.keep hf (hbk hl), hs.keep hf (hbk hs)⟩
 ·rw [List.flatMap_append, List.nodup_append]
  refine ⟨h4, ?_, fun a ha b hb e => ?_⟩
  ·simp only [List.flatMap_cons, List.flatMap_nil, List.append_nil, kvB]
   cases e1 : rowBlk v1 with
   | none => cases e2 : rowBlk v2 <;> simp
   | some q1 =>
    cases e2 : rowBlk v2 with
    | none => simp
    | some q2 =>
     simp only [Option.toList_some, List.cons_append, List.nil_append, List.nodup_cons, List.mem_singleton, List.not_mem_nil, not_false_eq_true, List.nodup_nil, and_true]
     rintro rfl
     exact hne q1 e1 e2
  ·subst e
   have ha' := hlt a ha
   simp only [List.flatMap_cons, List.flatMap_nil, List.append_nil] at hb
   rcases kvB_mem.1 hb with h9 | h9
   ·have := (hb1 a h9).1; omega
   ·have := (hb2 a h9).1; omega
 ·rw [List.flatMap_append, List.mem_append] at hq
  rcases hq with hq | hq
  ·exact h5 q hq
  ·simp only [List.flatMap_cons, List.flatMap_nil, List.append_nil] at hq
   rcases kvB_mem.1 hq with h9 | h9
   ·exact (hb1 q h9).2
   ·exact (hb2 q h9).2
 ·rw [hv'] at hq
  cases hq
  rcases hor with h9 | h9
  ·exact h6 _ h9
  ·rw [h9]; exact hYn _ hf0.size
end
def cloV (xs : List Tag) (base : Nat) : Value → World → Prop := fun v W => ∃ A c, v = .slice A xs.length c ∧ TagRow W tTag v xs ∧ ∀ q, rowBlk v = some q → base ≤ q ∧ 0 < xs.length
theorem cloV_mono (xs : List Tag) (base : Nat) : MonP (cloV xs base) := fun _ _ _ ⟨A, c, h1, h2, h3⟩ hf => ⟨A, c, h1, h2.keep hf (fun _ _ h => h), h3⟩
theorem cloV_at {xs : List Tag} {base : Nat} {v : Value} {W : World} (h : cloV xs base v W) (h0 : 0 < xs.length) : rowBlk v = some (bk v) ∧ bk v < W.heap.size := by
 obtain ⟨A, c, h1, h2, h3⟩ := h
 obtain ⟨g, c', cur, rfl, _, _, hb, _, _, hq⟩ := h2.1.at_ h0
 exact ⟨hq, h2.1.lt hq⟩
theorem cloV_bk {xs : List Tag} {base : Nat} {v : Value} {W : World} {b : Bool} (hb : b = true) (hb2 : b = decide (0 < xs.length)) (h : cloV xs base v W) : bk v < W.heap.size := (cloV_at h (by rw [hb] at hb2; simpa using hb2.symm)).2
end Go.Proofs.YtbalicnnlfennaaGreat
