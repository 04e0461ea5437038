/- The verifier's own state in memory. -/
import Derived.Test.YtbalicnnlfennaaGreatCG22
namespace Go.Proofs.YtbalicnnlfennaaGreat
open Go.RowKit

theorem Lodge.over2 {w w1 w' : World} {l bl n m : Nat} {p : Plan} {g g1 : Int → Str → Option Int} (h : Lodge w l bl n p g) (h1 : Lodge w1 l bl m p g1) (hf : Fr (fun b => b = bl ∨ w.heap.size ≤ b) w w1) (hf' : Fr (fun b => w.heap.size ≤ b) w1 w') : Lodge w' l bl m p g1 := by
 obtain ⟨h0, A, cap, bo, ba, k1, k2, k3, k4, k5, k6, k7, k8⟩ := h
 obtain ⟨_, _, _, _, _, _, _, _, _, _, _, _, q8⟩ := h1
 have hb := k8.lt
 have F : Fr (fun b => b = bl ∨ w.heap.size ≤ b) w w' := hf.trans hf' (fun b _ h => .inr h)
 have nb : ∀ b, b < w.heap.size → b ≠ bl → ¬ (b = bl ∨ w.heap.size ≤ b) := fun b h1 h2 h => by rcases h with h | h <;> omega
 refine ⟨h0, A, cap, bo, ba, k1.keepX F (nb l k1.lt k2), k2, k3, k4, ?_, k6.keepX F (nb bo k6.lt k3), k7.keepX F (nb ba k7.lt k4), q8.keepX hf' (by omega)⟩
 have k5' := ((k5.oldX (R' := KprC (fun b => b = bl ∨ w.heap.size ≤ b) w) (by decide) (fun _ _ _ h => h.oldX)).keep (R' := KprC (fun b => b = bl ∨ w.heap.size ≤ b) w') F (fun _ h => h) (fun _ _ _ h => h.keep F (fun _ h => h)))
 exact k5'.weaken (fun _ h => .inl h) (fun _ _ _ h => h.weaken (fun _ h => .inl h))
theorem Lg.over2 {w w1 w' : World} {l bl n m : Nat} {p : Plan} (h : Lg w l bl n p) (h1 : Lg w1 l bl m p) (hf : Fr (fun b => b = bl ∨ w.heap.size ≤ b) w w1) (hf' : Fr (fun b => w.heap.size ≤ b) w1 w') : Lg w' l bl m p := by
 obtain ⟨g, h, _⟩ := h
 obtain ⟨g1, h1, h2⟩ := h1
 exact ⟨g1, h.over2 h1 hf hf', h2⟩

structure LkP where
 w0 : World
 l : Nat
 bl : Nat
 kb : Nat
 p : Plan
 k : Nat
 m : Mth
 va : Value
 vc : Value
 vm : Value
structure LkE (K : LkP) : Prop where
 lg : ∃ n, Lg K.w0 K.l K.bl n K.p
 has : K.k < K.p.keepers.length
 args : Sl (fun b => b = K.bl) K.w0 2 KndC K.va K.m.args
 code : Sl (fun b => b = K.bl) K.w0 4 InsC K.vc K.m.code
 maps : Sl (fun b => b = K.bl) K.w0 3 (MapC (fun b => b = K.bl) K.w0) K.vm K.m.maps
 ok : mthB K.m = true
 ret : K.m.ret.name.size ≤ maxLen
 ops : OkOps K.m.code
def LkP.late (K : LkP) (b : Nat) : Prop := b = K.bl ∨ K.w0.heap.size ≤ b
def lkC (K : LkP) (j : Int) (vl vs : Value) : Array Value := #[.pointer (some ⟨K.l, 0, none⟩), .int .i64 K.k, .string K.m.name, K.va, .int .i64 K.m.ret.kind, .string K.m.ret.name, .int .i64 K.m.locals, .int .i64 K.m.stack, K.vc, K.vm, .int .i64 j, vl, vs]
abbrev tTag : TypeId := 24
abbrev tLooker : TypeId := 125
structure LkS (K : LkP) (n : Nat) (Z : Nat → Prop) (j : Int) (f : Frm) (vl vs : Value) (w : World) : Prop where
 anchor : Fr K.late K.w0 w
 lg : Lg w K.l K.bl n K.p
 box : Bx w K.kb tLooker (lkC K j vl vs)
 z : ∀ b, Z b → K.late b ∧ b < w.heap.size
 zbl : Z K.bl
 zkb : Z K.kb
 kb : K.w0.heap.size ≤ K.kb
 loc : TagRow w tTag vl f.locals
 stk : TagRow w tTag vs f.stack
 zl : ∀ q, rowBlk vl = some q → Z q ∧ K.w0.heap.size ≤ q
 zs : ∀ q, rowBlk vs = some q → Z q ∧ K.w0.heap.size ≤ q
 apart : ∀ q, rowBlk vl = some q → rowBlk vs = some q → False
 ll : (f.locals.length : Int) = K.m.locals
 sl : (f.stack.length : Int) ≤ K.m.stack
section
variable {K : LkP} {n : Nat} {Z : Nat → Prop} {j : Int} {f : Frm} {vl vs : Value} {w w' : World}
theorem Fr.one (w : World) (b o : Nat) (u : Value) : Fr (fun x => x = b) w (w.setCell ⟨b, o, none⟩ u) := (Fr.refl (fun x => x = b) w).setCellX (p := ⟨b, o, none⟩) (by rfl) u
theorem LkE.bl_lt (E : LkE K) : K.bl < K.w0.heap.size := let ⟨_, h⟩ := E.lg; h.lt
theorem LkE.okp (E : LkE K) : lodB K.p = true := let ⟨_, h⟩ := E.lg; h.ok
theorem Fr.late (h : Fr K.late K.w0 w) {X : Nat → Prop} (hf : Fr X w w') (hX : ∀ b, X b → K.late b) : Fr K.late K.w0 w' := h.trans hf (fun b _ hx => hX b hx)
theorem Sl.late {α : Type} {sz : Nat} {R R' : List Value → α → Prop} {v : Value} {xs : List α} (h : Sl (fun b => b = K.bl) K.w0 sz R v xs) (hsz : 0 < sz) (hf : Fr K.late K.w0 w) (hR : ∀ cs x, x ∈ xs → R cs x → R' cs x) : Sl K.late w sz R' v xs := by
 have h1 := h.oldX (R' := R') hsz hR
 exact (h1.weaken (Y := K.late) (fun _ h => h) (fun _ _ _ h => h)).keep hf (fun _ h => h) (fun _ _ _ h => h)
theorem LkE.args_at (E : LkE K) (hf : Fr K.late K.w0 w) : Sl K.late w 2 KndC K.va K.m.args := E.args.late (by decide) hf (fun _ _ _ h => h)
theorem LkE.code_at (E : LkE K) (hf : Fr K.late K.w0 w) : Sl K.late w 4 InsC K.vc K.m.code := E.code.late (by decide) hf (fun _ _ _ h => h)
theorem LkE.maps_at (E : LkE K) (hf : Fr K.late K.w0 w) : Sl K.late w 3 (MapC K.late w) K.vm K.m.maps :=
 E.maps.late (by decide) hf (fun _ _ _ h => (h.oldX.weaken (Y := K.late) (fun _ h => h)).keep hf (fun _ h => h))
theorem LkS.lt (h : LkS K n Z j f vl vs w) {b : Nat} (hb : Z b) : b < w.heap.size := (h.z b hb).2
theorem LkS.far (h : LkS K n Z j f vl vs w) (E : LkE K) {X : Nat → Prop} (hf : Fr X w w') (hX : ∀ b, X b → K.w0.heap.size ≤ b ∧ ¬ Z b) : LkS K n Z j f vl vs w' where
 anchor := h.anchor.late hf (fun b hb => .inr (hX b hb).1)
 lg := let ⟨_, h0⟩ := E.lg; h0.over2 h.lg h.anchor (hf.mono (fun b _ hb => (hX b hb).1))
 box := h.box.keepX hf (fun hx => (hX _ hx).2 h.zkb)
 z := fun b hb => ⟨(h.z b hb).1, Nat.lt_of_lt_of_le (h.z b hb).2 hf.size⟩
 zbl := h.zbl
 zkb := h.zkb
 kb := h.kb
 loc := h.loc.keep hf (fun q hq hx => (hX _ hx).2 (h.zl q hq).1)
 stk := h.stk.keep hf (fun q hq hx => (hX _ hx).2 (h.zs q hq).1)
 zl := h.zl
 zs := h.zs
 apart := h.apart
 ll := h.ll
 sl := h.sl
theorem LkS.keep (h : LkS K n Z j f vl vs w) (E : LkE K) (hf : Fr No w w') : LkS K n Z j f vl vs w' := h.far E hf (fun _ h => h.elim)
theorem LkS.mono (h : LkS K n Z j f vl vs w) {m : Nat} (hm : n ≤ m) : LkS K m Z j f vl vs w := { h with lg := h.lg.mono hm }
end

def LkOk (K : LkP) (n : Nat) (Z : Nat → Prop) (j : Int) (f : Frm) (w w' : World) : Prop :=
 ∃ Z' vl vs, LkS K n Z' j f vl vs w' ∧ (∀ b, Z b → Z' b) ∧ (∀ b, Z' b → Z b ∨ w.heap.size ≤ b) ∧ Fr Z w w'
def wrongV (j : Int) : List PanicEntry := [{ v := .iface 129 (.agg #[.int .i64 (j + 1)]), recovered := false }]
def LkNo (K : LkP) (n : Nat) (Z : Nat → Prop) (j : Int) (c : List PanicEntry) (w w' : World) : Prop := c = wrongV j ∧ Fr K.late K.w0 w' ∧ Lg w' K.l K.bl n K.p ∧ Fr Z w w'
def LkPost (K : LkP) (n : Nat) (Z : Nat → Prop) (j : Int) (o : Option Frm) (w : World) (e : Ending) (w' : World) : Prop :=
 match o with
 | some f => e = .returned (.tuple #[]) ∧ LkOk K n Z j f w w'
 | none => ∃ c, e = .panicked c ∧ LkNo K n Z j c w w'
section
variable {K : LkP} {n n' : Nat} {Z : Nat → Prop} {j : Int} {f f' : Frm} {vl vs : Value} {w w' : World}
theorem LkOk.mk (h : LkS K n Z j f vl vs w') (hf : Fr Z w w') : LkOk K n Z j f w w' := ⟨Z, vl, vs, h, fun _ h => h, fun _ h => .inl h, hf⟩
theorem LkOk.refl (h : LkS K n Z j f vl vs w) : LkOk K n Z j f w w := .mk h (Fr.refl _ _)
theorem LkOk.from {a : World} (ha : Fr No a w) (h : LkOk K n Z j f w w') : LkOk K n Z j f a w' := by
 obtain ⟨Z', vl, vs, h1, h2, h3, h4⟩ := h
 exact ⟨Z', vl, vs, h1, h2, fun b hb => (h3 b hb).imp id (fun h => Nat.le_trans ha.size h), ha.of0.same h4⟩
theorem LkOk.to {w2 : World} (E : LkE K) (h : LkOk K n Z j f w w') (hf : Fr No w' w2) : LkOk K n Z j f w w2 := by
 obtain ⟨Z', vl, vs, h1, h2, h3, h4⟩ := h
 exact ⟨Z', vl, vs, h1.keep E hf, h2, h3, h4.trans0 hf⟩
theorem LkOk.then {Z1 : Nat → Prop} {w1 : World} (hz : ∀ b, Z b → Z1 b) (hz' : ∀ b, Z1 b → Z b ∨ w.heap.size ≤ b) (hf : Fr Z w w1) (h : LkOk K n Z1 j f w1 w') : LkOk K n Z j f w w' := by
 obtain ⟨Z', vl, vs, h1, h2, h3, h4⟩ := h
 refine ⟨Z', vl, vs, h1, fun b hb => h2 b (hz b hb), fun b hb => ?_, hf.trans h4 (fun b hb hz1 => (hz' b hz1).resolve_right (by omega))⟩
 rcases h3 b hb with h | h
 ·exact hz' b h
 ·exact .inr (Nat.le_trans hf.size h)
theorem LkOk.out {a w2 : World} {X : Nat → Prop} (E : LkE K) (ha : Fr No a w) (h : LkOk K n Z j f w w') (hf : Fr X w' w2) (hX : ∀ b, X b → a.heap.size ≤ b ∧ b < w.heap.size) (hZ : ∀ b, Z b → b < a.heap.size) (h0 : K.w0.heap.size ≤ a.heap.size) : LkOk K n Z j f a w2 := by
 obtain ⟨Z', vl, vs, h1, h2, h3, h4⟩ := h
 refine ⟨Z', vl, vs, h1.far E hf (fun b hb => ⟨by have := hX b hb; omega, fun hz => ?_⟩), h2, fun b hb => (h3 b hb).imp id (fun h => Nat.le_trans ha.size h), (ha.of0.same h4).trans hf (fun b hb hx => by have := hX b hx; omega)⟩
 have := hX b hb
 rcases h3 b hz with h | h
 ·have := hZ b h; omega
 ·omega
theorem LkOk.mono {m : Nat} (h : LkOk K n Z j f w w') (hm : n ≤ m) : LkOk K m Z j f w w' := by
 obtain ⟨Z', vl, vs, h1, h2⟩ := h
 exact ⟨Z', vl, vs, h1.mono hm, h2⟩
theorem LkS.no (h : LkS K n Z j f vl vs w) : LkNo K n Z j (wrongV j) w w := ⟨rfl, h.anchor, h.lg, Fr.refl _ _⟩
theorem LkNo.from {a : World} {c : List PanicEntry} (ha : Fr No a w) (h : LkNo K n Z j c w w') : LkNo K n Z j c a w' := ⟨h.1, h.2.1, h.2.2.1, ha.of0.same h.2.2.2⟩
theorem LkNo.then {Z1 : Nat → Prop} {w1 : World} {c : List PanicEntry} (hz' : ∀ b, Z1 b → Z b ∨ w.heap.size ≤ b) (hf : Fr Z w w1) (h : LkNo K n Z1 j c w1 w') : LkNo K n Z j c w w' := ⟨h.1, h.2.1, h.2.2.1, hf.trans h.2.2.2 (fun b hb hz1 => (hz' b hz1).resolve_right (by omega))⟩
theorem LkNo.mono {m : Nat} {c : List PanicEntry} (h : LkNo K n Z j c w w') (hm : n ≤ m) : LkNo K m Z j c w w' := ⟨h.1, h.2.1, h.2.2.1.mono hm, h.2.2.2⟩
theorem LkS.next {Y Z' : Nat → Prop} {j' : Int} {vl' vs' : Value} (h : LkS K n Z j f vl vs w) (E : LkE K) (hf : Fr Y w w') (hY : ∀ b, Y b → Z b ∧ K.w0.heap.size ≤ b)
  (hz : ∀ b, Z b → Z' b) (hz' : ∀ b, Z' b → Z b ∨ (w.heap.size ≤ b ∧ b < w'.heap.size)) (hb : Bx w' K.kb tLooker (lkC K j' vl' vs'))
  (hl : TagRow w' tTag vl' f'.locals) (hs : TagRow w' tTag vs' f'.stack) (hzl : ∀ q, rowBlk vl' = some q → Z' q ∧ K.w0.heap.size ≤ q) (hzs : ∀ q, rowBlk vs' = some q → Z' q ∧ K.w0.heap.size ≤ q) (hap : ∀ q, rowBlk vl' = some q → rowBlk vs' = some q → False) (hll : (f'.locals.length : Int) = K.m.locals) (hsl : (f'.stack.length : Int) ≤ K.m.stack) :
  LkOk K n Z j' f' w w' := by
 have hz2 : ∀ b, Z' b → K.late b ∧ b < w'.heap.size := fun b hb => by
  rcases hz' b hb with h1 | ⟨h1, h2⟩
  ·exact ⟨(h.z b h1).1, Nat.lt_of_lt_of_le (h.z b h1).2 hf.size⟩
  ·exact ⟨.inr (Nat.le_trans h.anchor.size h1), h2⟩
 exact ⟨Z', vl', vs', { anchor := h.anchor.late hf (fun b hb => .inr (hY b hb).2), lg := (let ⟨_, h0⟩ := E.lg; h0.over2 h.lg h.anchor (hf.mono (fun b _ hb => (hY b hb).2))), box := hb, z := hz2, zbl := hz _ h.zbl, zkb := hz _ h.zkb, kb := h.kb, loc := hl, stk := hs, zl := hzl, zs := hzs, apart := hap, ll := hll, sl := hsl },
  hz, fun b hb => (hz' b hb).imp id (fun h => h.1), hf.mono (fun b _ hb => (hY b hb).1)⟩
end
section
variable {K : LkP} {n : Nat} {Z : Nat → Prop} {j : Int} {f : Frm} {vl vs : Value} {w : World}
theorem LkS.cells (h : LkS K n Z j f vl vs w) : ∀ W, Fr No w W → W.cell? ⟨K.kb, 0, none⟩ = some (.pointer (some ⟨K.l, 0, none⟩)) ∧ W.cell? ⟨K.kb, 1, none⟩ = some (.int .i64 K.k) ∧ W.cell? ⟨K.kb, 4, none⟩ = some (.int .i64 K.m.ret.kind) ∧ W.cell? ⟨K.kb, 5, none⟩ = some (.string K.m.ret.name) ∧
  W.cell? ⟨K.kb, 7, none⟩ = some (.int .i64 K.m.stack) ∧ W.cell? ⟨K.kb, 8, none⟩ = some K.vc ∧ W.cell? ⟨K.kb, 9, none⟩ = some K.vm ∧ W.cell? ⟨K.kb, 10, none⟩ = some (.int .i64 j) ∧ W.cell? ⟨K.kb, 11, none⟩ = some vl ∧ W.cell? ⟨K.kb, 12, none⟩ = some vs ∧ (∀ i, W.frozen? ⟨K.kb, i, none⟩ = false) ∧ K.kb < W.heap.size := fun W hW => by
 have hb := h.box.keep hW
 exact ⟨hb.cell 0, hb.cell 1, hb.cell 4, hb.cell 5, hb.cell 7, hb.cell 8, hb.cell 9, hb.cell 10, hb.cell 11, hb.cell 12, fun i => hb.frozen i, hb.lt⟩
theorem takeF_app (xs : List Tag) (x : Tag) : takeF (xs ++ [x]) = some (x, xs) := by simp [takeF]
theorem takeF_cases (xs : List Tag) : (xs = [] ∧ takeF xs = none) ∨ ∃ ys x, xs = ys ++ [x] ∧ takeF xs = some (x, ys) := by
 rcases List.eq_nil_or_concat xs with rfl | ⟨ys, x, rfl⟩
 ·exact .inl ⟨rfl, rfl⟩
 ·exact .inr ⟨ys, x, by simp, by rw [List.concat_eq_append]; exact takeF_app _ _⟩
end
end Go.Proofs.YtbalicnnlfennaaGreat
namespace Go.Proofs.YtbalicnnlfennaaGreat
open Go.RowKit

theorem flat_tag_at (ys : List Tag) (x : Tag) (j : Nat) (hj : j < 2) : ((ys ++ [x]).flatMap tagCells)[ys.length * 2 + j]? = (tagCells x)[j]? := by
 rw [flat_tag (ys ++ [x]) ys.length (by simp) j hj]; simp
theorem TagRow.top {w : World} {e : TypeId} {v : Value} {ys : List Tag} {x : Tag} (h : TagRow w e v (ys ++ [x])) : ∃ g c, v = .slice (some ⟨g, 0, none⟩) (ys.length + 1) c ∧ rowBlk v = some g ∧ ys.length + 1 ≤ c ∧ c ≤ maxLen ∧
  w.cell? ⟨g, ys.length * 2, none⟩ = some (.int .i64 x.kind) ∧ w.cell? ⟨g, ys.length * 2 + 1, none⟩ = some (.string x.name) ∧ x.name.size ≤ maxLen := by
 obtain ⟨h, hn⟩ := h
 have el : (ys ++ [x]).length = ys.length + 1 := by simp
 obtain ⟨g, c, cur, rfl, h1, h2, _, _, _, hq⟩ := h.at_ (by omega)
 rw [el] at h h1 hq ⊢
 refine ⟨g, c, rfl, hq, h1, h2, ?_, ?_, hn x (by simp)⟩
 ·rw [h.cell rfl (by omega)]; exact flat_tag_at ys x 0 (by decide)
 ·rw [h.cell rfl (by omega)]; exact flat_tag_at ys x 1 (by decide)
def TakePost (K : LkP) (n : Nat) (Z : Nat → Prop) (j : Int) (f : Frm) (vl : Value) (o : Option (Tag × List Tag)) (w : World) (e : Ending) (w' : World) : Prop :=
 match o with
 | some (x, r) => e = .returned (.agg #[.int .i64 x.kind, .string x.name]) ∧ x.name.size ≤ maxLen ∧ w'.cell? ⟨K.kb, 11, none⟩ = some vl ∧ LkOk K n Z j ⟨f.locals, r⟩ w w'
 | none => ∃ c, e = .panicked c ∧ LkNo K n Z j c w w'
end Go.Proofs.YtbalicnnlfennaaGreat
namespace Go.Proofs.YtbalicnnlfennaaGreat
open Go.RowKit

section
variable {K : LkP} {n : Nat} {Z : Nat → Prop} {j : Int} {f : Frm} {vl vs : Value} {w : World}
theorem tag_ne_looker : tTag ≠ tLooker := by decide
theorem LkS.box_ne (h : LkS K n Z j f vl vs w) : (∀ q, rowBlk vl = some q → q ≠ K.kb) ∧ (∀ q, rowBlk vs = some q → q ≠ K.kb) :=
 ⟨fun _ hq => h.loc.1.ne h.box tag_ne_looker hq, fun _ hq => h.stk.1.ne h.box tag_ne_looker hq⟩
theorem LkS.push (h : LkS K n Z j f vl vs w) (E : LkE K) {x : Tag} (hx : x.name.size ≤ maxLen) {g' cap' : Nat} {w1 : World} (hrow : RowV w1 tTag 2 (.slice (some ⟨g', 0, none⟩) (f.stack.length + 1) cap') (f.stack.length + 1) (f.stack.flatMap tagCells ++ tagCells x))
  (hf : Fr (fun b => rowBlk vs = some b) w w1) (hor : rowBlk vs = some g' ∨ g' = w.heap.size) (hcap : f.stack.length + 1 ≤ cap') (hpm : (f.stack.length : Int) < K.m.stack) : LkOk K n Z j ⟨f.locals, f.stack ++ [x]⟩ w (w1.setCell ⟨K.kb, 12, none⟩ (.slice (some ⟨g', 0, none⟩) (f.stack.length + 1) cap')) := by
 have hne := h.box_ne
 have hb1 := h.box.keepX hf (fun e => hne.2 _ e rfl)
 have hgl : g' < w1.heap.size := hrow.lt (by rw [rowBlk_at, if_neg (by omega)])
 have hgk : g' ≠ K.kb := by
  rcases hor with h1 | h1
  ·exact hne.2 _ h1
  ·have := h.box.lt; omega
 have hw0 : K.w0.heap.size ≤ g' := by
  rcases hor with h1 | h1
  ·exact (h.zs _ h1).2
  ·rw [h1]; exact h.anchor.size
 have hst : Fr (fun b => b = K.kb) w1 (w1.setCell ⟨K.kb, 12, none⟩ (.slice (some ⟨g', 0, none⟩) (f.stack.length + 1) cap')) := Fr.one _ _ _ _
 have hq' : rowBlk (.slice (some ⟨g', 0, none⟩) (f.stack.length + 1) cap') = some g' := by rw [rowBlk_at, if_neg (by omega)]
 refine h.next (Y := fun b => rowBlk vs = some b ∨ b = K.kb) (Z' := fun b => Z b ∨ b = g') E ((hf.mono (fun b _ h => .inl h)).same (hst.mono (fun b _ h => .inr h))) (fun b hb => ?_) (fun b h => .inl h) (fun b hb => ?_) (hb1.setc rfl) ?_ ⟨?_, fun y hy => ?_⟩ (fun q hq => ⟨.inl (h.zl q hq).1, (h.zl q hq).2⟩) (fun q hq => ?_) (fun q hq hq2 => ?_) h.ll (by simp; omega)
 ·rcases hb with hb | rfl
  ·exact h.zs b hb
  ·exact ⟨h.zkb, h.kb⟩
 ·rcases hb with hb | rfl
  ·exact .inl hb
  ·rcases hor with h1 | h1
   ·exact .inl (h.zs _ h1).1
   ·exact .inr ⟨by omega, Nat.lt_of_lt_of_le hgl hst.size⟩
 ·exact (h.loc.keep hf (fun q hq e => h.apart q hq e)).keep hst (fun q hq e => hne.1 q hq e)
 ·have := hrow.keep hst (fun q hq e => by rw [hq'] at hq; cases hq; exact hgk e)
  simpa [List.flatMap_append] using this
 ·rcases List.mem_append.1 hy with hy | hy
  ·exact h.stk.2 y hy
  ·rw [List.mem_singleton.1 hy]; exact hx
 ·rw [hq'] at hq
  cases hq
  exact ⟨.inr rfl, hw0⟩
 ·rw [hq'] at hq2
  cases hq2
  rcases hor with h1 | h1
  ·exact h.apart _ hq h1
  ·have := h.loc.1.lt hq; omega
theorem LkS.pop {ys : List Tag} {x : Tag} {g c : Nat} (h : LkS K n Z j f vl (.slice (some ⟨g, 0, none⟩) (ys.length + 1) c) w) (E : LkE K) (h0 : f.stack = ys ++ [x]) :
  LkOk K n Z j ⟨f.locals, ys⟩ w (w.setCell ⟨K.kb, 12, none⟩ (.slice (some ⟨g, 0, none⟩) ys.length c)) := by
 have hne := h.box_ne
 have hst : Fr (fun b => b = K.kb) w (w.setCell ⟨K.kb, 12, none⟩ (.slice (some ⟨g, 0, none⟩) ys.length c)) := Fr.one _ _ _ _
 have hs := h.stk
 rw [h0] at hs
 have hcut := hs.cut
 rw [Nat.add_sub_cancel] at hcut
 have hqq : ∀ q, rowBlk (.slice (some ⟨g, 0, none⟩) ys.length c) = some q → rowBlk (.slice (some ⟨g, 0, none⟩) (ys.length + 1) c) = some q := fun q hq => hq
 exact h.next (Y := fun b => b = K.kb) (Z' := Z) E hst (fun b hb => by subst hb; exact ⟨h.zkb, h.kb⟩) (fun b h => h) (fun b h => .inl h) (h.box.setc rfl) (h.loc.keep hst (fun q hq e => hne.1 q hq e)) (hcut.keep hst (fun q hq e => hne.2 q (hqq q hq) e)) h.zl (fun q hq => h.zs q (hqq q hq)) (fun q h1 h2 => h.apart q h1 (hqq q h2)) h.ll (by have := h.sl; rw [h0] at this; simp at this; simp; omega)
theorem LkS.at_ (h : LkS K n Z j f vl vs w) (E : LkE K) (j' : Int) : LkS K n Z j' f vl vs (w.setCell ⟨K.kb, 10, none⟩ (.int .i64 j')) ∧ Fr Z w (w.setCell ⟨K.kb, 10, none⟩ (.int .i64 j')) := by
 have hne := h.box_ne
 have hst : Fr (fun b => b = K.kb) w (w.setCell ⟨K.kb, 10, none⟩ (.int .i64 j')) := Fr.one _ _ _ _
 refine ⟨{ anchor := h.anchor.late hst (fun b hb => .inr (by subst hb; exact h.kb)), lg := (let ⟨_, h0⟩ := E.lg; h0.over2 h.lg h.anchor (hst.mono (fun b _ hb => by subst hb; exact h.kb))), box := h.box.setc rfl, z := fun b hb => ⟨(h.z b hb).1, Nat.lt_of_lt_of_le (h.z b hb).2 hst.size⟩, zbl := h.zbl, zkb := h.zkb, kb := h.kb, loc := h.loc.keep hst (fun q hq e => hne.1 q hq e), stk := h.stk.keep hst (fun q hq e => hne.2 q hq e), zl := h.zl, zs := h.zs, apart := h.apart, ll := h.ll, sl := h.sl }, hst.mono (fun b _ hb => by subst hb; exact h.zkb)⟩
theorem set_flat : ∀ (ys : List Tag) (i : Nat) (x : Tag), i < ys.length → ((ys.flatMap tagCells).set (i * 2) (.int .i64 x.kind)).set (i * 2 + 1) (.string x.name) = (ys.set i x).flatMap tagCells
 | y :: ys, 0, x, _ => by simp [tagCells]
 | y :: ys, i + 1, x, h => by
  have e1 : (i + 1) * 2 = i * 2 + 1 + 1 := by omega
  rw [List.set_cons_succ, List.flatMap_cons, List.flatMap_cons, ← set_flat ys i x (by simpa using h), e1]
  simp [tagCells]
theorem LkS.setLoc {g c : Nat} (h : LkS K n Z j f (.slice (some ⟨g, 0, none⟩) f.locals.length c) vs w) (E : LkE K) {i : Nat} (hi : i < f.locals.length) {x : Tag} (hx : x.name.size ≤ maxLen) :
  LkOk K n Z j ⟨f.locals.set i x, f.stack⟩ w ((w.setCell ⟨g, i * 2, none⟩ (.int .i64 x.kind)).setCell ⟨g, i * 2 + 1, none⟩ (.string x.name)) := by
 have hne := h.box_ne
 have hst : Fr (fun b => b = g) w ((w.setCell ⟨g, i * 2, none⟩ (.int .i64 x.kind)).setCell ⟨g, i * 2 + 1, none⟩ (.string x.name)) := (Fr.one _ _ _ _).same (Fr.one _ _ _ _)
 obtain ⟨g', c', cur, he, h1, h2, hb, h3, h4, hq⟩ := h.loc.1.at_ (by omega)
 cases he
 have hb' : Bx ((w.setCell ⟨g, i * 2, none⟩ (.int .i64 x.kind)).setCell ⟨g, i * 2 + 1, none⟩ (.string x.name)) g tTag ((cur.setIfInBounds (i * 2) (.int .i64 x.kind)).setIfInBounds (i * 2 + 1) (.string x.name)) := (hb.set_ _ _).set_ _ _
 have hrow : RowV ((w.setCell ⟨g, i * 2, none⟩ (.int .i64 x.kind)).setCell ⟨g, i * 2 + 1, none⟩ (.string x.name)) tTag 2 (.slice (some ⟨g, 0, none⟩) f.locals.length c) (f.locals.set i x).length ((f.locals.set i x).flatMap tagCells) := by
  refine .inl ⟨by rw [flat_tag_len], .inr ⟨g, c, _, by simp, Nat.zero_le _, hb', by simpa using h1, h2, by simpa using h3, ?_⟩⟩
  rw [← set_flat _ _ _ hi, ← h4]
  simp [List.take_set]
 exact h.next (Y := fun b => b = g) (Z' := Z) E hst (fun b hb => by subst hb; exact h.zl _ hq) (fun b h => h) (fun b h => .inl h) (h.box.keepX hst (fun e => hne.1 _ hq e.symm)) ⟨hrow, fun y hy => by
  rcases List.mem_or_eq_of_mem_set hy with hy | rfl
  ·exact h.loc.2 y hy
  ·exact hx⟩ (h.stk.keep hst (fun q hq2 e => by subst e; exact h.apart _ hq hq2)) (fun q hq => h.zl q hq) h.zs (fun q h1 h2 => h.apart q h1 h2) (by simpa using h.ll) h.sl
theorem LkS.newLoc (h : LkS K n Z j f vl vs w) (E : LkE K) {v : Value} {xs : List Tag} (hv : TagRow w tTag v xs) (hx : (xs.length : Int) = K.m.locals) (hnew : ∀ q, rowBlk v = some q → K.w0.heap.size ≤ q ∧ ¬ Z q) (Y : Nat → Prop) (hY : ∀ q, rowBlk v = some q → Y q) :
  ∃ Z', LkS K n Z' j ⟨xs, f.stack⟩ v vs (w.setCell ⟨K.kb, 11, none⟩ v) ∧ (∀ b, Z b → Z' b) ∧ (∀ b, Z' b → Z b ∨ Y b) ∧ Fr Z w (w.setCell ⟨K.kb, 11, none⟩ v) := by
 have hne := h.box_ne
 have hst : Fr (fun b => b = K.kb) w (w.setCell ⟨K.kb, 11, none⟩ v) := Fr.one _ _ _ _
 refine ⟨fun b => Z b ∨ rowBlk v = some b, { anchor := h.anchor.late hst (fun b hb => .inr (by subst hb; exact h.kb)), lg := (let ⟨_, h0⟩ := E.lg; h0.over2 h.lg h.anchor (hst.mono (fun b _ hb => by subst hb; exact h.kb))), box := h.box.setc rfl, z := fun b hb => ?_, zbl := .inl h.zbl, zkb := .inl h.zkb, kb := h.kb, loc := hv.keep hst (fun q hq e => ?_), stk := h.stk.keep hst (fun q hq e => hne.2 q hq e), zl := fun q hq => ⟨.inr hq, (hnew q hq).1⟩, zs := fun q hq => ⟨.inl (h.zs q hq).1, (h.zs q hq).2⟩, apart := fun q h1 h2 => (hnew q h1).2 (h.zs q h2).1, ll := hx, sl := h.sl }, fun b h => .inl h, fun b hb => hb.imp id (fun h => hY b h), hst.mono (fun b _ hb => by subst hb; exact h.zkb)⟩
 ·rcases hb with hb | hb
  ·exact ⟨(h.z b hb).1, Nat.lt_of_lt_of_le (h.z b hb).2 hst.size⟩
  ·exact ⟨.inr (hnew b hb).1, Nat.lt_of_lt_of_le (hv.1.lt hb) hst.size⟩
 ·subst e; exact (hnew _ hq).2 h.zkb
theorem LkS.newStk (h : LkS K n Z j f vl vs w) (E : LkE K) {v : Value} {xs : List Tag} (hv : TagRow w tTag v xs) (hx : (xs.length : Int) ≤ K.m.stack) (hnew : ∀ q, rowBlk v = some q → K.w0.heap.size ≤ q ∧ ¬ Z q) (Y : Nat → Prop) (hY : ∀ q, rowBlk v = some q → Y q) :
  ∃ Z', LkS K n Z' j ⟨f.locals, xs⟩ vl v (w.setCell ⟨K.kb, 12, none⟩ v) ∧ (∀ b, Z b → Z' b) ∧ (∀ b, Z' b → Z b ∨ Y b) ∧ Fr Z w (w.setCell ⟨K.kb, 12, none⟩ v) := by
 have hne := h.box_ne
 have hst : Fr (fun b => b = K.kb) w (w.setCell ⟨K.kb, 12, none⟩ v) := Fr.one _ _ _ _
 refine ⟨fun b => Z b ∨ rowBlk v = some b, { anchor := h.anchor.late hst (fun b hb => .inr (by subst hb; exact h.kb)), lg := (let ⟨_, h0⟩ := E.lg; h0.over2 h.lg h.anchor (hst.mono (fun b _ hb => by subst hb; exact h.kb))), box := h.box.setc rfl, z := fun b hb => ?_, zbl := .inl h.zbl, zkb := .inl h.zkb, kb := h.kb, loc := h.loc.keep hst (fun q hq e => hne.1 q hq e), stk := hv.keep hst (fun q hq e => ?_), zl := fun q hq => ⟨.inl (h.zl q hq).1, (h.zl q hq).2⟩, zs := fun q hq => ⟨.inr hq, (hnew q hq).1⟩, apart := fun q h1 h2 => (hnew q h2).2 (h.zl q h1).1, ll := h.ll, sl := hx }, fun b h => .inl h, fun b hb => hb.imp id (fun h => hY b h), hst.mono (fun b _ hb => by subst hb; exact h.zkb)⟩
 ·rcases hb with hb | hb
  ·exact ⟨(h.z b hb).1, Nat.lt_of_lt_of_le (h.z b hb).2 hst.size⟩
  ·exact ⟨.inr (hnew b hb).1, Nat.lt_of_lt_of_le (hv.1.lt hb) hst.size⟩
 ·subst e; exact (hnew _ hq).2 h.zkb
end
end Go.Proofs.YtbalicnnlfennaaGreat
namespace Go.Proofs.YtbalicnnlfennaaGreat
open Go.RowKit

theorem mthB_facts {m : Mth} (h : mthB m = true) : m.args.length ≤ 3 ∧ kndB m.ret = true ∧ (∀ a ∈ m.args, kndB a = true) ∧ (m.args.length : Int) + 1 ≤ m.locals ∧ m.locals ≤ 6 ∧ 1 ≤ m.stack ∧ m.stack ≤ 5 ∧ codeB m = true ∧ mapsB m = true := by
 unfold mthB at h
 simp only [Bool.and_eq_true, decide_eq_true_eq, List.all_eq_true] at h
 obtain ⟨⟨⟨⟨⟨⟨⟨⟨⟨_, h1⟩, h2⟩, h3⟩, h4⟩, h5⟩, h6⟩, h7⟩, h8⟩, h9⟩ := h
 exact ⟨h1, h2, h3, h4, h5, h6, h7, h8, h9⟩
theorem LkE.stack_le {K : LkP} (E : LkE K) : K.m.stack ≤ 5 := (mthB_facts E.ok).2.2.2.2.2.2.1
theorem LkE.locals_le {K : LkP} (E : LkE K) : 1 ≤ K.m.locals ∧ K.m.locals ≤ 6 := by
 obtain ⟨_, _, _, h1, h2, _⟩ := mthB_facts E.ok
 omega
theorem info_tag : (Tryz.prog.info? 24).map (fun i => (i.zero, i.size, i.bytes)) = some (some (.agg #[.int .i64 0, .string ⟨#[]⟩]), 2, 24) := by kernel_rfl
end Go.Proofs.YtbalicnnlfennaaGreat

namespace Go.Proofs.YtbalicnnlfennaaGreat
open Go.RowKit

abbrev tObj : TypeId := 150
abbrev tCall : TypeId := 118
abbrev tMach : TypeId := 81
abbrev tPtr : TypeId := 113

structure McP where
 w0 : World
 l : Nat
 bl : Nat
 p : Plan
 look : Bool
 mb : Nat
def McP.late (K : McP) (b : Nat) : Prop := b = K.bl ∨ K.w0.heap.size ≤ b
structure KC where
 c : Nat
 va : Value
 vc : Value
 vm : Value
 vl : Value
 vs : Value
def KC.B (k : KC) : List Nat := k.c :: (rowB k.vl ++ rowB k.vs)
def callC (k : KC) (f : Cal) (m : Mth) : Array Value :=
 #[.int .i64 f.of_.of_.keeper, .string f.of_.of_.name, .int .i64 f.of_.at_, .string m.name, k.va, .int .i64 m.ret.kind, .string m.ret.name, .int .i64 m.locals, .int .i64 m.stack, k.vc, k.vm, .int .i64 f.pc, k.vl, k.vs, .int .i64 m.stack]
def CalR (K : McP) (W : World) (k : KC) (f : Cal) : Prop :=
 Bx W k.c tCall (callC k f (mthOf K.p f.of_)) ∧ ValRow W k.vl f.locals ∧ ValRow W k.vs f.stack ∧ Sl (fun b => b = K.bl) K.w0 4 InsC k.vc (mthOf K.p f.of_).code ∧ f.of_.of_.name.size ≤ maxLen ∧ (mthOf K.p f.of_).ret.name.size ≤ maxLen
theorem KC.mem_B {k : KC} {b : Nat} : b ∈ k.B ↔ b = k.c ∨ b ∈ rowB k.vl ∨ b ∈ rowB k.vs := by unfold KC.B; simp
def calL (K : McP) : El KC Cal where
 e := tPtr
 sz := 1
 C := fun k => [.pointer (some ⟨k.c, 0, none⟩)]
 B := KC.B
 R := CalR K
 len := fun _ => rfl
 keep := fun {X W W' k x} h hf hb => by
  obtain ⟨h1, h2, h3, h4⟩ := h
  exact ⟨h1.keepX hf (hb _ (KC.mem_B.2 (.inl rfl))), h2.keepB hf (fun q hq => hb q (KC.mem_B.2 (.inr (.inl hq)))), h3.keepB hf (fun q hq => hb q (KC.mem_B.2 (.inr (.inr hq)))), h4⟩
 lt := fun {W k x b} h hb => by
  obtain ⟨h1, h2, h3, h4⟩ := h
  rcases KC.mem_B.1 hb with rfl | hb | hb
  ·exact h1.lt
  ·exact RowV.ltB h2 hb
  ·exact RowV.ltB h3 hb
structure KO where
 r : Ref
 vf : Value
def KO.B (k : KO) : List Nat := rowB k.vf
def objL : El KO Obj where
 e := tObj
 sz := 3
 C := fun k => [.int .i64 k.r.keeper, .string k.r.name, k.vf]
 B := KO.B
 R := fun W k o => k.r = o.of_ ∧ o.of_.name.size ≤ maxLen ∧ ValRow W k.vf o.fields
 len := fun _ => rfl
 keep := fun h hf hb => ⟨h.1, h.2.1, h.2.2.keepB hf hb⟩
 lt := fun h hb => RowV.ltB h.2.2 hb
structure MLay where
 vc : Value
 vh : Value
 vo : Value
 kc : List KC
 ko : List KO
def mcB (K : McP) (m : MLay) : List Nat := K.mb :: (rowB m.vc ++ (m.kc.flatMap KC.B ++ (rowB m.vh ++ (m.ko.flatMap KO.B ++ rowB m.vo))))
def macC (K : McP) (s : St) (m : MLay) : Array Value := #[.pointer (some ⟨K.l, 0, none⟩), .bool K.look, .int .i64 s.status, m.vc, m.vh, m.vo, .int .i64 s.back.kind, .int .i64 s.back.n]
structure McS (K : McP) (n : Nat) (s : St) (m : MLay) (w : World) : Prop where
 anchor : Fr K.late K.w0 w
 lg : Lg w K.l K.bl n K.p
 box : Bx w K.mb tMach (macC K s m)
 crow : RowV w tPtr 1 m.vc s.frames.length (m.kc.flatMap (calL K).C)
 cels : Els (calL K) w m.kc s.frames
 hrow : RowV w tObj 3 m.vh s.heap.length (m.ko.flatMap objL.C)
 hels : Els objL w m.ko s.heap
 orow : OutRow w m.vo s.outs
 nodup : (mcB K m).Nodup
 new : ∀ b ∈ mcB K m, K.w0.heap.size ≤ b
def McE (K : McP) : Prop := ∃ n, Lg K.w0 K.l K.bl n K.p

theorem nodup_out {A B C : List Nat} (h : (A ++ (B ++ C)).Nodup) {b : Nat} (hb : b ∈ A ∨ b ∈ C) : b ∉ B := by
 rw [List.nodup_append, List.nodup_append] at h
 obtain ⟨_, ⟨_, _, h1⟩, h2⟩ := h
 intro hB
 rcases hb with hb | hb
 ·exact h2 b hb b (List.mem_append_left _ hB) rfl
 ·exact h1 b hB b hb rfl
theorem nodup_swap {A B C B' : List Nat} {n : Nat} (h : (A ++ (B ++ C)).Nodup) (hlt : ∀ b, b ∈ A ∨ b ∈ C → b < n) (hB : ∀ b ∈ B', b ∈ B ∨ n ≤ b) (hn : B'.Nodup) : (A ++ (B' ++ C)).Nodup := by
 have ho := fun b (hb : b ∈ A ∨ b ∈ C) => nodup_out h hb
 rw [List.nodup_append, List.nodup_append] at h ⊢
 obtain ⟨h1, ⟨_, h3, _⟩, h5⟩ := h
 refine ⟨h1, ⟨hn, h3, fun a ha b hb e => ?_⟩, fun a ha b hb e => ?_⟩
 ·subst e
  rcases hB a ha with h | h
  ·exact ho a (.inr hb) h
  ·have := hlt a (.inr hb); omega
 ·subst e
  rcases List.mem_append.1 hb with hb | hb
  ·rcases hB a hb with h | h
   ·exact ho a (.inl ha) h
   ·have := hlt a (.inl ha); omega
  ·exact h5 a ha a (List.mem_append_right _ hb) rfl
section
variable {K : McP} {n : Nat} {s : St} {m : MLay} {w w' : World} {X : Nat → Prop}
theorem mem_mcB {b : Nat} : b ∈ mcB K m ↔ b = K.mb ∨ b ∈ rowB m.vc ∨ b ∈ m.kc.flatMap KC.B ∨ b ∈ rowB m.vh ∨ b ∈ m.ko.flatMap KO.B ∨ b ∈ rowB m.vo := by
 unfold mcB
 simp only [List.mem_cons, List.mem_append]
theorem McS.lt (h : McS K n s m w) {b : Nat} (hb : b ∈ mcB K m) : b < w.heap.size := by
 rcases mem_mcB.1 hb with rfl | hb | hb | hb | hb | hb
 ·exact h.box.lt
 ·exact h.crow.ltB hb
 ·exact h.cels.lt b hb
 ·exact h.hrow.ltB hb
 ·exact h.hels.lt b hb
 ·exact RowV.ltB h.orow hb
theorem McE.bl_lt (E : McE K) : K.bl < K.w0.heap.size := let ⟨_, h⟩ := E; h.lt
theorem McE.ok (E : McE K) : lodB K.p = true := let ⟨_, h⟩ := E; h.ok
theorem McS.lgOf (h : McS K n s m w) (E : McE K) (hf : Fr X w w') (hX : ∀ b, X b → K.w0.heap.size ≤ b) : Lg w' K.l K.bl n K.p := let ⟨_, h0⟩ := E; h0.over2 h.lg h.anchor (hf.mono (fun b _ hb => hX b hb))
theorem McS.ancOf (h : McS K n s m w) (hf : Fr X w w') (hX : ∀ b, X b → K.w0.heap.size ≤ b) : Fr K.late K.w0 w' := h.anchor.trans hf (fun b _ hb => .inr (hX b hb))
theorem McS.far (h : McS K n s m w) (E : McE K) (hf : Fr X w w') (hX : ∀ b, X b → K.w0.heap.size ≤ b ∧ b ∉ mcB K m) : McS K n s m w' where
 anchor := h.ancOf hf (fun b hb => (hX b hb).1)
 lg := h.lgOf E hf (fun b hb => (hX b hb).1)
 box := h.box.keepX hf (fun hx => (hX _ hx).2 (mem_mcB.2 (.inl rfl)))
 crow := h.crow.keepB hf (fun q hq hx => (hX q hx).2 (mem_mcB.2 (.inr (.inl hq))))
 cels := h.cels.keep hf (fun q hq hx => (hX q hx).2 (mem_mcB.2 (.inr (.inr (.inl hq)))))
 hrow := h.hrow.keepB hf (fun q hq hx => (hX q hx).2 (mem_mcB.2 (.inr (.inr (.inr (.inl hq))))))
 hels := h.hels.keep hf (fun q hq hx => (hX q hx).2 (mem_mcB.2 (.inr (.inr (.inr (.inr (.inl hq)))))))
 orow := h.orow.keepB hf (fun q hq hx => (hX q hx).2 (mem_mcB.2 (.inr (.inr (.inr (.inr (.inr hq)))))))
 nodup := h.nodup
 new := h.new
theorem McS.keep (h : McS K n s m w) (E : McE K) (hf : Fr No w w') : McS K n s m w' := h.far E hf (fun _ h => h.elim)
theorem McS.lodge (h : McS K n s m w) (E : McE K) {n' : Nat} (hl : Lg w' K.l K.bl n' K.p) (hf : Fr (fun b => b = K.bl) w w') : McS K n' s m w' := by
 have hb := E.bl_lt
 have ho : ∀ b ∈ mcB K m, ¬ b = K.bl := fun b hb' e => by have := h.new b hb'; omega
 exact {
   anchor := h.anchor.trans hf (fun b _ hb => .inl hb), lg := hl, box := h.box.keepX hf (ho _ (mem_mcB.2 (.inl rfl))),
   crow := h.crow.keepB hf (fun q hq => ho q (mem_mcB.2 (.inr (.inl hq)))), cels := h.cels.keep hf (fun q hq => ho q (mem_mcB.2 (.inr (.inr (.inl hq))))),
   hrow := h.hrow.keepB hf (fun q hq => ho q (mem_mcB.2 (.inr (.inr (.inr (.inl hq)))))), hels := h.hels.keep hf (fun q hq => ho q (mem_mcB.2 (.inr (.inr (.inr (.inr (.inl hq))))))),
   orow := h.orow.keepB hf (fun q hq => ho q (mem_mcB.2 (.inr (.inr (.inr (.inr (.inr hq))))))), nodup := h.nodup, new := h.new }
theorem McS.mono (h : McS K n s m w) {n' : Nat} (hn : n ≤ n') : McS K n' s m w := { h with lg := h.lg.mono hn }
theorem McS.split1 (h : McS K n s m w) {ks : List KC} {k : KC} (hk : m.kc = ks ++ [k]) : ((K.mb :: (rowB m.vc ++ ks.flatMap KC.B)) ++ (k.B ++ (rowB m.vh ++ (m.ko.flatMap KO.B ++ rowB m.vo)))).Nodup := by
 have := h.nodup
 unfold mcB at this
 rw [hk, List.flatMap_append] at this
 simpa using this
theorem McS.top (h : McS K n s m w) (E : McE K) {ks : List KC} {k k' : KC} {fs : List Cal} {f f' : Cal} (hk : m.kc = ks ++ [k]) (hs : s.frames = fs ++ [f]) (hf : Fr X w w') (hX : ∀ b, X b → b ∈ k.B)
  (hc : k'.c = k.c) (hR : CalR K w' k' f') (hB : ∀ b ∈ k'.B, b ∈ k.B ∨ w.heap.size ≤ b) (hn : k'.B.Nodup) : McS K n ⟨s.status, fs ++ [f'], s.heap, s.outs, s.back⟩ ⟨m.vc, m.vh, m.vo, ks ++ [k'], m.ko⟩ w' := by
 have hN := h.split1 hk
 have hin : ∀ b ∈ k.B, b ∈ mcB K m := fun b hb => mem_mcB.2 (.inr (.inr (.inl (by rw [hk, List.flatMap_append]; simp [hb]))))
 have hks : ∀ b ∈ ks.flatMap KC.B, b ∈ m.kc.flatMap KC.B := fun b hb => by rw [hk, List.flatMap_append]; exact List.mem_append_left _ hb
 have ho := fun b hb => nodup_out hN (b := b) hb
 have hcr := h.crow
 have hce := h.cels
 rw [hk, hs] at hcr hce
 obtain ⟨hce1, _⟩ := hce.last2
 refine { anchor := h.ancOf hf (fun b hb => h.new b (hin b (hX b hb))), lg := h.lgOf E hf (fun b hb => h.new b (hin b (hX b hb))), box := ?_, crow := ?_, cels := ?_, hrow := ?_, hels := ?_, orow := ?_, nodup := ?_, new := fun b hb => ?_ }
 ·exact h.box.keepX hf (fun hx => ho K.mb (.inl (by simp)) (hX _ hx))
 ·have e : (ks ++ [k']).flatMap (calL K).C = (ks ++ [k]).flatMap (calL K).C := by simp [List.flatMap_append, calL, hc]
  have hl : (fs ++ [f']).length = (fs ++ [f]).length := by simp
  show RowV w' tPtr 1 m.vc (fs ++ [f']).length ((ks ++ [k']).flatMap (calL K).C)
  rw [e, hl]
  exact hcr.keepB hf (fun q hq hx => ho q (.inl (by simp [hq])) (hX _ hx))
 ·exact (hce1.keep hf (fun q hq hx => ho q (.inl (List.mem_cons_of_mem _ (List.mem_append_right _ hq))) (hX _ hx))).snoc hR
 ·exact h.hrow.keepB hf (fun q hq hx => ho q (.inr (by simp [hq])) (hX _ hx))
 ·exact h.hels.keep hf (fun q hq hx => ho q (.inr (List.mem_append_right _ (List.mem_append_left _ hq))) (hX _ hx))
 ·exact h.orow.keepB hf (fun q hq hx => ho q (.inr (by simp [hq])) (hX _ hx))
 ·have := nodup_swap (n := w.heap.size) hN (fun b hb => h.lt (mem_mcB.2 (by
   rcases hb with hb | hb
   ·rcases List.mem_cons.1 hb with hb | hb
    ·exact .inl hb
    ·rcases List.mem_append.1 hb with hb | hb
     ·exact .inr (.inl hb)
     ·exact .inr (.inr (.inl (hks b hb)))
   ·simp only [List.mem_append] at hb
    rcases hb with hb | hb | hb
    ·exact .inr (.inr (.inr (.inl hb)))
    ·exact .inr (.inr (.inr (.inr (.inl hb))))
    ·exact .inr (.inr (.inr (.inr (.inr hb))))))) hB hn
  unfold mcB
  rw [List.flatMap_append]
  simpa using this
 ·rcases mem_mcB.1 hb with hb | hb | hb | hb | hb | hb
  ·exact h.new b (mem_mcB.2 (.inl hb))
  ·exact h.new b (mem_mcB.2 (.inr (.inl hb)))
  ·rw [List.flatMap_append, List.mem_append] at hb
   rcases hb with hb | hb
   ·exact h.new b (mem_mcB.2 (.inr (.inr (.inl (hks b hb)))))
   ·simp only [List.flatMap_cons, List.flatMap_nil, List.append_nil] at hb
    rcases hB b hb with hb | hb
    ·exact h.new b (hin b hb)
    ·exact Nat.le_trans h.anchor.size hb
  ·exact h.new b (mem_mcB.2 (.inr (.inr (.inr (.inl hb)))))
  ·exact h.new b (mem_mcB.2 (.inr (.inr (.inr (.inr (.inl hb))))))
  ·exact h.new b (mem_mcB.2 (.inr (.inr (.inr (.inr (.inr hb))))))
end
end Go.Proofs.YtbalicnnlfennaaGreat
