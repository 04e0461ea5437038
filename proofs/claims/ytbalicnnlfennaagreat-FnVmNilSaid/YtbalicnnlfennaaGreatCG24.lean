/- The program's own machine in memory: its topmost method, and what becomes of it. -/
import Derived.Test.YtbalicnnlfennaaGreatCG23
namespace Go.Proofs.YtbalicnnlfennaaGreat
open Go.RowKit

structure McT (K : McP) (n : Nat) (s : St) (fs : List Cal) (f : Cal) (m : MLay) (ks : List KC) (k : KC) (w : World) : Prop where
 st : McS K n s m w
 fr : s.frames = fs ++ [f]
 kc : m.kc = ks ++ [k]
 go : s.status = 1
def McP.own (K : McP) (m : MLay) (b : Nat) : Prop := b = K.bl ∨ b ∈ mcB K m
def McOk (K : McP) (n : Nat) (c : Nat) (s : St) (fs : List Cal) (f : Cal) (m0 : MLay) (w w' : World) : Prop :=
 ∃ m ks k, McT K n ⟨s.status, fs ++ [f], s.heap, s.outs, s.back⟩ fs f m ks k w' ∧ k.c = c ∧ (∀ b ∈ mcB K m, b ∈ mcB K m0 ∨ w.heap.size ≤ b) ∧ Fr (K.own m0) w w'
def OpOk (K : McP) (n : Nat) (s' : St) (m0 : MLay) (w w' : World) : Prop :=
 ∃ fs m, McS K n ⟨1, fs, s'.heap, s'.outs, s'.back⟩ m w' ∧ (s'.status = 1 → fs = s'.frames) ∧ (∀ b ∈ mcB K m, b ∈ mcB K m0 ∨ w.heap.size ≤ b) ∧ Fr (K.own m0) w w'
def OpPost (K : McP) (n : Nat) (s' : St) (m0 : MLay) (w : World) (e : Ending) (w' : World) : Prop := e = .returned (.int .i64 s'.status) ∧ OpOk K n s' m0 w w'
theorem rowB_c {v : Value} {q : Nat} (h : rowBlk v = some q) : q ∈ rowB v := mem_rowB.2 h
theorem KC.nodup_iff {k : KC} : k.B.Nodup ↔ (∀ q, rowBlk k.vl = some q → q ≠ k.c) ∧ (∀ q, rowBlk k.vs = some q → q ≠ k.c) ∧ (∀ q, rowBlk k.vl = some q → rowBlk k.vs = some q → False) := by
 unfold KC.B
 rw [List.nodup_cons, List.nodup_append, List.mem_append]
 constructor
 ·rintro ⟨h1, _, _, h2⟩
  exact ⟨fun q hq e => h1 (.inl (e ▸ rowB_c hq)), fun q hq e => h1 (.inr (e ▸ rowB_c hq)), fun q h3 h4 => h2 q (rowB_c h3) q (rowB_c h4) rfl⟩
 ·rintro ⟨h1, h2, h3⟩
  refine ⟨?_, rowB_nodup _, rowB_nodup _, fun a ha b hb e => ?_⟩
  ·rintro (h | h)
   ·exact h1 _ (mem_rowB.1 h) rfl
   ·exact h2 _ (mem_rowB.1 h) rfl
  ·subst e
   exact h3 _ (mem_rowB.1 ha) (mem_rowB.1 hb)
theorem RowV.cutTo {w : World} {e : TypeId} {sz n r : Nat} {g c : Nat} {xs : List Value} (h : RowV w e sz (.slice (some ⟨g, 0, none⟩) n c) n xs) (hr : r ≤ n) : RowV w e sz (.slice (some ⟨g, 0, none⟩) r c) r (xs.take (r * sz)) := by
 have hl := h.len
 by_cases h0 : 0 < n
 ·obtain ⟨g', c', cur, he, h1, h2, hb, h3, h4, _⟩ := h.at_ h0
  simp only [Value.slice.injEq, Option.some.injEq, Addr.mk.injEq, and_true, true_and] at he
  obtain ⟨rfl, rfl⟩ := he
  have hle : r * sz ≤ n * sz := Nat.mul_le_mul_right _ hr
  exact .inl ⟨by rw [List.length_take, hl]; omega, .inr ⟨g, c, cur, rfl, Nat.zero_le _, hb, by omega, h2, h3, by rw [← h4, List.take_take, Nat.min_eq_left hle]⟩⟩
 ·obtain rfl : n = 0 := by omega
  obtain rfl : r = 0 := by omega
  have : xs.take (0 * sz) = xs := by
   have : xs = [] := List.eq_nil_of_length_eq_zero (by rw [hl]; simp)
   rw [this]; simp
  rw [this]
  exact h
theorem setC13 (k : KC) (f : Cal) (m : Mth) (v : Value) (st : List Val) : (callC k f m).setIfInBounds 13 v = callC ⟨k.c, k.va, k.vc, k.vm, k.vl, v⟩ ⟨f.of_, f.pc, f.locals, st⟩ m := rfl
theorem setC11 (k : KC) (f : Cal) (m : Mth) (to : Int) : (callC k f m).setIfInBounds 11 (.int .i64 to) = callC k ⟨f.of_, to, f.locals, f.stack⟩ m := rfl
section
variable {K : McP} {n : Nat} {s : St} {fs : List Cal} {f : Cal} {m : MLay} {ks : List KC} {k : KC} {w w' w1 : World} {X : Nat → Prop}
theorem McT.keep (h : McT K n s fs f m ks k w) (E : McE K) (hf : Fr No w w') : McT K n s fs f m ks k w' := ⟨h.st.keep E hf, h.fr, h.kc, h.go⟩
theorem McT.far (h : McT K n s fs f m ks k w) (E : McE K) (hf : Fr X w w') (hX : ∀ b, X b → K.w0.heap.size ≤ b ∧ b ∉ mcB K m) : McT K n s fs f m ks k w' := ⟨h.st.far E hf hX, h.fr, h.kc, h.go⟩
theorem McT.lodge (h : McT K n s fs f m ks k w) (E : McE K) {n' : Nat} (hl : Lg w' K.l K.bl n' K.p) (hf : Fr (fun b => b = K.bl) w w') : McT K n' s fs f m ks k w' := ⟨h.st.lodge E hl hf, h.fr, h.kc, h.go⟩
theorem McT.cal (h : McT K n s fs f m ks k w) : CalR K w k f := by
 have hc := h.st.cels
 rw [h.fr, h.kc] at hc
 exact hc.last2.2
theorem McT.nodup (h : McT K n s fs f m ks k w) : k.B.Nodup := by
 have := h.st.split1 h.kc
 rw [List.nodup_append, List.nodup_append] at this
 exact this.2.1.1
theorem McT.inB (h : McT K n s fs f m ks k w) {b : Nat} (hb : b ∈ k.B) : b ∈ mcB K m := mem_mcB.2 (.inr (.inr (.inl (by rw [h.kc, List.flatMap_append]; simp [hb]))))
theorem McT.ltB (h : McT K n s fs f m ks k w) {b : Nat} (hb : b ∈ k.B) : b < w.heap.size := h.st.lt (h.inB hb)
theorem McT.box (h : McT K n s fs f m ks k w) : Bx w k.c tCall (callC k f (mthOf K.p f.of_)) := h.cal.1
theorem McT.ok (h : McT K n s fs f m ks k w) (E : McE K) {k' : KC} {f' : Cal} (hf : Fr X w w') (hX : ∀ b, X b → b ∈ k.B) (hc : k'.c = k.c) (hR : CalR K w' k' f') (hB : ∀ b ∈ k'.B, b ∈ k.B ∨ w.heap.size ≤ b) (hn : k'.B.Nodup) : McOk K n k.c s fs f' m w w' := by
 refine ⟨⟨m.vc, m.vh, m.vo, ks ++ [k'], m.ko⟩, ks, k', ⟨h.st.top E h.kc h.fr hf hX hc hR hB hn, rfl, rfl, h.go⟩, hc, fun b hb => ?_, hf.mono (fun b _ hb => .inr (h.inB (hX b hb)))⟩
 rcases mem_mcB.1 hb with hb | hb | hb | hb | hb | hb
 ·exact .inl (mem_mcB.2 (.inl hb))
 ·exact .inl (mem_mcB.2 (.inr (.inl hb)))
 ·rw [List.flatMap_append, List.mem_append] at hb
  rcases hb with hb | hb
  ·exact .inl (mem_mcB.2 (.inr (.inr (.inl (by rw [h.kc, List.flatMap_append]; exact List.mem_append_left _ hb)))))
  ·simp only [List.flatMap_cons, List.flatMap_nil, List.append_nil] at hb
   exact (hB b hb).imp h.inB id
 ·exact .inl (mem_mcB.2 (.inr (.inr (.inr (.inl hb)))))
 ·exact .inl (mem_mcB.2 (.inr (.inr (.inr (.inr (.inl hb))))))
 ·exact .inl (mem_mcB.2 (.inr (.inr (.inr (.inr (.inr hb))))))
theorem McT.push (h : McT K n s fs f m ks k w) (E : McE K) {v : Val} {g' cap' : Nat} (hrow : RowV w1 tVal 2 (.slice (some ⟨g', 0, none⟩) (f.stack.length + 1) cap') (f.stack.length + 1) (f.stack.flatMap valCells ++ valCells v))
  (hf : Fr (fun b => rowBlk k.vs = some b) w w1) (hor : rowBlk k.vs = some g' ∨ g' = w.heap.size) (hcap : f.stack.length + 1 ≤ cap') :
  McOk K n k.c s fs ⟨f.of_, f.pc, f.locals, f.stack ++ [v]⟩ m w (w1.setCell ⟨k.c, 13, none⟩ (.slice (some ⟨g', 0, none⟩) (f.stack.length + 1) cap')) := by
 obtain ⟨h1, h2, h3, h4, h5, h6⟩ := h.cal
 obtain ⟨q1, q2, q3⟩ := KC.nodup_iff.1 h.nodup
 have hst : Fr (fun b => b = k.c) w1 (w1.setCell ⟨k.c, 13, none⟩ (.slice (some ⟨g', 0, none⟩) (f.stack.length + 1) cap')) := Fr.one _ _ _ _
 have hgc : g' ≠ k.c := by
  rcases hor with h9 | h9
  ·exact q2 _ h9
  ·have := h1.lt; omega
 have hq' : rowBlk (.slice (some ⟨g', 0, none⟩) (f.stack.length + 1) cap') = some g' := rowBlk_some (by omega)
 have hrow' := hrow.keep hst (fun q hq e => by rw [hq'] at hq; cases hq; exact hgc e)
 refine h.ok E (X := fun b => rowBlk k.vs = some b ∨ b = k.c) (k' := ⟨k.c, k.va, k.vc, k.vm, k.vl, .slice (some ⟨g', 0, none⟩) (f.stack.length + 1) cap'⟩) ((hf.mono (fun b _ h => .inl h)).same (hst.mono (fun b _ h => .inr h))) (fun b hb => ?_) rfl ⟨?_, ?_, ?_, h4, h5, h6⟩ (fun b hb => ?_) (KC.nodup_iff.2 ⟨q1, fun q hq => ?_, fun q hq hq2 => ?_⟩)
 ·rcases hb with hb | rfl
  ·exact KC.mem_B.2 (.inr (.inr (rowB_c hb)))
  ·exact KC.mem_B.2 (.inl rfl)
 ·exact (h1.keepX hf (fun e => q2 _ e rfl)).setc (setC13 _ _ _ _ _)
 ·exact (h2.keepB hf (fun q hq e => q3 q (mem_rowB.1 hq) e)).keepB hst (fun q hq e => q1 q (mem_rowB.1 hq) e)
 ·show RowV _ tVal 2 _ (f.stack ++ [v]).length _
  simpa [List.flatMap_append] using hrow'
 ·rcases KC.mem_B.1 hb with hb | hb | hb
  ·exact .inl (KC.mem_B.2 (.inl hb))
  ·exact .inl (KC.mem_B.2 (.inr (.inl hb)))
  ·rw [mem_rowB] at hb
   dsimp only at hb
   rw [hq'] at hb
   cases hb
   rcases hor with h9 | h9
   ·exact .inl (KC.mem_B.2 (.inr (.inr (rowB_c h9))))
   ·exact .inr (by omega)
 ·dsimp only at hq
  rw [hq'] at hq
  cases hq
  exact hgc
 ·dsimp only at hq hq2
  rw [hq'] at hq2
  cases hq2
  rcases hor with h9 | h9
  ·exact q3 _ hq h9
  ·have := h2.lt hq; omega
theorem McT.cut (h : McT K n s fs f m ks k w) (E : McE K) {g c r : Nat} (hv : k.vs = .slice (some ⟨g, 0, none⟩) f.stack.length c) (hr : r ≤ f.stack.length) :
  McOk K n k.c s fs (f.left (f.stack.take r)) m w (w.setCell ⟨k.c, 13, none⟩ (.slice (some ⟨g, 0, none⟩) r c)) := by
 obtain ⟨h1, h2, h3, h4, h5, h6⟩ := h.cal
 obtain ⟨q1, q2, q3⟩ := KC.nodup_iff.1 h.nodup
 have hst : Fr (fun b => b = k.c) w (w.setCell ⟨k.c, 13, none⟩ (.slice (some ⟨g, 0, none⟩) r c)) := Fr.one _ _ _ _
 have hqq : ∀ q, rowBlk (.slice (some ⟨g, 0, none⟩) r c) = some q → rowBlk k.vs = some q := fun q hq => by rw [hv]; exact hq
 unfold ValRow at h3
 rw [hv] at h3
 have hcut := h3.cutTo hr
 have hlt : (f.stack.take r).length = r := by rw [List.length_take]; omega
 have hcut2 : ValRow w (.slice (some ⟨g, 0, none⟩) r c) (f.stack.take r) := by
  unfold ValRow
  rw [hlt]
  have e : (f.stack.flatMap valCells).take (r * 2) = (f.stack.take r).flatMap valCells := by
   have := flatW_take valCells_len (f.stack.take r) (f.stack.drop r)
   rw [List.take_append_drop, hlt] at this
   exact this
  rw [← e]
  exact hcut
 refine h.ok E (X := fun b => b = k.c) (k' := ⟨k.c, k.va, k.vc, k.vm, k.vl, .slice (some ⟨g, 0, none⟩) r c⟩) hst (fun b hb => by subst hb; exact KC.mem_B.2 (.inl rfl)) rfl ⟨h1.setc (setC13 _ _ _ _ _), h2.keepB hst (fun q hq e => q1 q (mem_rowB.1 hq) e), hcut2.keepB hst (fun q hq e => q2 q (hqq q (mem_rowB.1 hq)) e), h4, h5, h6⟩ (fun b hb => ?_) (KC.nodup_iff.2 ⟨q1, fun q hq => q2 q (hqq q hq), fun q hq hq2 => q3 q hq (hqq q hq2)⟩)
 rcases KC.mem_B.1 hb with hb | hb | hb
 ·exact .inl (KC.mem_B.2 (.inl hb))
 ·exact .inl (KC.mem_B.2 (.inr (.inl hb)))
 ·exact .inl (KC.mem_B.2 (.inr (.inr (rowB_c (hqq b (mem_rowB.1 hb))))))
theorem McT.setPc (h : McT K n s fs f m ks k w) (E : McE K) (to : Int) : McOk K n k.c s fs ⟨f.of_, to, f.locals, f.stack⟩ m w (w.setCell ⟨k.c, 11, none⟩ (.int .i64 to)) := by
 obtain ⟨h1, h2, h3, h4⟩ := h.cal
 obtain ⟨q1, q2, q3⟩ := KC.nodup_iff.1 h.nodup
 have hst : Fr (fun b => b = k.c) w (w.setCell ⟨k.c, 11, none⟩ (.int .i64 to)) := Fr.one _ _ _ _
 exact h.ok E (X := fun b => b = k.c) (k' := k) hst (fun b hb => by subst hb; exact KC.mem_B.2 (.inl rfl)) rfl ⟨h1.setc (setC11 _ _ _ _), h2.keepB hst (fun q hq e => q1 q (mem_rowB.1 hq) e), h3.keepB hst (fun q hq e => q2 q (mem_rowB.1 hq) e), h4⟩ (fun b hb => .inl hb) h.nodup
theorem set_flatV : ∀ (ys : List Val) (i : Nat) (x : Val), i < ys.length → ((ys.flatMap valCells).set (i * 2) (.int .i64 x.kind)).set (i * 2 + 1) (.int .i64 x.n) = (ys.set i x).flatMap valCells
 | y :: ys, 0, x, _ => by simp [valCells]
 | y :: ys, i + 1, x, h => by
  have e1 : (i + 1) * 2 = i * 2 + 1 + 1 := by omega
  rw [List.set_cons_succ, List.flatMap_cons, List.flatMap_cons, ← set_flatV ys i x (by simpa using h), e1]
  simp [valCells]
theorem ValRow.set {xs : List Val} {g c i : Nat} (h : ValRow w (.slice (some ⟨g, 0, none⟩) xs.length c) xs) (hi : i < xs.length) (x : Val) :
  ValRow ((w.setCell ⟨g, i * 2, none⟩ (.int .i64 x.kind)).setCell ⟨g, i * 2 + 1, none⟩ (.int .i64 x.n)) (.slice (some ⟨g, 0, none⟩) xs.length c) (xs.set i x) := by
 obtain ⟨g', c', cur, he, h1, h2, hb, h3, h4, hq⟩ := RowV.at_ h (by omega)
 cases he
 have hb' := (hb.set_ (i * 2) (.int .i64 x.kind)).set_ (i * 2 + 1) (.int .i64 x.n)
 refine .inl ⟨by rw [flatW_len valCells_len], .inr ⟨g, c, _, by simp, Nat.zero_le _, hb', by simpa using h1, h2, by simpa using h3, ?_⟩⟩
 rw [← set_flatV _ _ _ hi, ← h4]
 simp [List.take_set]
theorem McT.setLoc (h : McT K n s fs f m ks k w) (E : McE K) {g c i : Nat} (hv : k.vl = .slice (some ⟨g, 0, none⟩) f.locals.length c) (hi : i < f.locals.length) (x : Val) :
  McOk K n k.c s fs ⟨f.of_, f.pc, f.locals.set i x, f.stack⟩ m w ((w.setCell ⟨g, i * 2, none⟩ (.int .i64 x.kind)).setCell ⟨g, i * 2 + 1, none⟩ (.int .i64 x.n)) := by
 obtain ⟨h1, h2, h3, h4⟩ := h.cal
 obtain ⟨q1, q2, q3⟩ := KC.nodup_iff.1 h.nodup
 have hst : Fr (fun b => b = g) w ((w.setCell ⟨g, i * 2, none⟩ (.int .i64 x.kind)).setCell ⟨g, i * 2 + 1, none⟩ (.int .i64 x.n)) := (Fr.one _ _ _ _).same (Fr.one _ _ _ _)
 rw [hv] at h2
 have hc0 : 0 < c := by
  obtain ⟨A, c', he, hle, _⟩ := RowV.form h2
  cases he
  omega
 have hq : rowBlk k.vl = some g := by rw [hv]; exact rowBlk_some hc0
 have h2' := h2.set hi x
 refine h.ok E (X := fun b => b = g) (k' := k) hst (fun b hb => by subst hb; exact KC.mem_B.2 (.inr (.inl (rowB_c hq)))) rfl ⟨h1.keepX hst (fun e => q1 _ hq e.symm), ?_, h3.keepB hst (fun q hq2 e => by subst e; exact q3 _ hq (mem_rowB.1 hq2)), h4⟩ (fun b hb => .inl hb) h.nodup
 show ValRow _ k.vl (f.locals.set i x)
 rw [hv]
 exact h2'
theorem own_then {m0 m1 : MLay} (hB : ∀ b ∈ mcB K m1, b ∈ mcB K m0 ∨ w.heap.size ≤ b) (hf : Fr (K.own m0) w w1) (h : Fr (K.own m1) w1 w') : Fr (K.own m0) w w' :=
 hf.trans h (fun b hb hx => by
  rcases hx with hx | hx
  ·exact .inl hx
  ·exact .inr ((hB b hx).resolve_right (by omega)))
theorem blk_then {m0 m1 m2 : MLay} (hB : ∀ b ∈ mcB K m1, b ∈ mcB K m0 ∨ w.heap.size ≤ b) (hs : w.heap.size ≤ w1.heap.size) (hC : ∀ b ∈ mcB K m2, b ∈ mcB K m1 ∨ w1.heap.size ≤ b) : ∀ b ∈ mcB K m2, b ∈ mcB K m0 ∨ w.heap.size ≤ b := fun b hb => by
 rcases hC b hb with h | h
 ·exact hB b h
 ·exact .inr (Nat.le_trans hs h)
theorem OpOk.then {m0 m1 : MLay} {s' : St} (hB : ∀ b ∈ mcB K m1, b ∈ mcB K m0 ∨ w.heap.size ≤ b) (hf : Fr (K.own m0) w w1) (h : OpOk K n s' m1 w1 w') : OpOk K n s' m0 w w' := by
 obtain ⟨fs, m, h1, h2, h3, h4⟩ := h
 exact ⟨fs, m, h1, h2, blk_then hB hf.size h3, own_then hB hf h4⟩
theorem McOk.then {m0 m1 : MLay} {c : Nat} (hB : ∀ b ∈ mcB K m1, b ∈ mcB K m0 ∨ w.heap.size ≤ b) (hf : Fr (K.own m0) w w1) (h : McOk K n c s fs f m1 w1 w') : McOk K n c s fs f m0 w w' := by
 obtain ⟨m, ks, k, h1, h2, h3, h4⟩ := h
 exact ⟨m, ks, k, h1, h2, blk_then hB hf.size h3, own_then hB hf h4⟩
theorem OpOk.from {m0 : MLay} {s' : St} (ha : Fr No w w1) (h : OpOk K n s' m0 w1 w') : OpOk K n s' m0 w w' := h.then (fun _ h => .inl h) ha.of0
theorem McOk.from {m0 : MLay} {c : Nat} (ha : Fr No w w1) (h : McOk K n c s fs f m0 w1 w') : McOk K n c s fs f m0 w w' := h.then (fun _ h => .inl h) ha.of0
theorem OpOk.lg {m0 : MLay} {s' : St} (ha : Fr (fun b => b = K.bl) w w1) (h : OpOk K n s' m0 w1 w') : OpOk K n s' m0 w w' := h.then (fun _ h => .inl h) (ha.mono (fun _ _ h => .inl h))
theorem OpOk.to {m0 : MLay} {s' : St} (E : McE K) (h : OpOk K n s' m0 w w1) (hf : Fr No w1 w') : OpOk K n s' m0 w w' := by
 obtain ⟨fs, m, h1, h2, h3, h4⟩ := h
 exact ⟨fs, m, h1.keep E hf, h2, h3, h4.trans0 hf⟩
theorem McOk.to {m0 : MLay} {c : Nat} (E : McE K) (h : McOk K n c s fs f m0 w w1) (hf : Fr No w1 w') : McOk K n c s fs f m0 w w' := by
 obtain ⟨m, ks, k, h1, h2, h3, h4⟩ := h
 exact ⟨m, ks, k, h1.keep E hf, h2, h3, h4.trans0 hf⟩
theorem McS.ends {m0 : MLay} (h : McS K n s m w') (hs : s.status = 1) (c : Int) (hc : c ≠ 1) (hB : ∀ b ∈ mcB K m, b ∈ mcB K m0 ∨ w.heap.size ≤ b) (hf : Fr (K.own m0) w w') : OpOk K n (s.ends c) m0 w w' := by
 obtain ⟨st, fr, hp, ou, ba⟩ := s
 dsimp only at hs
 subst hs
 exact ⟨fr, m, h, fun e => absurd e hc, hB, hf⟩
theorem McT.ends (h : McT K n s fs f m ks k w') (c : Int) (hc : c ≠ 1) (hf : Fr No w w') : OpOk K n (s.ends c) m w w' := h.st.ends h.go c hc (fun _ h => .inl h) hf.of0
theorem McOk.ends {m0 : MLay} {c0 : Nat} (h : McOk K n c0 s fs f m0 w w') (c : Int) (hc : c ≠ 1) : OpOk K n (s.ends c) m0 w w' := by
 obtain ⟨m, ks, k, h1, _, h3, h4⟩ := h
 exact h1.st.ends h1.go c hc h3 h4
theorem McOk.goes {m0 : MLay} {c0 : Nat} (h : McOk K n c0 s fs f m0 w w') : OpOk K n (s.goes (fs ++ [f])) m0 w w' := by
 obtain ⟨m, ks, k, h1, _, h3, h4⟩ := h
 have hs := h1.st
 have hg := h1.go
 dsimp only at hg
 rw [hg] at hs
 exact ⟨fs ++ [f], m, hs, fun _ => rfl, h3, h4⟩
theorem McOk.mono {m0 : MLay} {c : Nat} {n' : Nat} (h : McOk K n c s fs f m0 w w') (hn : n ≤ n') : McOk K n' c s fs f m0 w w' := by
 obtain ⟨m, ks, k, h1, h2⟩ := h
 exact ⟨m, ks, k, ⟨h1.st.mono hn, h1.fr, h1.kc, h1.go⟩, h2⟩
theorem OpOk.mono {m0 : MLay} {s' : St} {n' : Nat} (h : OpOk K n s' m0 w w') (hn : n ≤ n') : OpOk K n' s' m0 w w' := by
 obtain ⟨fs, m, h1, h2⟩ := h
 exact ⟨fs, m, h1.mono hn, h2⟩
theorem McOk.out {m0 : MLay} {c : Nat} {a w2 : World} {X : Nat → Prop} (E : McE K) (ha : Fr No a w) (h : McOk K n c s fs f m0 w w') (hf : Fr X w' w2) (hX : ∀ b, X b → a.heap.size ≤ b ∧ b < w.heap.size) (hZ : ∀ b ∈ mcB K m0, b < a.heap.size) (h0 : K.w0.heap.size ≤ a.heap.size) : McOk K n c s fs f m0 a w2 := by
 obtain ⟨m, ks, k, h1, h2, h3, h4⟩ := h
 refine ⟨m, ks, k, h1.far E hf (fun b hb => ⟨by have := hX b hb; omega, fun hz => ?_⟩), h2, fun b hb => (h3 b hb).imp id (fun h => Nat.le_trans ha.size h), (ha.of0.same h4).trans hf (fun b hb hx => by have := hX b hx; omega)⟩
 have := hX b hb
 rcases h3 b hz with h | h
 ·have := hZ b h; omega
 ·omega
end
end Go.Proofs.YtbalicnnlfennaaGreat

namespace Go.Proofs.YtbalicnnlfennaaGreat
open Go.RowKit

set_option maxRecDepth 100000 in
set_option maxHeartbeats 2000000 in
theorem under_ok (l bl n : Nat) (p : Plan) (g : Int → Str → Option Int) (low top : Ref) (w : World) (h : Lodge w l bl n p g) (hs : low.name.size ≤ maxLen) :
  Calls Tryz.prog 91 #[.pointer (some ⟨l, 0, none⟩), .agg #[.int .i64 low.keeper, .string low.name], .agg #[.int .i64 top.keeper, .string top.name]] w (BoolFr (underK p low top) w) := by
 obtain ⟨wA, hwA⟩ : ∃ wA, wA = ((w.alloc (.cells #[.int .i64 low.keeper, .string low.name] 54)).alloc (.cells #[.int .i64 top.keeper, .string top.name] 54)) := ⟨_, rfl⟩
 have hfA : Fr No w wA := hwA ▸ frc
 have K1 := (hwA ▸ bxc : Bx wA (w.heap.size + 1) 54 #[.int .i64 top.keeper, .string top.name]).r2
 have HC := chain_ok l bl n p g low wA (h.keep hfA) hs
 have hU : underK p low top = (chainK p low).any (fun r => refIs r top) := rfl
 generalize underK p low top = V at *
 generalize chainK p low = xs at *
 obtain ⟨rk, rn⟩ := low
 obtain ⟨tk, tn⟩ := top
 replace hU := Lib.hid hU
 dsimp only at *
 clear h
 go_enter Tryz.func91, Tryz.ntmps91
 go_wp2_with fail
 rw [← hwA]
 replace hwA := Lib.hid hwA
 refine HC.mono ?_
 rintro e w1 ⟨v, rfl, hsl, hf1⟩
 obtain ⟨A, cap, rfl, _, hlen⟩ := hsl.form
 unfold maxLen at hlen
 clear HC
 go_wp2
 go_loopw [13] (fun i wr => ∃ j : Nat, j ≤ xs.length ∧ i = .int .i64 j ∧ Hid (∀ x ∈ xs.take j, refIs x ⟨tk, tn⟩ = false) ∧ Fr No w1 wr) (fun i _ => xs.length - (intOf i).toNat)
 case atStart => exact ⟨0, Nat.zero_le _, rfl, by simp [Hid], Fr.refl _ _⟩
 case round =>
  obtain ⟨j, hj, rfl, hn, hf⟩ := hrel
  have q : Fr No wA wr := hf1.trans0 hf
  by_cases hlt : j < xs.length
  ·obtain ⟨b, bf, rfl, _, c0, c1, z⟩ := (hsl.keep (R' := RefC) hf (fun _ h => h.elim) (fun _ _ _ h => h)).ref hlt
   have K2 := K1 wr q
   clear hsl
   by_cases hm : refIs xs[j] ⟨tk, tn⟩ = true
   ·have hV : V = true := by rw [hU.out, List.any_eq_true]; exact ⟨_, List.getElem_mem hlt, hm⟩
    rw [refIs_iff] at hm
    rw [hm] at c0 c1
    dsimp only at c0 c1
    clear hm hU hn
    go_wp2
    go_ret
    exact .mk hV.symm frc
   ·have hV : Hid (∀ x ∈ xs.take (j + 1), refIs x ⟨tk, tn⟩ = false) := by
     intro x hx
     rw [List.take_add_one, List.mem_append] at hx
     rcases hx with hx | hx
     ·exact hn.out x hx
     ·rw [List.getElem?_eq_getElem hlt] at hx
      simp only [Option.toList_some, List.mem_singleton] at hx
      rw [hx]; simpa using hm
    generalize hxj : xs[j] = x at *
    obtain ⟨xk, xn⟩ := x
    have hx : (xk == tk && xn.toList == tn.toList) = false := by
     have h9 : refIs ⟨xk, xn⟩ ⟨tk, tn⟩ = false := by simpa using hm
     unfold refIs at h9
     simpa using h9
    dsimp only at c0 c1
    clear hm hU hn
    go_wp2
    ·rename_i h1 h2
     rw [h1, h2] at hx
     simp at hx
    all_goals refine ⟨⟨j + 1, by omega, by go_num, hV, by exact frc⟩, ?_⟩
    all_goals simp [intOf]
    all_goals omega
  ·clear hsl
   have hV : V = false := by
    rw [hU.out, List.any_eq_false]
    intro x hx
    have := hn.out x (by rwa [List.take_of_length_le (by omega)])
    simpa using this
   clear hU hn
   go_wp2
   go_ret
   exact .mk hV.symm frc

set_option maxRecDepth 100000 in
set_option maxHeartbeats 2000000 in
theorem may_ok (l bl n : Nat) (p : Plan) (g : Int → Str → Option Int) (k : Int) (a b : Tag) (w : World) (h : Lodge w l bl n p g) (ha : a.name.size ≤ maxLen) (hb : b.name.size ≤ maxLen) :
  Calls Tryz.prog 140 #[.pointer (some ⟨l, 0, none⟩), .int .i64 k, .agg #[.int .i64 a.kind, .string a.name], .agg #[.int .i64 b.kind, .string b.name]] w (BoolFr (mayK p k a b) w) := by
 have HA := fun W (hW : Fr No w W) => find_ok l bl n p g k a.name W (h.keep hW) ha
 have HB := fun W (hW : Fr No w W) => find_ok l bl n p g k b.name W (h.keep hW) hb
 have HU := fun (h1 : (findK p k a.name).2 = 1) W (hW : Fr No w W) => under_ok l bl n p g (findK p k a.name).1 (findK p k b.name).1 W (h.keep hW) (by obtain ⟨k1, i1, _, e1, _⟩ := findK_here h.1 h1; rw [e1]; exact ha)
 obtain ⟨V, hV⟩ : ∃ V, V = mayK p k a b := ⟨_, rfl⟩
 rw [← hV]
 unfold mayK at hV
 unfold refV at HA HB
 generalize underK p (findK p k a.name).1 (findK p k b.name).1 = U at *
 generalize findK p k a.name = qa at *
 generalize findK p k b.name = qb at *
 obtain ⟨⟨ka, na⟩, ca⟩ := qa
 obtain ⟨⟨kb, nb⟩, cb⟩ := qb
 obtain ⟨ak, an⟩ := a
 obtain ⟨bk, bn⟩ := b
 dsimp only at *
 clear h
 by_cases h0 : bk = 0
 ·subst h0
  rw [if_pos rfl] at hV
  clear HA HB HU
  go_enter Tryz.func140, Tryz.ntmps140
  go_wp2
  go_ret
  exact .mk hV.symm frc
 rw [if_neg h0] at hV
 by_cases ht : tagEq ⟨ak, an⟩ ⟨bk, bn⟩ = true
 ·rw [if_pos ht] at hV
  rw [tagEq_iff] at ht
  cases ht
  clear HA HB HU
  go_enter Tryz.func140, Tryz.ntmps140
  go_wp2
  go_ret
  exact .mk hV.symm frc
 rw [if_neg ht] at hV
 have hx : ¬ (ak = bk ∧ an.toList = bn.toList) := fun hx => ht (by unfold tagEq; simp [hx.1, hx.2])
 clear ht
 by_cases h2 : bk = 2
 ·subst h2
  rw [if_neg (by simp)] at hV
  by_cases h3 : ak = 3
  ·subst h3
   rw [if_pos rfl] at hV
   clear HA HB HU hx
   go_enter Tryz.func140, Tryz.ntmps140
   go_wp2
   go_ret
   exact .mk hV.symm frc
  rw [if_neg h3] at hV
  by_cases h4 : ak = 2
  ·subst h4
   rw [if_neg (by simp)] at hV
   obtain ⟨wA, hwA⟩ : ∃ wA, wA = ((w.alloc (.cells #[.int .i64 2, .string an] 24)).alloc (.cells #[.int .i64 2, .string bn] 24)) := ⟨_, rfl⟩
   have hfA : Fr No w wA := hwA ▸ frc
   have K1 := (hwA ▸ bxc : Bx wA (w.heap.size + 1) 24 #[.int .i64 2, .string bn]).r2
   have hn : ¬ an.toList = bn.toList := fun h => hx ⟨rfl, h⟩
   clear hx h0
   have hcase : (ca = 1 ∧ cb = 1) ∨ (ca = 1 ∧ ¬ cb = 1) ∨ ¬ ca = 1 := by
    by_cases h1 : ca = 1 <;> by_cases h2 : cb = 1 <;> simp [h1, h2]
   replace hV := Lib.hid hV
   rcases hcase with ⟨rfl, rfl⟩ | ⟨rfl, hc2⟩ | hc1
   ·have hE : V = U := by rw [hV.out]; simp
    have HU' := HU rfl
    clear HU hV
    go_enter Tryz.func140, Tryz.ntmps140
    go_wp2_with fail
    rw [← hwA]
    replace hwA := Lib.hid hwA
    refine (HA _ hfA).mono ?_
    rintro e w1 ⟨rfl, hf1⟩
    have z1 := K1 w1 hf1
    have R1 := (Bx.new w1 54 #[.int .i64 ka, .string na])
    go_wp2_with fail
    refine (HB _ (by exact frc)).mono ?_
    rintro e w2 ⟨rfl, hf2⟩
    have R2 := R1.keep hf2
    obtain ⟨y0, y1⟩ := R2.c2
    have yl := R2.lt
    clear z1 R1
    go_wp2_with fail
    refine (HU' _ (by exact frc)).mono ?_
    rintro e w3 ⟨rfl, hf3⟩
    clear y0 y1 yl R2
    go_wp2
    go_ret
    exact .mk hE.symm (by exact frc)
   ·have hE : V = false := by rw [hV.out]; simp [hc2]
    clear HU hV
    go_enter Tryz.func140, Tryz.ntmps140
    go_wp2_with fail
    rw [← hwA]
    replace hwA := Lib.hid hwA
    refine (HA _ hfA).mono ?_
    rintro e w1 ⟨rfl, hf1⟩
    have z1 := K1 w1 hf1
    go_wp2_with fail
    refine (HB _ (by exact frc)).mono ?_
    rintro e w2 ⟨rfl, hf2⟩
    clear z1
    go_wp2
    go_ret
    exact .mk hE.symm (by exact frc)
   ·have hE : V = false := by rw [hV.out]; simp [hc1]
    clear HU hV
    go_enter Tryz.func140, Tryz.ntmps140
    go_wp2_with fail
    rw [← hwA]
    replace hwA := Lib.hid hwA
    refine (HA _ hfA).mono ?_
    rintro e w1 ⟨rfl, hf1⟩
    have z1 := K1 w1 hf1
    go_wp2_with fail
    refine (HB _ (by exact frc)).mono ?_
    rintro e w2 ⟨rfl, hf2⟩
    clear z1
    go_wp2
    go_ret
    exact .mk hE.symm (by exact frc)
  ·rw [if_pos h4] at hV
   clear HA HB HU hx
   go_enter Tryz.func140, Tryz.ntmps140
   go_wp2
   go_ret
   exact .mk hV.symm frc
 ·rw [if_pos h2] at hV
  clear HA HB HU
  go_enter Tryz.func140, Tryz.ntmps140
  go_wp2
  all_goals first
   | (go_ret; exact .mk hV.symm frc)
   | (exact absurd ⟨by assumption, by assumption⟩ hx)
end Go.Proofs.YtbalicnnlfennaaGreat
