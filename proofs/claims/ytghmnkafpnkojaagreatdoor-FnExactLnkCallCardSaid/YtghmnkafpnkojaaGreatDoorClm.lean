/- The program's own climb from a class to those above it. -/
import Derived.Test.YtghmnkafpnkojaaGreatDoorLdg5
import Derived.Test.YtghmnkafpnkojaaGreatDoorLod
import Derived.Test.YtghmnkafpnkojaaGreatDoorRfn
namespace Go.Proofs.YtghmnkafpnkojaaGreatDoor
open Go.RowKit Go.Shelf
attribute [local go_sem] Oper.semAt_some

def refCells (r : Ref) : List Value := [.int .i64 r.keeper, .string r.name]
/-- What the loop over the classes above has: the boxes of the two results (c1, c2), of the keepers (cl), of the iterator's class (cr), of the chain (cc). -/
def ClT (w0 : World) (c1 c2 cc cl cr base l : Nat) : (List Ref × Ref × Bool) → World → Prop := fun s W =>
  s.2.2 = true ∧ s.1.length ≤ 6 ∧ (∀ x ∈ s.1, x.name.size ≤ maxLen) ∧ Fr No w0 W ∧ Bx W c1 75 #[.slice none 0 0] ∧ Bx W c2 4 #[.bool false] ∧
  Bx W cl 51 #[.pointer (some ⟨l, 0, none⟩)] ∧ Bx W cr 27 #[.int .i64 s.2.1.keeper, .string s.2.1.name] ∧
  ∃ v, Bx W cc 75 #[v] ∧ W.ownsRow base 27 2 v s.1.length (s.1.flatMap refCells)
def ClX (p : Plan) (r0 : Ref) (w0 : World) (c1 c2 : Nat) : World → Prop := fun W => chainOf p r0 = none ∧ Fr No w0 W ∧ Bx W c1 75 #[.slice none 0 0] ∧ Bx W c2 4 #[.bool false]
def ClO (p : Plan) (r0 : Ref) : (List Ref × Ref × Bool) → (Ref × Bool) → Prop := fun s x => (x.2 = true → Up p r0 s.1 x.1 ∧ x.1.name.size ≤ maxLen) ∧ (x.2 = false → chainOf p r0 = none)
def ClN : (List Ref × Ref × Bool) → (Ref × Bool) → (List Ref × Ref × Bool) := fun s x => (s.1 ++ [x.1], s.2.1, x.2 && decide (s.1.length < 6))
def ClA (x : Ref × Bool) : Array Value := #[.agg #[.int .i64 x.1.keeper, .string x.1.name], .bool x.2]
def chainLen (cc : Nat) (w : World) : Nat := sliceLen ((w.cell? ⟨cc, 0, none⟩).getD undef)
theorem ownsRow_len {w : World} {base sz n : Nat} {e : TypeId} {v : Value} {xs : List Value} (h : w.ownsRow base e sz v n xs) : sliceLen v = n := by
  obtain ⟨_, ⟨rfl, rfl⟩ | ⟨g, cap, cur, rfl, _⟩⟩ := h <;> rfl
theorem ClT.len {w0 W : World} {c1 c2 cc cl cr base l : Nat} {s : List Ref × Ref × Bool} (h : ClT w0 c1 c2 cc cl cr base l s W) : chainLen cc W = s.1.length := by
  obtain ⟨_, _, _, _, _, _, _, _, v, hv, hr⟩ := h
  unfold chainLen
  rw [hv.c1]
  exact ownsRow_len hr

theorem cls_super (w : World) (a b c d : Value) : (Instr.field 114 (.agg #[a, b, c, d]) 1).run Tryz.prog w = .ok b w := by
  simp [Instr.field, asAgg, go_sem]
theorem ownsRow_keepX {w w' : World} {X : Nat → Prop} {base sz n : Nat} {e : TypeId} {v : Value} {xs : List Value} (h : w.ownsRow base e sz v n xs) (hf : Fr X w w') (hX : ∀ b, X b → b < base) : w'.ownsRow base e sz v n xs := by
  obtain ⟨hl, h | ⟨g, cap, cur, rfl, hg, hb, h1, h2, h3, h4⟩⟩ := h
  · exact ⟨hl, .inl h⟩
  · have hb' : Bx w g e cur := hb
    exact ⟨hl, .inr ⟨g, cap, cur, rfl, hg, hb'.keepX hf (fun hx => by have := hX g hx; omega), h1, h2, h3, h4⟩⟩
theorem ClT.keepX {X : Nat → Prop} {w0 W W' : World} {c1 c2 cc cl cr base l : Nat} {s : List Ref × Ref × Bool} (h : ClT w0 c1 c2 cc cl cr base l s W) (hf : Fr X W W')
    (hX : ∀ b, X b → w0.heap.size ≤ b ∧ b ≠ c1 ∧ b ≠ c2 ∧ b ≠ cc ∧ b ≠ cl ∧ b ≠ cr ∧ b < base) : ClT w0 c1 c2 cc cl cr base l s W' := by
  obtain ⟨h1, h2, h3, h4, h5, h6, h7, h8, v, h9, h10⟩ := h
  exact ⟨h1, h2, h3, h4.trans hf (fun b hb hx => by have := hX b hx; omega), h5.keepX hf (fun hx => (hX _ hx).2.1 rfl), h6.keepX hf (fun hx => (hX _ hx).2.2.1 rfl), h7.keepX hf (fun hx => (hX _ hx).2.2.2.2.1 rfl), h8.keepX hf (fun hx => (hX _ hx).2.2.2.2.2.1 rfl),
    v, h9.keepX hf (fun hx => (hX _ hx).2.2.2.1 rfl), ownsRow_keepX h10 hf (fun b hx => (hX b hx).2.2.2.2.2.2)⟩
theorem ClT.keep {w0 W W' : World} {c1 c2 cc cl cr base l : Nat} {s : List Ref × Ref × Bool} (h : ClT w0 c1 c2 cc cl cr base l s W) (hf : Fr No W W') : ClT w0 c1 c2 cc cl cr base l s W' := h.keepX hf (fun _ h => h.elim)
theorem ClT.turn {w0 W : World} {c1 c2 cc cl cr base l : Nat} {pre : List Ref} {r r' : Ref} {f : Bool} (h : ClT w0 c1 c2 cc cl cr base l (pre, r, f) W) (d1 : cr ≠ c1) (d2 : cr ≠ c2) (d3 : cr ≠ cc) (d4 : cr ≠ cl) (d5 : cr < base) (d6 : w0.heap.size ≤ cr) :
    ClT w0 c1 c2 cc cl cr base l (pre, r', true) ((W.setCell ⟨cr, 0, none⟩ (.int .i64 r'.keeper)).setCell ⟨cr, 1, none⟩ (.string r'.name)) := by
  obtain ⟨_, h2, h3, h4, h5, h6, h7, h8, v, h9, h10⟩ := h
  have hf : Fr (fun b => b = cr) W ((W.setCell ⟨cr, 0, none⟩ (.int .i64 r'.keeper)).setCell ⟨cr, 1, none⟩ (.string r'.name)) := Fr.setCellX (X := fun b => b = cr) (p := ⟨cr, 1, none⟩) (Fr.setCellX (X := fun b => b = cr) (p := ⟨cr, 0, none⟩) (Fr.refl _ W) (by rfl) _) (by rfl) _
  exact ⟨rfl, h2, h3, h4.trans hf (fun b hb hx => by omega), h5.keepX hf (fun hx => d1 hx.symm), h6.keepX hf (fun hx => d2 hx.symm), h7.keepX hf (fun hx => d4 hx.symm), (h8.set_ 0 _).set_ 1 _, v, h9.keepX hf (fun hx => d3 hx.symm), ownsRow_keepX h10 hf (fun b hx => by rw [hx]; exact d5)⟩

set_option maxRecDepth 100000 in
set_option maxHeartbeats 8000000 in
theorem above1_ok (w0 : World) (l bl nn : Nat) (p : Plan) (g : Int → Str → Option Int) (hL : Lodge w0 l bl nn p g) (r0 : Ref) (k i : Nat) (hh : Here p r0 k i) (hr0 : r0.name.size ≤ maxLen)
    (c1 c2 cc cl cr base L n : Nat) (d1 : cr ≠ c1) (d2 : cr ≠ c2) (d3 : cr ≠ cc) (d4 : cr ≠ cl) (d5 : cr < base) (d6 : w0.heap.size ≤ cr)
    (Z Zd : World → Prop) (hZ : ∀ W W', Z W → Fr (fun b => b = cr) W W' → Z W') (_hZd : ∀ W W', Zd W → Fr (fun b => b = cr) W W' → Zd W')
    (hY : ∀ s x W, ClT w0 c1 c2 cc cl cr base l s W → Z W → ClO p r0 s x → YieldAt Fence.wide n Tryz.prog L (ClA x) W (fun e W' => (e = .returned (.bool true) ∧ ClT w0 c1 c2 cc cl cr base l (ClN s x) W' ∧ Z W') ∨ (e = .returned (.bool false) ∧ ClX p r0 w0 c1 c2 W' ∧ Zd W')))
    (W1 : World) (h1 : ClT w0 c1 c2 cc cl cr base l ([], r0, true) W1) (hz : Z W1) :
    CallsIn Fence.wide (n + 1) Tryz.prog 122 #[.func (.yield L) #[] #[], .pointer (some ⟨cr, 0, none⟩), .pointer (some ⟨cl, 0, none⟩)] W1
      (fun e W' => (∃ v, e = .returned v) ∧ ((∃ s, chainOf p r0 = some s.1 ∧ ClT w0 c1 c2 cc cl cr base l s W' ∧ Z W') ∨ (ClX p r0 w0 c1 c2 W' ∧ Zd W'))) := by
  refine callsIn_of_wp Tryz.func122 rfl trivial ?_ rfl
  simp only [Tryz.ntmps122, List.size_toArray, List.length_cons, List.length_nil, Nat.reduceAdd, Nat.reduceSub, Array.replicate_succ, Array.replicate_zero, List.push_toArray, List.append_toArray, List.nil_append, List.cons_append]
  gi_wp2
  gi_loopw [4] (fun u4 wr => ∃ (pre : List Ref) (q : Ref) (k i : Nat), ClT w0 c1 c2 cc cl cr base l (pre, q, true) wr ∧ Z wr ∧ Up p r0 pre q ∧ Here p q k i ∧ q.name.size ≤ maxLen) (fun _ wr => 7 - chainLen cc wr)
  case atStart => exact ⟨[], r0, k, i, h1, hz, Up.start p r0, hh, hr0⟩
  case round =>
    clear h1 hz hh hr0
    obtain ⟨pre, q, k, i, hT, hz, hU, hh, hq⟩ := hrel
    obtain ⟨fn, tmps, assign, body, hy, hR⟩ := hY (pre, q, true) (q, true) wr hT hz ⟨fun _ => ⟨hU, hq⟩, fun h => by cases h⟩
    have hlen0 := hT.len
    obtain ⟨_, _, _, hfr0, _, _, hbl0, hbr0, _⟩ := hT
    dsimp only [ClA] at hy hbr0 hlen0
    obtain ⟨x0, x1⟩ := hbr0.c2
    have y0 := hbl0.c1
    have hl0 := hbl0.lt
    have hl1 := hbr0.lt
    replace hlen0 := Lib.hid hlen0
    clear hbl0 hbr0 hfr0
    gi_wp2
    refine hR.mono ?_
    rintro e W3 (⟨rfl, hT3, hz3⟩ | ⟨rfl, hX3, hzd3⟩)
    · clear x0 x1 y0 hl0 hl1 hy hR
      have hT3' := hT3
      obtain ⟨hf3, hl3, hsz3, hfr3, hb1, hb2, hbl, hbr, v, hbc, hrow⟩ := hT3'
      dsimp only [ClN] at hf3 hl3 hsz3 hbr hrow
      have hlt6 : pre.length < 6 := by simpa using hf3
      obtain ⟨qk, qn⟩ := q
      have hqk : qk = (k : Int) := hh.1
      subst hqk
      have hcl := hh.cls
      have hL3 := hL.keep hfr3
      have HC := fun W (h : Fr No W3 W) => class_ok l bl nn p g k qn i W (hL3.keep h) hh.2.1 hq (kprAt p k) rfl hh.2.2.1 hh.2.2.2
      rw [← hcl] at HC
      have h3 := lodB_len hL.1
      have hkl := hh.2.1
      obtain ⟨x0, x1⟩ := hbr.c2
      have y0 := hbl.c1
      have hl0 := hbl.lt
      have hl1 := hbr.lt
      have HRs := fun s W (h : Fr No W3 W) (hs : s.size ≤ maxLen) => resolve_ok l bl nn p g k s W (hL3.keep h) hs
      have hwk : ∀ s, whoseK p k s = whose p k s := fun s => by
        unfold whoseK hasK
        rw [decide_eq_true (show (0 : Int) ≤ k by omega), decide_eq_true (show (k : Int) < p.keepers.length by omega)]
        rfl
      clear hcl
      generalize hc : clsAt p ⟨k, qn⟩ = c at *
      have hc := Lib.hid hc
      replace hwk := Lib.hid hwk
      replace hf3 := Lib.hid hf3
      have hfd := cls_super
      cases hsup : c.super.toList.isEmpty
      · have HLost : (whose p k c.super).2 ≠ 1 → chainOf p r0 = none := fun h => hU.lost hlt6 (by rw [hc.out]; exact hsup) (by rw [hc.out]; exact h)
        have HStep : (whose p k c.super).2 = 1 → Up p r0 (pre ++ [⟨k, qn⟩]) (whose p k c.super).1 := fun h => by
          have := hU.step hlt6 (by rw [hc.out]; exact hsup) (by rw [hc.out]; exact h)
          rwa [hc.out] at this
        have HHere : (whose p k c.super).2 = 1 → ∃ kc i : Nat, (whose p k c.super).1 = ⟨kc, c.super⟩ ∧ Here p ⟨kc, c.super⟩ kc i := whose_here hL.1 4 (k : Int) (by omega) (by omega)
        have HR := fun W h hs => HRs c.super W h hs
        unfold refV at HR
        rw [hwk.out] at HR
        clear HRs hwk
        have k1 : c.super.toList ≠ [] := by intro h; rw [h] at hsup; simp at hsup
        generalize whose p k c.super = qq at *
        obtain ⟨⟨kc, nm⟩, code⟩ := qq
        dsimp only at HLost HStep HHere HR
        by_cases hcd : code = 1
        · subst hcd
          obtain ⟨kc, i', hq', hh'⟩ := HHere rfl
          simp only [Ref.mk.injEq] at hq'
          obtain ⟨rfl, rfl⟩ := hq'
          have HU := HStep rfl
          replace HU := Lib.hid HU
          replace hh' := Lib.hid hh'
          clear HLost HStep
          gi_wp2_with (first
            | (refine ⟨trivial, ?_⟩; gi_at_call 48; refine (callsIn_wide.2 (HC _ (Fr.refl _ _))).mono ?_; rintro e w4 ⟨Af, cf, Am, cm, rfl, hcls, hf4⟩; obtain ⟨_, _, _, _, hzs, _, _⟩ := hcls; have z0 := hf4.keep0 x0; have z1 := hf4.keep0 x1; have z2 := hf4.keep0 y0; have hs4 := hf4.size)
            | (refine ⟨trivial, ?_⟩; gi_at_call 88; refine (callsIn_wide.2 (HR _ hf4 hzs)).mono ?_; rintro e w5 ⟨rfl, hf5⟩; have t0 := hf5.keep0 z0; have t1 := hf5.keep0 z1; have t2 := hf5.keep0 z2; have hT5 := hT3.keep (hf4.trans0 hf5); have fr := fun j => (hT5.2.2.2.2.2.2.2.1).frozen j; have hs5 := (hT5.2.2.2.2.2.2.2.1).lt; have hs6 := hf5.size))
          have hT7 := (hT5.turn (r' := ⟨(kc : Int), c.super⟩) d1 d2 d3 d4 d5 d6).keep ((Fr.refl No _).alloc (.cells #[.int .i64 kc, .string c.super] 27))
          have hl7 := hT7.len
          have hf7 : Fr (fun b => b = cr) W3 (((w5.setCell ⟨cr, 0, none⟩ (.int .i64 kc)).setCell ⟨cr, 1, none⟩ (.string c.super)).alloc (.cells #[.int .i64 kc, .string c.super] 27)) := (Fr.setCellX (X := fun b => b = cr) (p := ⟨cr, 1, none⟩) (Fr.setCellX (X := fun b => b = cr) (p := ⟨cr, 0, none⟩) ((hf4.trans0 hf5).of0) (by rfl) _) (by rfl) _).alloc _
          have hz7 := hZ _ _ hz3 hf7
          clear hT5 hf7 hz3 hT3
          go_roundw
          case rel => exact ⟨pre ++ [⟨k, qn⟩], ⟨kc, c.super⟩, kc, i', hT7, hz7, HU.out, hh'.out, hzs⟩
          case measure =>
            dsimp only at hl7
            rw [hl7, hlen0.out]
            simp
            omega
        · have HL := HLost hcd
          have hcd' : (code != 1) = true := by simpa using hcd
          replace HL := Lib.hid HL
          clear HLost HStep HHere hcd
          gi_wp2_with (first
            | (refine ⟨trivial, ?_⟩; gi_at_call 48; refine (callsIn_wide.2 (HC _ (Fr.refl _ _))).mono ?_; rintro e w4 ⟨Af, cf, Am, cm, rfl, hcls, hf4⟩; obtain ⟨_, _, _, _, hzs, _, _⟩ := hcls; have z0 := hf4.keep0 x0; have z1 := hf4.keep0 x1; have z2 := hf4.keep0 y0; have hs4 := hf4.size)
            | (refine ⟨trivial, ?_⟩; gi_at_call 88; refine (callsIn_wide.2 (HR _ hf4 hzs)).mono ?_; rintro e w5 ⟨rfl, hf5⟩; have t0 := hf5.keep0 z0; have t1 := hf5.keep0 z1; have t2 := hf5.keep0 z2; obtain ⟨fn2, tmps2, assign2, body2, hy2, hR2⟩ := hY _ (noRef, false) (w5.alloc (.cells #[.int .i64 kc, .string nm] 27)) (hT3.keep ((hf4.trans0 hf5).alloc _)) (hZ _ _ hz3 (((hf4.trans0 hf5).alloc _).of0)) ⟨(fun h => by cases h), fun _ => HL.out⟩; dsimp only [ClA, noRef] at hy2))
          refine hR2.mono ?_
          rintro e W6 (⟨rfl, hT6, _⟩ | ⟨rfl, hX6, hzd6⟩)
          · exfalso
            have := hT6.1
            simp [ClN] at this
          · clear hy2 hR2 t0 t1 t2 z0 z1 z2
            gi_wp2
            refine bodyPost_ret (results_none rfl _ _ _) rfl ?_
            exact ⟨⟨_, rfl⟩, .inr ⟨hX6, hzd6⟩⟩
      · have HF : Hid (chainOf p r0 = some (pre ++ [⟨k, qn⟩])) := hU.top hlt6 (by rw [hc.out]; exact hsup)
        have k1 : c.super.toList = [] := by simpa using hsup
        gi_wp2_with (refine ⟨trivial, ?_⟩; gi_at_call 48; refine (callsIn_wide.2 (HC _ (Fr.refl _ _))).mono ?_; rintro e w4 ⟨Af, cf, Am, cm, rfl, hcls, hf4⟩)
        refine bodyPost_ret (results_none rfl _ _ _) rfl ?_
        exact ⟨⟨_, rfl⟩, .inl ⟨ClN (pre, ⟨k, qn⟩, true) (⟨k, qn⟩, true), HF.out, hT3.keep hf4, hZ _ _ hz3 hf4.of0⟩⟩
    · clear x0 x1 y0 hl0 hl1 hy hR
      gi_wp2
      go_end0
      exact ⟨⟨_, rfl⟩, .inr ⟨hX3, hzd3⟩⟩
end Go.Proofs.YtghmnkafpnkojaaGreatDoor
