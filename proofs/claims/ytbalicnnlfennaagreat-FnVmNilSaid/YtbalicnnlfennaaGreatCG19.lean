/- The program's link of a method: the code of an error, the class in which a member is looked for, a method that is there. -/
import Derived.Test.YtbalicnnlfennaaGreatCG18
namespace Go.Proofs.YtbalicnnlfennaaGreat
open Go.RowKit

def ErrV (c : Int) (v : Value) (w : World) : Prop := (c = 1 ∧ v = .nilIface) ∨ (c ≠ 1 ∧ ∃ b, v = .iface 145 (.pointer (some ⟨b, 0, none⟩)) ∧ Bx w b 147 #[.int .i64 c])
theorem ErrV.keep {c : Int} {v : Value} {w w' : World} (h : ErrV c v w) (hf : Fr No w w') : ErrV c v w' := by
 rcases h with h | ⟨h, b, h1, h2⟩
 ·exact .inl h
 ·exact .inr ⟨h, b, h1, h2.keep hf⟩
theorem ErrV.mk {c : Int} {b : Nat} {w : World} (hc : c ≠ 1) (h : Bx w b 147 #[.int .i64 c]) : ErrV c (.iface 145 (.pointer (some ⟨b, 0, none⟩))) w := .inr ⟨hc, b, rfl, h⟩
set_option maxRecDepth 100000 in
set_option maxHeartbeats 4000000 in
theorem method_val {l bl n : Nat} {p : Plan} {g : Int → Str → Option Int} {k i a : Nat} {s : Str} {w : World} (h : Lodge w l bl n p g) (hh : Here p ⟨k, s⟩ k i) (hs : s.size ≤ maxLen) (ha : a < (clsAt p ⟨k, s⟩).methods.length) :
  ∃ cs : List Value, MthC (fun b => b = bl) w cs (clsAt p ⟨k, s⟩).methods[a] ∧ ∀ W, Fr No w W → Calls Tryz.prog 36 #[.pointer (some ⟨l, 0, none⟩), .agg #[.int .i64 k, .string s, .int .i64 a]] W (Gives (.agg cs.toArray) W) := by
 obtain ⟨Af, cf, Am, cm, hR, HC⟩ := here_class h hh hs
 generalize clsAt p ⟨k, s⟩ = c at *
 obtain ⟨vf, vm, he, _, _, _, hm⟩ := hR
 simp only [List.cons.injEq, true_and, and_true] at he
 obtain ⟨rfl, rfl⟩ := he
 have hml := hm.at_.2.2.1
 unfold maxLen at hml
 obtain ⟨bm, om, Aa, ca, Ac, cc, Ax, cx, rfl, _, d0, d1, d2, d3, d4, d5, d6, d7, hr1, hr2, hr3, hr4, hr5, _, _, _, _, _, _⟩ := hm.mth ha
 refine ⟨[.string c.methods[a].name, .slice Aa c.methods[a].args.length ca, .int .i64 c.methods[a].ret.kind, .string c.methods[a].ret.name, .int .i64 c.methods[a].locals, .int .i64 c.methods[a].stack, .slice Ac c.methods[a].code.length cc, .slice Ax c.methods[a].maps.length cx], ⟨_, _, _, rfl, hr1, hr2, hr3, hr4, hr5⟩, fun w0 hW => ?_⟩
 clear hm hr1 hr2 hr3 hr4 hr5
 generalize c.methods[a] = m at *
 replace d0 := hW.keep0 d0
 replace d1 := hW.keep0 d1
 replace d2 := hW.keep0 d2
 replace d3 := hW.keep0 d3
 replace d4 := hW.keep0 d4
 replace d5 := hW.keep0 d5
 replace d6 := hW.keep0 d6
 replace d7 := hW.keep0 d7
 replace HC := fun W' (h : Fr No w0 W') => HC W' (hW.trans0 h)
 have hk0 : (0 : Int) ≤ (a : Int) := by omega
 have hka : (a : Int) < (c.methods.length : Int) := by omega
 clear hW h hh
 obtain ⟨wA, hwA⟩ : ∃ wA, wA = ((w0.alloc (.cells #[.int .i64 k, .string s, .int .i64 a] 84)).alloc (.cells #[.string ⟨#[]⟩, .slice none 0 0, .int .i64 0, .string ⟨#[]⟩, .int .i64 0, .int .i64 0, .slice none 0 0, .slice none 0 0] 67)) := ⟨_, rfl⟩
 have hfA : Fr No w0 wA := hwA ▸ frc
 have B0 : Bx wA w0.heap.size 84 #[.int .i64 k, .string s, .int .i64 a] := hwA ▸ bxc
 have B1 : Bx wA (w0.heap.size + 1) 67 #[.string ⟨#[]⟩, .slice none 0 0, .int .i64 0, .string ⟨#[]⟩, .int .i64 0, .int .i64 0, .slice none 0 0, .slice none 0 0] := hwA ▸ bxc
 replace d0 := cr (hfA.keep0 d0)
 replace d1 := cr (hfA.keep0 d1)
 replace d2 := cr (hfA.keep0 d2)
 replace d3 := cr (hfA.keep0 d3)
 replace d4 := cr (hfA.keep0 d4)
 replace d5 := cr (hfA.keep0 d5)
 replace d6 := cr (hfA.keep0 d6)
 replace d7 := cr (hfA.keep0 d7)
 have K0 := B0.r3
 go_enter Tryz.func36, Tryz.ntmps36
 go_wp2_with fail
 rw [← hwA]
 clear hwA
 refine wp_region_monL 9 [isV (.pointer (some ⟨l, 0, none⟩)), isV (.pointer (some ⟨w0.heap.size, 0, none⟩)), isV (.agg #[.int .i64 k, .string s]), isV (.agg #[.string c.name, .string c.super, .slice Af c.fields.length cf, .slice (some ⟨bm, om, none⟩) c.methods.length cm]), isV (.slice (some ⟨bm, om, none⟩) c.methods.length cm), isV (.pointer (some ⟨w0.heap.size, 2, none⟩)), isV (.int .i64 a), isV (.pointer (some ⟨bm, om + a * 8, none⟩)), isV (.agg #[.string m.name, .slice Aa m.args.length ca, .int .i64 m.ret.kind, .string m.ret.name, .int .i64 m.locals, .int .i64 m.stack, .slice Ac m.code.length cc, .slice Ax m.maps.length cx])] [false, false, false, false, false, false, false, false, false] [false, false, false, false, false, false, false, false, false] ?_ (by kernel_rfl) (by kernel_rfl) ?_ ?_ ?_ ?_
 ·intro x hx hb v W h
  simp only [List.zip_cons_cons, List.zip_nil_left, List.mem_cons, List.not_mem_nil, or_false] at hx
  rcases hx with rfl | rfl | rfl | rfl | rfl | rfl | rfl | rfl | rfl <;> first | (cases hb; done) | exact atB_bk h
 ·intro o ho d hd; simp only [List.take_succ_cons, List.take_zero, List.mem_cons, List.not_mem_nil, or_false] at ho; rcases ho with rfl | rfl | rfl | rfl | rfl | rfl | rfl | rfl | rfl <;> (cases hd; simp)
 ·intro x hx
  simp only [List.mem_cons, List.not_mem_nil, or_false] at hx
  rcases hx with rfl | rfl | rfl | rfl | rfl | rfl | rfl | rfl | rfl
  ·exact isV_mono _
  ·exact isV_mono _
  ·exact isV_mono _
  ·exact isV_mono _
  ·exact isV_mono _
  ·exact isV_mono _
  ·exact isV_mono _
  ·exact isV_mono _
  ·exact isV_mono _
 ·intro k o ho a' W hW hoff hdep
  have hbs := hW.size
  have H0 := hoff 0 (by simp)
  have H3 := hoff 3 (by simp)
  simp only [Act.eval] at H0 H3
  simp only [List.take_succ_cons, List.take_zero] at ho hdep
  rcases k with _ | _ | _ | _ | _ | _ | _ | _ | _ | k
  all_goals (first | (simp at ho; done) | skip)
  all_goals simp only [List.getElem?_cons_zero, List.getElem?_cons_succ, Option.some.injEq] at ho
  all_goals subst ho
  ·refine ⟨fun h => absurd h (by decide), fun _ => ?_⟩
   unfold opGives
   simp [execOp, Act.eval, H0, go_sem, givesUpon]
   exact ⟨Fr.refl _ _, rfl⟩
  ·refine ⟨fun h => absurd h (by decide), fun _ => ?_⟩
   unfold opGives
   simp [execOp, Act.eval, H3, go_sem, givesUpon]
   exact ⟨Fr.refl _ _, rfl⟩
  ·have D6 : a'.eval (.tmp 6) = .pointer (some ⟨w0.heap.size, 0, none⟩) := hdep ⟨1, .data⟩ (by simp) rfl _ 6 rfl rfl
   simp only [Act.eval] at D6
   refine ⟨fun h => absurd h (by decide), fun _ => ?_⟩
   unfold opGives
   simp [execOp, Act.eval, go_sem, givesUpon, *]
   exact ⟨Fr.refl _ _, rfl⟩
  ·have D5 : a'.eval (.tmp 5) = .pointer (some ⟨l, 0, none⟩) := hdep ⟨0, .data⟩ (by simp) rfl _ 5 rfl rfl
   have D7 : a'.eval (.tmp 7) = .agg #[.int .i64 k, .string s] := hdep ⟨2, .data⟩ (by simp) rfl _ 7 rfl rfl
   simp only [Act.eval] at D5 D7
   refine ⟨fun h => absurd h (by decide), fun _ => ?_⟩
   unfold opGives
   simp [Act.eval, D5, D7, go_sem, givesUpon]
   exact (HC _ (hfA.trans0 hW)).mono fun e w'' h => ⟨_, h.1, h.2, rfl⟩
  ·have D8 : a'.eval (.tmp 8) = .agg #[.string c.name, .string c.super, .slice Af c.fields.length cf, .slice (some ⟨bm, om, none⟩) c.methods.length cm] := hdep ⟨3, .data⟩ (by simp) rfl _ 8 rfl rfl
   simp only [Act.eval] at D8
   refine ⟨fun h => absurd h (by decide), fun _ => ?_⟩
   unfold opGives
   simp [execOp, Act.eval, D8, go_sem, givesUpon]
   exact ⟨Fr.refl _ _, rfl⟩
  ·refine ⟨fun h => absurd h (by decide), fun _ => ?_⟩
   unfold opGives
   simp [execOp, Act.eval, H3, go_sem, givesUpon]
   exact ⟨Fr.refl _ _, rfl⟩
  ·have D10 : a'.eval (.tmp 10) = .pointer (some ⟨w0.heap.size, 2, none⟩) := hdep ⟨5, .data⟩ (by simp) rfl _ 10 rfl rfl
   simp only [Act.eval] at D10
   refine ⟨fun h => absurd h (by decide), fun _ => ?_⟩
   unfold opGives
   simp [execOp, Act.eval, go_sem, givesUpon, *]
   exact ⟨Fr.refl _ _, rfl⟩
  ·have D9 : a'.eval (.tmp 9) = .slice (some ⟨bm, om, none⟩) c.methods.length cm := hdep ⟨4, .data⟩ (by simp) rfl _ 9 rfl rfl
   have D11 : a'.eval (.tmp 11) = .int .i64 a := hdep ⟨6, .data⟩ (by simp) rfl _ 11 rfl rfl
   simp only [Act.eval] at D9 D11
   refine ⟨fun h => absurd h (by decide), fun _ => ?_⟩
   unfold opGives
   simp [execOp, Act.eval, go_sem, givesUpon, *]
   exact ⟨Fr.refl _ _, rfl⟩
  ·have D12 : a'.eval (.tmp 12) = .pointer (some ⟨bm, om + a * 8, none⟩) := hdep ⟨7, .data⟩ (by simp) rfl _ 12 rfl rfl
   simp only [Act.eval] at D12
   refine ⟨fun h => absurd h (by decide), fun _ => ?_⟩
   unfold opGives
   simp [execOp, Act.eval, go_sem, givesUpon, *]
   exact ⟨Fr.refl _ _, rfl⟩
 intro vs WR hWR hv hne
 have e0 : vs 0 = _ := hv 0 (by omega)
 have e1 : vs 1 = _ := hv 1 (by omega)
 have e2 : vs 2 = _ := hv 2 (by omega)
 have e3 : vs 3 = _ := hv 3 (by omega)
 have e4 : vs 4 = _ := hv 4 (by omega)
 have e5 : vs 5 = _ := hv 5 (by omega)
 have e6 : vs 6 = _ := hv 6 (by omega)
 have e7 : vs 7 = _ := hv 7 (by omega)
 have e8 : vs 8 = _ := hv 8 (by omega)
 simp only [List.take_succ_cons, List.take_zero, List.drop_succ_cons, List.drop_zero, putsL, if_true, Nat.zero_add, Nat.reduceAdd, e0, e1, e2, e3, e4, e5, e6, e7, e8]
 simp only [Act.put, List.setIfInBounds_toArray, List.set_cons_zero, List.set_cons_succ]
 clear e0 e1 e2 e3 e4 e5 e6 e7 e8 hv
 have q1 : Fr No w0 WR := hfA.trans0 hWR
 have B1' := B1.keep hWR
 obtain ⟨z0, z1, z2, z3, z4, z5, z6, z7⟩ := B1'.c8
 have zf := fun j => B1'.frozen j
 have zl := B1'.lt
 go_wp2
 refine bodyPost_ret (v := .agg #[.string m.name, .slice Aa m.args.length ca, .int .i64 m.ret.kind, .string m.ret.name, .int .i64 m.locals, .int .i64 m.stack, .slice Ac m.code.length cc, .slice Ax m.maps.length cx]) (by simp [results, Tryz.results36, go_sem, *]) rfl ?_
 exact .mk1 rfl frc

def classB (p : Plan) (k : Int) (s : Str) : Ref × Int :=
 if (findK p k s).2 = 1 then (if canB p (findK p k s).1 then ((findK p k s).1, 1) else (noRef, 4)) else (noRef, 2)
def linkB (p : Plan) (k : Int) (s m : Str) : Ref × Int := if namB m then classB p k s else (noRef, 2)
theorem classB_no {p : Plan} {k : Int} {s : Str} (h : findK p k s = (noRef, 2)) : classB p k s = (noRef, 2) := by
 unfold classB; rw [h]; rfl
def LinkPost (q : Ref × Int) (p : Plan) (l bl n : Nat) (w : World) (e : Ending) (w' : World) : Prop :=
 ∃ ev, e = .returned (.tuple #[.agg #[.int .i64 q.1.keeper, .string q.1.name], ev]) ∧ ErrV q.2 ev w' ∧ Fr (fun b => b = bl) w w' ∧ Lg w' l bl (n + 1) p
theorem LinkPost.mk {q : Ref × Int} {p : Plan} {l bl n : Nat} {w w' : World} {v ev : Value} {r : Ref} {c : Int} (hq : q = (r, c)) (hv : v = .tuple #[.agg #[.int .i64 r.keeper, .string r.name], ev]) (he : ErrV c ev w') (hf : Fr (fun b => b = bl) w w') (hl : Lg w' l bl (n + 1) p) : LinkPost q p l bl n w (.returned v) w' := by
 subst hq; subst hv; exact ⟨_, rfl, he, hf, hl⟩
theorem lg_has {w : World} {l bl n : Nat} {p : Plan} (h : Lg w l bl n p) (k : Int) :
  Calls Tryz.prog 20 #[.pointer (some ⟨l, 0, none⟩), .int .i64 k] w (IsBool (hasK p k) w) := by
 obtain ⟨g, ⟨hp, A, cap, bo, ba, hB, _⟩, _⟩ := h
 have h3 := lodB_len hp
 exact has_ok l p.keepers.length cap A _ _ _ k w hB (by unfold maxLen; omega)
theorem small_wf {k : Nat} (h : k < 4) : (Lit.int .i64 (k : Int)).wf = true := by
 rcases k with _ | _ | _ | _ | k
 ·rfl
 ·rfl
 ·rfl
 ·rfl
 ·omega

set_option maxRecDepth 100000 in
set_option maxHeartbeats 4000000 in
theorem linkClass_ok (l bl n : Nat) (p : Plan) (k : Int) (s m : Str) (w : World) (h : Lg w l bl n p) (hs : s.size ≤ maxLen) (hm : m.size ≤ maxLen) (hn : n < 1000000) :
  Calls Tryz.prog 73 #[.pointer (some ⟨l, 0, none⟩), .int .i64 k, .string s, .string m] w (LinkPost (linkB p k s m) p l bl n w) := by
 have hp := h.ok
 have hlt := h.lt
 have h0 := h
 have HH := fun W (hW : Fr No w W) => lg_has (h.keep hW) k
 have HN := fun W => nam_ok s W hs
 have HM := fun W => nam_ok m W hm
 cases hk : hasK p k
 ·have HS : Hid (linkB p k s m = (noRef, 2)) := by
   show linkB p k s m = _
   unfold linkB
   rw [classB_no (no_find hk)]
   cases namB m <;> rfl
  rw [hk] at HH
  clear hk h hp
  go_enter Tryz.func73, Tryz.ntmps73
  go_wp2_with (go_at_call 20; refine (HH _ frc).mono ?_; rintro e w' ⟨rfl, rfl⟩)
  refine bodyPost_ret (v := .tuple #[.agg #[.int .i64 0, .string ⟨#[]⟩], .iface 145 (.pointer (some ⟨w.heap.size + 1, 0, none⟩))]) (by simp [results, Tryz.results73, go_sem, *]) rfl ?_
  exact .mk HS.out rfl (.mk (by decide) bxc) frc ((h0.keep frc).mono (by omega))
 rw [hk] at HH
 cases hns : namB s
 ·have HS : Hid (linkB p k s m = (noRef, 2)) := by
   show linkB p k s m = _
   unfold linkB
   rw [classB_no (bad_find hp hns)]
   cases namB m <;> rfl
  rw [hns] at HN
  clear hk h hp hns
  go_enter Tryz.func73, Tryz.ntmps73
  go_wp2_with (first
   | (go_at_call 20; refine (HH _ frc).mono ?_; rintro e w' ⟨rfl, rfl⟩)
   | (go_at_call 21; refine (HN _).mono ?_; rintro e w' ⟨rfl, rfl⟩))
  refine bodyPost_ret (v := .tuple #[.agg #[.int .i64 0, .string ⟨#[]⟩], .iface 145 (.pointer (some ⟨w.heap.size + 1, 0, none⟩))]) (by simp [results, Tryz.results73, go_sem, *]) rfl ?_
  exact .mk HS.out rfl (.mk (by decide) bxc) frc ((h0.keep frc).mono (by omega))
 rw [hns] at HN
 cases hnm : namB m
 ·have HS : Hid (linkB p k s m = (noRef, 2)) := by
   show linkB p k s m = _
   unfold linkB
   rw [hnm]
   rfl
  rw [hnm] at HM
  clear hk h hp hns hnm
  go_enter Tryz.func73, Tryz.ntmps73
  go_wp2_with (first
   | (go_at_call 20; refine (HH _ frc).mono ?_; rintro e w' ⟨rfl, rfl⟩)
   | (go_at_call 21; (first | refine (HN _).mono ?_ | refine (HM _).mono ?_); rintro e w' ⟨rfl, rfl⟩))
  refine bodyPost_ret (v := .tuple #[.agg #[.int .i64 0, .string ⟨#[]⟩], .iface 145 (.pointer (some ⟨w.heap.size + 1, 0, none⟩))]) (by simp [results, Tryz.results73, go_sem, *]) rfl ?_
  exact .mk HS.out rfl (.mk (by decide) bxc) frc ((h0.keep frc).mono (by omega))
 rw [hnm] at HM
 have hV : linkB p k s m = classB p k s := by unfold linkB; rw [hnm]; rfl
 rw [hV]
 have B0 : Bx (w.alloc (.cells #[.int .i64 0, .string ⟨#[]⟩] 54)) w.heap.size 54 #[.int .i64 0, .string ⟨#[]⟩] := bxc
 obtain ⟨g, hLo, hg⟩ := h
 have HF := fun W (hW : Fr No w W) => find_ok l bl n p g k s W (hLo.keep hW) hs
 clear hV hk hns hnm
 by_cases hc : (findK p k s).2 = 1
 ·obtain ⟨kc, i, pre, hq, hh, _⟩ := findK_here hp hc
  have h3 := lodB_len hp
  have hkl := hh.2.1
  have wk := small_wf (show kc < 4 by omega)
  have HC := fun W (hW : Lg W l bl n p) => canLay_ok l bl n p ⟨(kc : Int), s⟩ W hW hs wk hn
  have hV : classB p k s = if canB p ⟨kc, s⟩ then (⟨kc, s⟩, 1) else (noRef, 4) := by
   unfold classB
   rw [if_pos hc, hq]
  rw [hq] at HF
  unfold refV at HF
  unfold CanPost at HC
  replace hV := Lib.hid hV
  generalize classB p k s = V at *
  clear hc hq hh hp h3 hkl wk
  dsimp only at HF HC
  generalize canB p ⟨kc, s⟩ = cb at *
  go_enter Tryz.func73, Tryz.ntmps73
  go_wp2_with (first
   | (go_at_call 20; refine (HH _ frc).mono ?_; rintro e w' ⟨rfl, rfl⟩)
   | (go_at_call 21; (first | refine (HN _).mono ?_ | refine (HM _).mono ?_); rintro e w' ⟨rfl, rfl⟩)
   | (go_at_call 32; refine (HF _ frc).mono ?_; rintro e w1 ⟨rfl, hf1⟩; have q1 : Fr No w w1 := frc; have B1 := B0.keep hf1; have l1 := B1.lt))
  refine calls_world (fun W => Bx W w.heap.size 54 #[.int .i64 0, .string ⟨#[]⟩] ∧ Bx W w1.heap.size 54 #[.int .i64 kc, .string s] ∧ Fr No w W) ⟨bxc, bxc, frc⟩ ?_
  rintro Wz ⟨hB, hR, hwz⟩
  refine (HC Wz (h0.keep hwz)).mono ?_
  rintro e w2 ⟨rfl, hf2, hL2⟩
  have hw2 : Fr (fun b => b = bl) w w2 := hwz.of0.same hf2
  obtain ⟨z0, z1⟩ := (hB.keepX hf2 (by omega)).c2
  have zf := fun j => (hB.keepX hf2 (by omega)).frozen j
  have zl := (hB.keepX hf2 (by omega)).lt
  obtain ⟨y0, y1⟩ := (hR.keepX hf2 (by omega)).c2
  have yl := (hR.keepX hf2 (by omega)).lt
  clear hf1 q1 B0 B1 HH HN HM HF HC hf2 hB hR hwz
  cases cb
  ·go_wp2
   refine bodyPost_ret (v := .tuple #[.agg #[.int .i64 0, .string ⟨#[]⟩], .iface 145 (.pointer (some ⟨w2.heap.size, 0, none⟩))]) (by simp [results, Tryz.results73, go_sem, *]) rfl ?_
   exact .mk hV.out rfl (.mk (by decide) bxc) frc (h0.over hL2 hw2 frx)
  ·go_wp2
   refine bodyPost_ret (v := .tuple #[.agg #[.int .i64 kc, .string s], .nilIface]) (by simp [results, Tryz.results73, go_sem, *]) rfl ?_
   exact .mk hV.out rfl (.inl ⟨rfl, rfl⟩) frc (h0.over hL2 hw2 frx)
 ·have HS : Hid (classB p k s = (noRef, 2)) := by
   show classB p k s = _
   unfold classB
   rw [if_neg hc]
  unfold refV at HF
  have hc' : ((findK p k s).2 != 1) = true := by simpa using hc
  generalize findK p k s = q at *
  obtain ⟨⟨kc, nm⟩, c⟩ := q
  dsimp only at *
  clear hc
  go_enter Tryz.func73, Tryz.ntmps73
  go_wp2_with (first
   | (go_at_call 20; refine (HH _ frc).mono ?_; rintro e w' ⟨rfl, rfl⟩)
   | (go_at_call 21; (first | refine (HN _).mono ?_ | refine (HM _).mono ?_); rintro e w' ⟨rfl, rfl⟩)
   | (go_at_call 32; refine (HF _ frc).mono ?_; rintro e w1 ⟨rfl, hf1⟩; have q1 : Fr No w w1 := frc; have B1 := B0.keep hf1; have l1 := B1.lt; have ⟨z0, z1⟩ := B1.c2; have zf := (fun j => B1.frozen j)))
  refine bodyPost_ret (v := .tuple #[.agg #[.int .i64 0, .string ⟨#[]⟩], .iface 145 (.pointer (some ⟨w1.heap.size + 1, 0, none⟩))]) (by simp [results, Tryz.results73, go_sem, *]) rfl ?_
  exact .mk HS.out rfl (.mk (by decide) bxc) frc ((h0.keep frc).mono (by omega))
end Go.Proofs.YtbalicnnlfennaaGreat

namespace Go.Proofs.YtbalicnnlfennaaGreat
open Go.RowKit

theorem ErrV.nil {v : Value} {w : World} (h : ErrV 1 v w) : v = .nilIface := by
 rcases h with ⟨_, h⟩ | ⟨h, _⟩
 ·exact h
 ·exact absurd rfl h
theorem ErrV.some {c : Int} {v : Value} {w : World} (hc : ¬ c = 1) (h : ErrV c v w) : ∃ b, v = .iface 145 (.pointer (some ⟨b, 0, none⟩)) ∧ Bx w b 147 #[.int .i64 c] := by
 rcases h with ⟨h, _⟩ | ⟨_, h⟩
 ·exact absurd h hc
 ·exact h
theorem pickGo_some {p : Plan} {s : Str} : ∀ (rs : List Ref) {q : Ref} {i : Int}, pickGo p s rs = some (q, i) → q ∈ rs ∧ ∃ a : Nat, i = a ∧ a < (clsAt p q).methods.length
 | [], _, _, h => by cases h
 | r :: rs, q, i, h => by
  unfold pickGo at h
  by_cases hx : ixOf (mthIs s) (clsAt p r).methods < 0
  ·rw [if_pos hx] at h
   obtain ⟨h1, h2⟩ := pickGo_some rs h
   exact ⟨List.mem_cons_of_mem _ h1, h2⟩
  ·rw [if_neg hx] at h
   have hr := ixOf_range (mthIs s) (clsAt p r).methods
   cases h
   exact ⟨List.mem_cons_self .., (ixOf (mthIs s) (clsAt p r).methods).toNat, by omega, by omega⟩
theorem pickB_some {p : Plan} (hp : lodB p = true) {r q : Ref} {s : Str} {i : Int} (h : pickB p r s = some (q, i)) : q.name.size ≤ maxLen ∧ ∃ k ix a : Nat, Here p q k ix ∧ i = a ∧ a < (clsAt p q).methods.length := by
 unfold pickB at h
 split at h
 ·obtain ⟨h1, a, h2, h3⟩ := pickGo_some _ h
  obtain ⟨h4, k, ix, h5⟩ := chainK_here hp r q h1
  exact ⟨h4, k, ix, a, h5, h2, h3⟩
 ·cases h
theorem classB_one {p : Plan} (hp : lodB p = true) {k : Int} {s : Str} {r : Ref} (h : classB p k s = (r, 1)) : ∃ kc i : Nat, r = ⟨kc, s⟩ ∧ Here p ⟨kc, s⟩ kc i ∧ canB p ⟨kc, s⟩ = true ∧ findK p k s = (⟨kc, s⟩, 1) := by
 unfold classB at h
 by_cases hc : (findK p k s).2 = 1
 ·obtain ⟨kc, i, pre, hq, hh, _⟩ := findK_here hp hc
  rw [if_pos hc, hq] at h
  cases hcb : canB p ⟨kc, s⟩
  ·dsimp only at h
   rw [hcb] at h
   cases h
  ·dsimp only at h
   rw [hcb] at h
   cases h
   exact ⟨kc, i, rfl, hh, hcb, hq⟩
 ·rw [if_neg hc] at h
  cases h
theorem linkB_one {p : Plan} (hp : lodB p = true) {k : Int} {s m : Str} {r : Ref} (h : linkB p k s m = (r, 1)) : ∃ kc i : Nat, r = ⟨kc, s⟩ ∧ Here p ⟨kc, s⟩ kc i := by
 unfold linkB at h
 split at h
 ·obtain ⟨kc, i, h1, h2, _⟩ := classB_one hp h
  exact ⟨kc, i, h1, h2⟩
 ·cases h
def zeroMth : Mth := ⟨⟨#[]⟩, [], ⟨0, ⟨#[]⟩⟩, 0, 0, [], []⟩
def callG (p : Plan) (k : Int) (m : Str) (rc : Ref × Int) : (Ref × Int) × Int :=
 if rc.2 = 1 then
  match pickB p rc.1 m with
  | none => ((noRef, 0), 3)
  | some (q, a) => if agreeM p k q.keeper ((clsAt p q).methods.getD a.toNat zeroMth) then ((q, a), 1) else ((noRef, 0), 4)
 else ((noRef, 0), rc.2)
def callB (p : Plan) (k : Int) (s m : Str) : (Ref × Int) × Int := callG p k m (linkB p k s m)
def CallPost (q : (Ref × Int) × Int) (p : Plan) (l bl n : Nat) (w : World) (e : Ending) (w' : World) : Prop :=
 ∃ ev, e = .returned (.tuple #[.agg #[.int .i64 q.1.1.keeper, .string q.1.1.name, .int .i64 q.1.2], ev]) ∧ ErrV q.2 ev w' ∧ Fr (fun b => b = bl) w w' ∧ Lg w' l bl (n + 2) p
theorem CallPost.mk {q : (Ref × Int) × Int} {p : Plan} {l bl n : Nat} {w w' : World} {v ev : Value} {r : Ref} {i c : Int} (hq : q = ((r, i), c)) (hv : v = .tuple #[.agg #[.int .i64 r.keeper, .string r.name, .int .i64 i], ev]) (he : ErrV c ev w') (hf : Fr (fun b => b = bl) w w') (hl : Lg w' l bl (n + 2) p) : CallPost q p l bl n w (.returned v) w' := by
 subst hq; subst hv; exact ⟨_, rfl, he, hf, hl⟩

set_option maxRecDepth 100000 in
set_option maxHeartbeats 8000000 in
theorem call_ok (l bl n : Nat) (p : Plan) (k : Int) (s m : Str) (w : World) (h : Lg w l bl n p) (hs : s.size ≤ maxLen) (hm : m.size ≤ maxLen) (hn : n < 999999) :
  Calls Tryz.prog 34 #[.pointer (some ⟨l, 0, none⟩), .int .i64 k, .string s, .string m] w (CallPost (callB p k s m) p l bl n w) := by
 have hp := h.ok
 have hlt := h.lt
 have h0 := h
 have B0 : Bx (w.alloc (.cells #[.int .i64 0, .string ⟨#[]⟩, .int .i64 0] 84)) w.heap.size 84 #[.int .i64 0, .string ⟨#[]⟩, .int .i64 0] := bxc
 have HK := fun W (hW : Fr No w W) => linkClass_ok l bl n p k s m W (h.keep hW) hs hm (by omega)
 obtain ⟨q, hq⟩ : ∃ q, q = linkB p k s m := ⟨_, rfl⟩
 have hV : callB p k s m = callG p k m q := by unfold callB; rw [hq]
 rw [← hq] at HK
 generalize callB p k s m = V at *
 obtain ⟨⟨rk, rn⟩, c⟩ := q
 unfold LinkPost at HK
 dsimp only at HK
 clear h
 by_cases hc : c = 1
 ·subst hc
  obtain ⟨kc, i, hr, hh⟩ := linkB_one hp hq.symm
  obtain ⟨rfl, rfl⟩ := Ref.mk.inj hr
  have h3 := lodB_len hp
  have hkl := hh.2.1
  have wk := small_wf (show kc < 4 by omega)
  have HP := fun W (hW : Lg W l bl (n + 1) p) => pick_ok l bl (n + 1) p ⟨(kc : Int), rn⟩ m W hW hs hm wk (by omega)
  unfold PickPost at HP
  clear hq hr hh h3 hkl wk
  unfold callG at hV
  dsimp only at hV
  rw [if_pos rfl] at hV
  cases ho : pickB p ⟨(kc : Int), rn⟩ m with
  | none =>
   rw [ho] at HP hV
   dsimp only at hV
   replace hV := Lib.hid hV
   unfold pickV at HP
   clear ho
   go_enter Tryz.func34, Tryz.ntmps34
   go_wp2_with (go_at_call 73; refine (HK _ frc).mono ?_; rintro e w1 ⟨ev, rfl, he, hf1, hL1⟩; obtain rfl := he.nil; clear he)
   have hw1 : Fr (fun b => b = bl) w w1 := (show Fr No w (w.alloc (.cells #[.int .i64 0, .string ⟨#[]⟩, .int .i64 0] 84)) from frc).of0.same hf1
   have B1 := B0.keepX hf1 (by omega)
   have l1 := B1.lt
   clear HK B0
   go_wp2_with fail
   refine calls_world (fun W => Bx W w.heap.size 84 #[.int .i64 0, .string ⟨#[]⟩, .int .i64 0] ∧ Bx W w1.heap.size 54 #[.int .i64 kc, .string rn] ∧ Fr No w1 W) ⟨bxc, bxc, frc⟩ ?_
   rintro Wz ⟨hB, hR, hwz⟩
   refine (HP Wz (hL1.keep hwz)).mono ?_
   rintro e w2 ⟨rfl, hf2, hL2⟩
   have hw2 : Fr (fun b => b = bl) w w2 := (hw1.trans0 hwz).same hf2
   obtain ⟨z0, z1, z2⟩ := (hB.keepX hf2 (by omega)).c3
   have zf := fun j => (hB.keepX hf2 (by omega)).frozen j
   have zl := (hB.keepX hf2 (by omega)).lt
   clear hf1 B1 l1 hB hR hwz hf2 HP
   go_wp2
   refine bodyPost_ret (v := .tuple #[.agg #[.int .i64 0, .string ⟨#[]⟩, .int .i64 0], .iface 145 (.pointer (some ⟨w2.heap.size + 1, 0, none⟩))]) (by simp [results, Tryz.results34, go_sem, *]) rfl ?_
   exact .mk hV.out rfl (.mk (by decide) bxc) frc (h0.over hL2 hw2 frx)
  | some qa =>
   obtain ⟨⟨qk, qn⟩, a'⟩ := qa
   obtain ⟨hqs, kq, ix, a, hh, rfl, ha⟩ := pickB_some hp ho
   obtain rfl : qk = (kq : Int) := hh.1
   dsimp only at hqs
   rw [ho] at HP hV
   unfold pickV at HP
   dsimp only at HP hV
   have hmt : (clsAt p ⟨(kq : Int), qn⟩).methods.getD ((a : Int)).toNat zeroMth = (clsAt p ⟨(kq : Int), qn⟩).methods[a] := by simp [List.getD, List.getElem?_eq_getElem ha]
   rw [hmt] at hV
   clear ho hmt
   have HMV := fun W (g : Int → Str → Option Int) (hW : Lodge W l bl (n + 2) p g) => method_val hW hh hqs ha
   clear hh
   generalize (clsAt p ⟨(kq : Int), qn⟩).methods[a] = mt at *
   clear ha
   replace hV := Lib.hid hV
   go_enter Tryz.func34, Tryz.ntmps34
   go_wp2_with (go_at_call 73; refine (HK _ frc).mono ?_; rintro e w1 ⟨ev, rfl, he, hf1, hL1⟩; obtain rfl := he.nil; clear he)
   have hw1 : Fr (fun b => b = bl) w w1 := (show Fr No w (w.alloc (.cells #[.int .i64 0, .string ⟨#[]⟩, .int .i64 0] 84)) from frc).of0.same hf1
   have B1 := B0.keepX hf1 (by omega)
   have l1 := B1.lt
   clear HK B0
   go_wp2_with fail
   refine calls_world (fun W => Bx W w.heap.size 84 #[.int .i64 0, .string ⟨#[]⟩, .int .i64 0] ∧ Bx W w1.heap.size 54 #[.int .i64 kc, .string rn] ∧ Fr No w1 W) ⟨bxc, bxc, frc⟩ ?_
   rintro Wz ⟨hB, hR, hwz⟩
   refine (HP Wz (hL1.keep hwz)).mono ?_
   rintro e w2 ⟨rfl, hf2, hL2⟩
   have hw2 : Fr (fun b => b = bl) w w2 := (hw1.trans0 hwz).same hf2
   have hB2 := hB.keepX hf2 (by omega)
   have l2 := hB2.lt
   clear hf1 B1 l1 hB hR hwz hf2 HP
   go_wp2_with fail
   refine wp_world (fun W => Bx W w.heap.size 84 #[.int .i64 0, .string ⟨#[]⟩, .int .i64 0] ∧ Bx W w2.heap.size 84 #[.int .i64 kq, .string qn, .int .i64 a] ∧ Fr No w2 W) ⟨bxc, bxc, frc⟩ ?_
   rintro wA ⟨hB, hR, hwz⟩
   obtain ⟨g2, hLo2, hg2⟩ := hL2
   obtain ⟨cs, hM, HMe⟩ := HMV wA g2 (hLo2.keep hwz)
   have HA := fun W (hW : Fr No wA W) => agreeMethod_ok _ l bl (n + 2) p g2 k kq mt cs W ((hLo2.keep hwz).keep hW) (hM.keep hW (fun _ h => h.elim))
   have K0 := hR.r3
   clear hM HMV hB2
   generalize agreeM p k kq mt = ag at *
   refine wp_region_monL 9 [isV (.pointer (some ⟨l, 0, none⟩)), isV (.int .i64 k), isV (.pointer (some ⟨w2.heap.size, 0, none⟩)), isV (.pointer (some ⟨w2.heap.size, 0, none⟩)), isV (.int .i64 kq), isV (.pointer (some ⟨l, 0, none⟩)), isV (.agg #[.int .i64 kq, .string qn, .int .i64 a]), isV (.agg cs.toArray), isV (.bool ag)] [false, false, false, false, false, false, false, false, false] [false, false, false, false, false, false, false, false, false] ?_ (by kernel_rfl) (by kernel_rfl) ?_ ?_ ?_ ?_
   ·intro x hx hb v W h
    simp only [List.zip_cons_cons, List.zip_nil_left, List.mem_cons, List.not_mem_nil, or_false] at hx
    rcases hx with rfl | rfl | rfl | rfl | rfl | rfl | rfl | rfl | rfl <;> first | (cases hb; done) | exact atB_bk h
   ·intro o ho d hd; simp only [List.take_succ_cons, List.take_zero, List.mem_cons, List.not_mem_nil, or_false] at ho; rcases ho with rfl | rfl | rfl | rfl | rfl | rfl | rfl | rfl | rfl <;> (cases hd; simp)
   ·intro x hx
    simp only [List.mem_cons, List.not_mem_nil, or_false] at hx
    rcases hx with rfl | rfl | rfl | rfl | rfl | rfl | rfl | rfl | rfl
    ·exact isV_mono _
    ·exact isV_mono _
    ·exact isV_mono _
    ·exact isV_mono _
    ·exact isV_mono _
    ·exact isV_mono _
    ·exact isV_mono _
    ·exact isV_mono _
    ·exact isV_mono _
   ·intro k o ho a' W hW hoff hdep
    have hbs := hW.size
    have H0 := hoff 0 (by simp)
    have H1 := hoff 1 (by simp)
    have H12 := hoff 12 (by simp)
    simp only [Act.eval] at H0 H1 H12
    simp only [List.take_succ_cons, List.take_zero] at ho hdep
    rcases k with _ | _ | _ | _ | _ | _ | _ | _ | _ | k
    all_goals (first | (simp at ho; done) | skip)
    all_goals simp only [List.getElem?_cons_zero, List.getElem?_cons_succ, Option.some.injEq] at ho
    all_goals subst ho
    ·refine ⟨fun h => absurd h (by decide), fun _ => ?_⟩
     unfold opGives
     simp [execOp, Act.eval, H0, go_sem, givesUpon]
     exact ⟨Fr.refl _ _, rfl⟩
    ·refine ⟨fun h => absurd h (by decide), fun _ => ?_⟩
     unfold opGives
     simp [execOp, Act.eval, H1, go_sem, givesUpon]
     exact ⟨Fr.refl _ _, rfl⟩
    ·refine ⟨fun h => absurd h (by decide), fun _ => ?_⟩
     unfold opGives
     simp [execOp, Act.eval, H12, go_sem, givesUpon]
     exact ⟨Fr.refl _ _, rfl⟩
    ·have D41 : a'.eval (.tmp 41) = .pointer (some ⟨w2.heap.size, 0, none⟩) := hdep ⟨2, .data⟩ (by simp) rfl _ 41 rfl rfl
     simp only [Act.eval] at D41
     refine ⟨fun h => absurd h (by decide), fun _ => ?_⟩
     unfold opGives
     simp [execOp, Act.eval, D41, go_sem, givesUpon]
     exact ⟨Fr.refl _ _, rfl⟩
    ·have D42 : a'.eval (.tmp 42) = .pointer (some ⟨w2.heap.size, 0, none⟩) := hdep ⟨3, .data⟩ (by simp) rfl _ 42 rfl rfl
     simp only [Act.eval] at D42
     refine ⟨fun h => absurd h (by decide), fun _ => ?_⟩
     unfold opGives
     simp [execOp, Act.eval, go_sem, givesUpon, *]
     exact ⟨Fr.refl _ _, rfl⟩
    ·refine ⟨fun h => absurd h (by decide), fun _ => ?_⟩
     unfold opGives
     simp [execOp, Act.eval, H0, go_sem, givesUpon]
     exact ⟨Fr.refl _ _, rfl⟩
    ·refine ⟨fun h => absurd h (by decide), fun _ => ?_⟩
     unfold opGives
     simp [execOp, Act.eval, go_sem, givesUpon, *]
     exact ⟨Fr.refl _ _, rfl⟩
    ·have D44 : a'.eval (.tmp 44) = .pointer (some ⟨l, 0, none⟩) := hdep ⟨5, .data⟩ (by simp) rfl _ 44 rfl rfl
     have D45 : a'.eval (.tmp 45) = .agg #[.int .i64 kq, .string qn, .int .i64 a] := hdep ⟨6, .data⟩ (by simp) rfl _ 45 rfl rfl
     simp only [Act.eval] at D44 D45
     refine ⟨fun h => absurd h (by decide), fun _ => ?_⟩
     unfold opGives
     simp [Act.eval, D44, D45, go_sem, givesUpon]
     exact (HMe _ hW).mono fun e w'' h => ⟨_, h.1, h.2, rfl⟩
    ·have D39 : a'.eval (.tmp 39) = .pointer (some ⟨l, 0, none⟩) := hdep ⟨0, .data⟩ (by simp) rfl _ 39 rfl rfl
     have D40 : a'.eval (.tmp 40) = .int .i64 k := hdep ⟨1, .data⟩ (by simp) rfl _ 40 rfl rfl
     have D43 : a'.eval (.tmp 43) = .int .i64 kq := hdep ⟨4, .data⟩ (by simp) rfl _ 43 rfl rfl
     have D46 : a'.eval (.tmp 46) = .agg cs.toArray := hdep ⟨7, .data⟩ (by simp) rfl _ 46 rfl rfl
     simp only [Act.eval] at D39 D40 D43 D46
     refine ⟨fun h => absurd h (by decide), fun _ => ?_⟩
     unfold opGives
     simp [Act.eval, D39, D40, D43, D46, go_sem, givesUpon]
     exact (HA _ hW).mono fun e w'' h => ⟨_, h.1, h.2, rfl⟩
   intro vs WR hWR hv hne
   have e0 : vs 0 = _ := hv 0 (by omega)
   have e1 : vs 1 = _ := hv 1 (by omega)
   have e2 : vs 2 = _ := hv 2 (by omega)
   have e3 : vs 3 = _ := hv 3 (by omega)
   have e4 : vs 4 = _ := hv 4 (by omega)
   have e5 : vs 5 = _ := hv 5 (by omega)
   have e6 : vs 6 = _ := hv 6 (by omega)
   have e7 : vs 7 = _ := hv 7 (by omega)
   have e8 : vs 8 = _ := hv 8 (by omega)
   simp only [List.take_succ_cons, List.take_zero, List.drop_succ_cons, List.drop_zero, putsL, if_true, Nat.zero_add, Nat.reduceAdd, e0, e1, e2, e3, e4, e5, e6, e7, e8]
   simp only [Act.put, List.setIfInBounds_toArray, List.set_cons_zero, List.set_cons_succ]
   clear e0 e1 e2 e3 e4 e5 e6 e7 e8 hv
   have hL3 : Lg WR l bl (n + 2) p := ⟨g2, (hLo2.keep hwz).keep hWR, hg2⟩
   have hw3 : Fr (fun b => b = bl) w WR := (hw2.trans0 hwz).trans0 hWR
   have BZ := hB.keep hWR
   have BR := hR.keep hWR
   obtain ⟨z0, z1, z2⟩ := BZ.c3
   have zf := fun j => BZ.frozen j
   have zl := BZ.lt
   obtain ⟨y0, y1, y2⟩ := BR.c3
   have yl := BR.lt
   clear hB hR hwz K0 HA HMe hLo2 hg2
   cases ag
   ·go_wp2
    refine bodyPost_ret (v := .tuple #[.agg #[.int .i64 0, .string ⟨#[]⟩, .int .i64 0], .iface 145 (.pointer (some ⟨WR.heap.size, 0, none⟩))]) (by simp [results, Tryz.results34, go_sem, *]) rfl ?_
    exact .mk hV.out rfl (.mk (by decide) bxc) frc (h0.over hL3 hw3 frx)
   ·go_wp2
    refine bodyPost_ret (v := .tuple #[.agg #[.int .i64 kq, .string qn, .int .i64 a], .nilIface]) (by simp [results, Tryz.results34, go_sem, *]) rfl ?_
    exact .mk hV.out rfl (.inl ⟨rfl, rfl⟩) frc (h0.over hL3 hw3 frx)
 ·unfold callG at hV
  dsimp only at hV
  rw [if_neg hc] at hV
  replace hV := Lib.hid hV
  go_enter Tryz.func34, Tryz.ntmps34
  go_wp2_with (go_at_call 73; refine (HK _ frc).mono ?_; rintro e w1 ⟨ev, rfl, he, hf1, hL1⟩; obtain ⟨eb, rfl, heb⟩ := he.some hc; clear he; have hw1 : Fr (fun b => b = bl) w w1 := (show Fr No w (w.alloc (.cells #[.int .i64 0, .string ⟨#[]⟩, .int .i64 0] 84)) from frc).of0.same hf1; have B1 := B0.keepX hf1 (by omega); have ⟨z0, z1, z2⟩ := B1.c3; have zf := (fun j => B1.frozen j); have zl := B1.lt)
  have hne : eb ≠ w.heap.size := by
   intro h9
   rw [h9] at heb
   unfold Bx at heb B1
   rw [heb] at B1
   simp at B1
  clear HK B0
  refine bodyPost_ret (v := .tuple #[.agg #[.int .i64 0, .string ⟨#[]⟩, .int .i64 0], .iface 145 (.pointer (some ⟨eb, 0, none⟩))]) (by simp [results, Tryz.results34, go_sem, *]) rfl ?_
  exact .mk hV.out rfl (.inr ⟨hc, eb, rfl, bxc⟩) frc ((h0.over hL1 hw1 frx).mono (by omega))
end Go.Proofs.YtbalicnnlfennaaGreat
