/- The program's own machine: a field of a thing. -/
import Derived.Test.YtbalicnnlfennaaGreatCK7
import Derived.Test.YtbalicnnlfennaaGreatCK10
namespace Go.Proofs.YtbalicnnlfennaaGreat
open Go.RowKit

def GetC (K : McP) (n : Nat) (wA W : World) : Prop := Fr (fun b => b = K.bl) wA W ∧ Lg W K.l K.bl n K.p
theorem objM_one {p : Plan} {h : List Obj} {v : Val} {top : Ref} (h1 : objM p h v top = 1) : v.kind = 2 := by
 unfold objM at h1
 split at h1
 ·cases h1
 ·split at h1
  ·assumption
  ·cases h1
theorem set5o {w : World} {g : Nat} {t : TypeId} {o0 o1 o2 o3 o4 c0 c1 c2 c3 c4 : Value} (h : Bx w g t #[o0, o1, o2, o3, o4]) : Bx (((((w.setCell ⟨g, 0, none⟩ c0).setCell ⟨g, 1, none⟩ c1).setCell ⟨g, 2, none⟩ c2).setCell ⟨g, 3, none⟩ c3).setCell ⟨g, 4, none⟩ c4) g t #[c0, c1, c2, c3, c4] :=
 ((((h.set_ 0 c0).set_ 1 c1).set_ 2 c2).set_ 3 c3).set_ 4 c4
theorem set5one (w : World) (g : Nat) (c0 c1 c2 c3 c4 : Value) : Fr (fun x => x = g) w (((((w.setCell ⟨g, 0, none⟩ c0).setCell ⟨g, 1, none⟩ c1).setCell ⟨g, 2, none⟩ c2).setCell ⟨g, 3, none⟩ c3).setCell ⟨g, 4, none⟩ c4) :=
 ((((Fr.one _ _ _ _).same (Fr.one _ _ _ _)).same (Fr.one _ _ _ _)).same (Fr.one _ _ _ _)).same (Fr.one _ _ _ _)
set_option maxRecDepth 100000 in
set_option maxHeartbeats 4000000 in
theorem doGet_ok (K : McP) (E : McE K) (n : Nat) (s : St) (fs : List Cal) (f : Cal) (m : MLay) (ks : List KC) (k : KC) (w : World) (h : McT K n s fs f m ks k w) (hst : f.stack.length ≤ 100) (h0 : 0 ≤ f.pc) (h1 : f.pc < 1000) (hhl : s.heap.length ≤ 12) (hn : n < 980000) (i : Ins) (hnm : i.name.size ≤ maxLen) (hmm : i.member.size ≤ maxLen)
  (hvs : ∀ v ∈ f.stack, v.kind = 2 → ∃ j : Nat, v.n = j ∧ j < s.heap.length)
  (hAt : ∀ v r, popV f.stack = some (v, r) → objM K.p s.heap v (getB K.p f.of_.of_.keeper i.name i.member).1.of_ = 1 → ∃ a : Nat, (getB K.p f.of_.of_.keeper i.name i.member).1.at_ = a ∧ a < (s.heap.getD v.n.toNat noObj).fields.length ∧ (s.heap.getD v.n.toNat noObj).fields.length ≤ 1000) :
  Calls Tryz.prog 53 #[.pointer (some ⟨K.mb, 0, none⟩), insV i] w (OpPost K (n + 2) (if (getB K.p f.of_.of_.keeper i.name i.member).2 = 1 then (match popV f.stack with
   | none => s.ends 10
   | some (v, r) => if objM K.p s.heap v (getB K.p f.of_.of_.keeper i.name i.member).1.of_ = 1 then putM K.p s fs (f.left r) ((s.heap.getD v.n.toNat noObj).fields.getD (getB K.p f.of_.of_.keeper i.name i.member).1.at_.toNat noVal) else s.ends (objM K.p s.heap v (getB K.p f.of_.of_.keeper i.name i.member).1.of_)) else s.ends 4) m w) := by
 obtain ⟨op, ia, nm, mbr⟩ := i
 dsimp only at *
 have hbl := E.bl_lt
 have han := h.st.anchor.size
 have HT := fun W (hW : Fr No w W) => top_ok K n s fs f m ks k W (h.keep E hW)
 have HG := fun W (hW : Fr No w W) => get_ok K.l K.bl n K.p f.of_.of_.keeper nm mbr W ((h.keep E hW).st.lg) hnm hmm (by omega)
 unfold GetPost at HG
 generalize hkp : f.of_.of_.keeper = kp at *
 generalize getB K.p kp nm mbr = q at *
 obtain ⟨RES, hRES⟩ : ∃ R : St, R = (if q.2 = 1 then (match popV f.stack with
   | none => s.ends 10
   | some (v, r) => if objM K.p s.heap v q.1.of_ = 1 then putM K.p s fs (f.left r) ((s.heap.getD v.n.toNat noObj).fields.getD q.1.at_.toNat noVal) else s.ends (objM K.p s.heap v q.1.of_)) else s.ends 4) := ⟨_, rfl⟩
 rw [← hRES]
 replace hRES := Lib.hid hRES
 obtain ⟨wA, hwA⟩ : ∃ wA, wA = (w.alloc (.cells #[.int .i64 op, .int .i64 ia, .string nm, .string mbr] 27)) := ⟨_, rfl⟩
 have hfA : Fr No w wA := hwA ▸ frc
 have B0 := (hwA ▸ bxc : Bx wA w.heap.size 27 #[.int .i64 op, .int .i64 ia, .string nm, .string mbr])
 go_enter Tryz.func53, Tryz.ntmps53
 go_wp2_with (go_at_call 62; rw [← hwA]; refine (HT _ hfA).mono ?_; rintro e w1 ⟨rfl, hf1⟩)
 have hf01 := hfA.trans0 hf1
 have B1 := B0.keep hf1
 have h1T := h.keep E hf01
 obtain ⟨G, hG, hGs, KC, HK⟩ : ∃ G : World → Prop, (∀ W, (Fr No w1 W ∨ GetC K (n + 2) w1 W) → G W) ∧ (∀ W, G W → w1.heap.size ≤ W.heap.size) ∧
   (∀ W, G W → W.cell? ⟨K.mb, 0, none⟩ = some (.pointer (some ⟨K.l, 0, none⟩)) ∧ K.mb < W.heap.size ∧ W.cell? ⟨w.heap.size, 2, none⟩ = some (.string nm) ∧ W.cell? ⟨w.heap.size, 3, none⟩ = some (.string mbr) ∧ w.heap.size < W.heap.size) ∧
   (∀ W, G W → Calls Tryz.prog 87 #[.pointer (some ⟨k.c, 0, none⟩)] W (Gives (.int .i64 kp) W)) := by
  have hall : ∀ W (X : Nat → Prop), Fr X w1 W → (∀ b, X b → b = K.bl) → W.cell? ⟨K.mb, 0, none⟩ = some (.pointer (some ⟨K.l, 0, none⟩)) ∧ K.mb < W.heap.size ∧ W.cell? ⟨w.heap.size, 2, none⟩ = some (.string nm) ∧ W.cell? ⟨w.heap.size, 3, none⟩ = some (.string mbr) ∧ w.heap.size < W.heap.size := fun W X hW hX => by
   have hb := h1T.st.box.keepX hW (fun hx => by have := hX _ hx; have := h1T.st.new _ (mem_mcB.2 (.inl rfl)); omega)
   have h0 := B1.keepX hW (fun hx => by have := hX _ hx; omega)
   exact ⟨hb.cell 0, hb.lt, h0.cell 2, h0.cell 3, h0.lt⟩
  refine ⟨fun W => Fr No w1 W ∨ GetC K (n + 2) w1 W, fun _ h => h, fun W hW => ?_, fun W hW => ?_, fun W hW => ?_⟩
  ·rcases hW with hW | ⟨hW, _⟩ <;> exact hW.size
  ·rcases hW with hW | ⟨hW, _⟩
   ·exact hall W No hW (fun _ h => h.elim)
   ·exact hall W _ hW (fun _ h => h)
  ·rw [← hkp]
   rcases hW with hW | ⟨hW, hl⟩
   ·exact ckeeper_ok K n s fs f m ks k W (h1T.keep E hW)
   ·exact ckeeper_ok K (n + 2) s fs f m ks k W (h1T.lodge E hl hW)
 replace hwA := Lib.hid hwA
 replace hkp := Lib.hid hkp
 replace h1T := Lib.hid h1T
 replace h := Lib.hid h
 replace B1 := Lib.hid B1
 refine wp_region_mowR 15 27 [mV (.pointer (some ⟨K.mb, 0, none⟩)), mV (.pointer (some ⟨K.mb, 0, none⟩)), mV (.pointer (some ⟨K.mb, 0, none⟩)), mV (.pointer (some ⟨K.l, 0, none⟩)), mV (.pointer (some ⟨k.c, 0, none⟩)), mV (.int .i64 kp), mV (.pointer (some ⟨w.heap.size, 2, none⟩)), mV (.string nm), mV (.pointer (some ⟨w.heap.size, 3, none⟩)), mV (.string mbr), mC (gotV q) (gotV_mono q), mC (gotV q) (gotV_mono q), mV (lfV q.1), mE (mC (errP q.2) (errP_mono q.2)), mB 154 (#[.int .i64 0, .string ⟨#[]⟩, .int .i64 0, .int .i64 0, .string ⟨#[]⟩]) w1.heap.size] 10 (fun _ _ => False) (GetC K (n + 2) w1) (Fr (fun b => b = K.bl)) (by kernel_rfl) (by kernel_rfl) (by simp) (fun W W' h hf => ⟨h.1.trans0 hf, h.2.keep hf⟩) ?_ ?_ ?_ ?_ ?_
 ·exact fun v W W' hs => hSV <| hSV <| hSV <| hSV <| hSV <| hSV <| hSV <| hSV <| hSV <| hSV <| hopC (fun _ h => by first | exact h | (obtain ⟨b, g1, g2, g3⟩ := h; exact ⟨b, g1, g2.keepX hs (by have := hf01.size; omega), g3⟩)) <| hSV <| hopC (fun _ h => by first | exact h | (obtain ⟨b, g1, g2, g3⟩ := h; exact ⟨b, g1, g2.keepX hs (by have := hf01.size; omega), g3⟩)) <| hopC (fun _ h => by first | exact h | (obtain ⟨b, g1, g2, g3⟩ := h; exact ⟨b, g1, g2.keepX hs (by have := hf01.size; omega), g3⟩)) <| hopZ
 ·refine hopC ?_ <| hopC ?_ <| hopC ?_ <| hopC ?_ <| hopC ?_ <| hopC ?_ <| hopC ?_ <| hopC ?_ <| hopC ?_ <| hopC ?_ <| hopC ?_ <| hopC ?_ <| hopC ?_ <| hopC ?_ <| hopZ
  all_goals (intro a' W hW hoff hdep; replace hW := hG _ hW; have hbs := hGs _ hW; have H0 := hoff 0 rfl; have H5 := hoff 5 rfl; have H3 := hoff 3 rfl)
  ·refine nE rfl ?_; simp [execOp, Act.eval, H0, go_sem, givesUpon]; exact fr1 rfl
  ·have D14 : _ = _ := hdep 0 14 rfl; refine nE rfl ?_; simp [execOp, Act.eval, D14, go_sem, givesUpon]; exact fr1 rfl
  ·have D15 : _ = _ := hdep 1 15 rfl; refine nE rfl ?_; simp [execOp, Act.eval, D15, go_sem, givesUpon]; exact fr1 rfl
  ·have D16 : _ = _ := hdep 2 16 rfl; refine nE rfl ?_; clear hoff hdep; simp [execOp, Act.eval, go_sem, givesUpon, *]; exact fr1 rfl
  ·refine nE rfl ?_; simp [execOp, Act.eval, H5, go_sem, givesUpon]; exact fr1 rfl
  ·have D18 : _ = _ := hdep 4 18 rfl; refine nE rfl ?_; simp [Act.eval, D18, go_sem, givesUpon]; exact (HK _ hW).mono fun e w' h => ⟨_, h.1, h.2, rfl⟩
  ·refine nE rfl ?_; simp [execOp, Act.eval, H3, go_sem, givesUpon]; exact fr1 rfl
  ·have D20 : _ = _ := hdep 6 20 rfl; refine nE rfl ?_; clear hoff hdep; simp [execOp, Act.eval, go_sem, givesUpon, *]; exact fr1 rfl
  ·refine nE rfl ?_; simp [execOp, Act.eval, H3, go_sem, givesUpon]; exact fr1 rfl
  ·have D22 : _ = _ := hdep 8 22 rfl; refine nE rfl ?_; clear hoff hdep; simp [execOp, Act.eval, go_sem, givesUpon, *]; exact fr1 rfl
  ·obtain ⟨ev, D24, he⟩ : (gotV q) _ W := hdep 10 24 rfl; refine nE rfl ?_; simp [execOp, Act.eval, D24, go_sem, givesUpon]; exact ⟨Fr.refl _ _, _, rfl, he⟩
  ·obtain ⟨ev, D13, he⟩ : (gotV q) _ W := hdep 11 13 rfl; refine nE rfl ?_; simp [execOp, Act.eval, D13, go_sem, givesUpon]; exact fr1 rfl
  ·obtain ⟨ev, D13, he⟩ : (gotV q) _ W := hdep 11 13 rfl; exact yE rfl ⟨ev, fun W => by simp [execOp, Act.eval, D13, go_sem], ⟨_, rfl, he⟩, rfl⟩
  ·refine nE rfl ?_; simp [execOp, go_sem, givesUpon]; exact ⟨(Fr.refl _ _).alloc _, ⟨_, rfl, Bx.new_ rfl, hbs⟩, Nat.le_refl _⟩
 ·intro o r ho hr a' W hW hoff hdep
  have hbs := hW.size
  cases ho; cases hr
  have D17 : _ = _ := hdep 3 17 rfl
  have D19 : _ = _ := hdep 5 19 rfl
  have D21 : _ = _ := hdep 7 21 rfl
  have D23 : _ = _ := hdep 9 23 rfl
  simp [Act.eval, D17, D19, D21, D23, go_sem, givesUponN]
  exact (HG _ (hf01.trans0 hW)).mono (fun e w' h => by obtain ⟨ev, g1, g2, g3, g4⟩ := h; exact ⟨_, g1, ⟨hW.of0.same g3, g4⟩, g3, ev, rfl, g2.t⟩)
 ·exact fun _ _ _ _ h => h.elim
 intro vs WR hWR hv hne
 replace hWR := hWR.resolve_left (fun h => absurd h.1 (by decide))
 obtain ⟨evR10, e10, heR10⟩ := hv 10 (by omega)
 obtain ⟨evR11, e11, heR11⟩ := hv 11 (by omega)
 obtain ⟨xR13, e13, heR13⟩ := hv 13 (by omega)
 obtain ⟨b14, e14, hb14, hl14⟩ := hv 14 (by omega)
 simp only [List.drop_succ_cons, List.drop_zero, putsR_B, putsR_C, putsR_EC, putsR_V, putsR_0, Nat.zero_add, Nat.reduceAdd, e10, e11, e13, e14]
 simp only [Act.put, List.setIfInBounds_toArray, List.set_cons_zero, List.set_cons_succ]
 clear e10 e11 e13 e14 hv
 obtain ⟨hC1, hC2⟩ := hWR
 have hT2 := h1T.out.lodge E hC2 hC1
 have hZ := Lib.hid (fun b (hb : b ∈ mcB K m) => h.out.st.lt hb)
 have hwl := hf01.size
 have hB2 := B1.out.keepX hC1 (by omega)
 obtain ⟨y0, y1, y2, y3, y4⟩ := hb14.c5
 have yf := fun i => hb14.frozen i
 have yl := hb14.lt
 have hwC := hC1.size
 have hfw : Fr (fun b => b = K.bl) w WR := hf01.of0.same hC1
 clear HG KC HK hG hGs hne HT heR10 heR11
 unfold lfV at *
 rcases heR13 with ⟨hq, rfl⟩ | ⟨hq, eb, rfl⟩
 ·have hRES := hRES.out
  rw [if_pos hq] at hRES
  replace hRES := Lib.hid hRES
  clear hq
  go_wp2_with fail
  replace hRES := hRES.out
  obtain ⟨wB, hwB⟩ : ∃ wB, wB = (((((WR.setCell ⟨b14, 0, none⟩ (.int .i64 q.1.of_.keeper)).setCell ⟨b14, 1, none⟩ (.string q.1.of_.name)).setCell ⟨b14, 2, none⟩ (.int .i64 q.1.at_)).setCell ⟨b14, 3, none⟩ (.int .i64 q.1.kind.kind)).setCell ⟨b14, 4, none⟩ (.string q.1.kind.name)) := ⟨_, rfl⟩
  rw [← hwB]
  have hfB : Fr (fun x => x = b14) WR wB := hwB ▸ ((((Fr.one _ _ _ _).same (Fr.one _ _ _ _)).same (Fr.one _ _ _ _)).same (Fr.one _ _ _ _)).same (Fr.one _ _ _ _)
  have BB : Bx wB b14 154 #[.int .i64 q.1.of_.keeper, .string q.1.of_.name, .int .i64 q.1.at_, .int .i64 q.1.kind.kind, .string q.1.kind.name] := hwB ▸ set5o hb14
  have hTB := hT2.far E hfB (fun b hb => by subst hb; exact ⟨by omega, fun hx => by have := hZ.out _ hx; omega⟩)
  have hfwB : Fr (K.own m) w wB := (hfw.mono (fun _ _ h => .inl h)).trans hfB (fun b hb e => by omega)
  have HP := pop_ok K E (n + 2) s fs f m ks k wB hTB hst
  unfold PopPost at HP
  clear hwB hb14 y0 y1 y2 y3 y4 yf yl hB2
  rcases popV_cases f.stack with ⟨hs, q1, _⟩ | ⟨ys, x, hs, q1, _⟩
  ·rw [q1] at HP hRES
   dsimp only at HP hRES
   subst hRES
   have hE := fun W (hW : Fr No wB W) => (hTB.keep E hW).ends 10 (by decide) (Fr.refl No W)
   clear hs q1 hAt hvs BB
   refine HP.mono ?_
   rintro e w2 ⟨rfl, hf2⟩
   go_wp2_with fail
   go_ret
   exact ⟨rfl, ((hE _ frc).from (Fr.trans0 hf2 frc)).then (fun _ h => .inl h) hfwB⟩
  ·have hv2 := hvs x (by rw [hs]; simp)
   have hAx := hAt x ys q1
   have hyl : ys.length ≤ 100 := by rw [hs] at hst; simp at hst; omega
   rw [q1] at HP hRES
   dsimp only at HP hRES
   clear hs q1 hAt hvs
   refine HP.mono ?_
   rintro e w2 ⟨rfl, m2, ks2, k2, hT3, hk2, hB3, hf3⟩
   have hb14l := BB.lt
   have B3 := BB.keepX hf3 (fun hx => by
    rcases hx with hx | hx
    ·omega
    ·have := hZ.out _ hx; omega)
   have HO := fun W (hW : Fr No w2 W) => object_ok K (n + 2) _ m2 W E (hT3.st.keep E hW) x q.1.of_ (by exact Nat.le_trans hhl (by decide)) hv2
   have hen := fun (c : Int) (hc : c ≠ 1) W (hW : Fr No w2 W) => (hT3.keep E hW).ends c hc (Fr.refl No W)
   dsimp only at HO
   have hcl := @objM_one K.p s.heap x q.1.of_
   generalize hoc : objM K.p s.heap x q.1.of_ = oc at *
   obtain ⟨z0, z1, z2, z3, z4⟩ := B3.c5
   have zl := B3.lt
   have hfwO := Lib.hid hfwB
   by_cases hc : oc = 1
   ·rw [if_pos hc] at hRES
    obtain ⟨xk, xn⟩ := x
    dsimp only at hRES hcl hv2 hAx HO
    obtain ⟨jj, hj1, hj2⟩ := hv2 (hcl hc)
    obtain ⟨a, ha1, ha2, ha3⟩ := hAx hc
    subst hj1
    rw [getD_nat hj2 noObj] at hRES ha2 ha3
    rw [ha1, getD_nat ha2 noVal] at hRES
    rw [ha1] at B3 z2
    subst hRES
    rw [hc] at HO
    clear hen hc hcl hv2 hAx ha1 hoc
    obtain ⟨g, c, vf, hvh, o1, o2, _, hvf, KO⟩ := hT3.st.obj (i := jj) hj2
    change m2.vh = .slice (some ⟨g, 0, none⟩) s.heap.length c at hvh
    change ValRow w2 vf s.heap[jj].fields at hvf
    obtain ⟨gf, cf, hvv⟩ := ValRow.pos hvf (show 0 < s.heap[jj].fields.length by omega)
    subst hvv
    obtain ⟨hx0, p1, p2, KV⟩ := hvf.at2 ha2
    unfold maxLen at o2 p2
    dsimp only at KO o1
    have KM := hT3.st.cells
    rw [hvh] at KM
    have HPut : ∀ W, Fr No w2 W → Calls Tryz.prog 81 #[.pointer (some ⟨K.mb, 0, none⟩), .agg #[.int .i64 (s.heap[jj].fields[a]'ha2).kind, .int .i64 (s.heap[jj].fields[a]'ha2).n]] W (OpPost K (n + 2) (putM K.p s fs (f.left ys) (s.heap[jj].fields[a]'ha2)) m2 W) := fun W hW => mput_ok K E (n + 2) _ fs _ m2 ks2 k2 W (hT3.keep E hW) hyl h0 h1 (s.heap[jj].fields[a]'ha2)
    generalize putM K.p s fs (f.left ys) (s.heap[jj].fields[a]'ha2) = s' at *
    generalize s.heap[jj].fields[a]'ha2 = y at *
    have hal : a < 1000 := by omega
    have hfC : Fr No w2 (w2.alloc (.cells #[.int .i64 xk, .int .i64 (jj : Int)] 40)) := (Fr.refl No w2).alloc _
    have BC : Bx (w2.alloc (.cells #[.int .i64 xk, .int .i64 (jj : Int)] 40)) w2.heap.size 40 #[.int .i64 xk, .int .i64 (jj : Int)] := bxc
    replace hvh := Lib.hid hvh
    replace hvf := Lib.hid hvf
    go_wp2_with (go_at_call 88; refine (HO _ hfC).mono ?_; rintro e w4 ⟨rfl, hf4⟩)
    have hf24 := hfC.trans0 hf4
    have KX := (BC.keep hf4).r2
    have KB := fun W (hW : Fr No w4 W) => (((B3.keep hf24).keep hW).c5)
    have KBl := fun W (hW : Fr No w4 W) => (((B3.keep hf24).keep hW).lt)
    have KO4 := fun W (hW : Fr No w4 W) => KO W (hf24.trans0 hW)
    have KV4 := fun W (hW : Fr No w4 W) => KV W (hf24.trans0 hW)
    have KM4 := fun W (hW : Fr No w4 W) => KM W (hf24.trans0 hW)
    generalize s.heap[jj].fields.length = flen at *
    clear hx0 KO KV KM HO z0 z1 z2 z3 z4 zl BC B3 BB
    refine wp_region_monR 14 60 [mV (.pointer (some ⟨K.mb, 0, none⟩)), mV (.pointer (some ⟨K.mb, 0, none⟩)), mV (.pointer (some ⟨K.mb, 0, none⟩)), mV (.pointer (some ⟨K.mb, 4, none⟩)), mV (.slice (some ⟨g, 0, none⟩) s.heap.length c), mV (.pointer (some ⟨w2.heap.size, 1, none⟩)), mV (.int .i64 (jj : Int)), mV (.pointer (some ⟨g, jj * 3, none⟩)), mV (.pointer (some ⟨g, jj * 3 + 2, none⟩)), mV (.slice (some ⟨gf, 0, none⟩) flen cf), mV (.pointer (some ⟨b14, 2, none⟩)), mV (.int .i64 (a : Int)), mV (.pointer (some ⟨gf, a * 2, none⟩)), mV (.agg #[.int .i64 y.kind, .int .i64 y.n])] (by kernel_rfl) (by kernel_rfl) (by simp) ?_ ?_
    ·refine hopC ?_ <| hopC ?_ <| hopC ?_ <| hopC ?_ <| hopC ?_ <| hopC ?_ <| hopC ?_ <| hopC ?_ <| hopC ?_ <| hopC ?_ <| hopC ?_ <| hopC ?_ <| hopC ?_ <| hopC ?_ <| hopZ
     all_goals (intro a' W hW hoff hdep; have hbs := hW.size; have H0 := hoff 0 rfl; have H8 := hoff 8 rfl; have H6 := hoff 6 rfl; refine nE rfl ?_)
     ·simp [execOp, Act.eval, H0, go_sem, givesUpon]; exact fr1 rfl
     ·simp [execOp, Act.eval, H0, go_sem, givesUpon]; exact fr1 rfl
     ·have D47 : _ = _ := hdep 1 47 rfl; simp [execOp, Act.eval, D47, go_sem, givesUpon]; exact fr1 rfl
     ·have D48 : _ = _ := hdep 2 48 rfl; simp [execOp, Act.eval, D48, go_sem, givesUpon]; exact fr1 rfl
     ·have D49 : _ = _ := hdep 3 49 rfl; clear hoff hdep; simp [execOp, Act.eval, go_sem, givesUpon, *]; exact fr1 rfl
     ·simp [execOp, Act.eval, H8, go_sem, givesUpon]; exact fr1 rfl
     ·have D51 : _ = _ := hdep 5 51 rfl; clear hoff hdep; simp [execOp, Act.eval, go_sem, givesUpon, *]; exact fr1 rfl
     ·have D50 : _ = _ := hdep 4 50 rfl; have D52 : _ = _ := hdep 6 52 rfl; clear hoff hdep; simp [execOp, Act.eval, go_sem, givesUpon, *]; exact fr1 rfl
     ·have D53 : _ = _ := hdep 7 53 rfl; simp [execOp, Act.eval, D53, go_sem, givesUpon]; exact fr1 rfl
     ·have D54 : _ = _ := hdep 8 54 rfl; clear hoff hdep; simp [execOp, Act.eval, go_sem, givesUpon, *]; exact fr1 rfl
     ·simp [execOp, Act.eval, H6, go_sem, givesUpon]; exact fr1 rfl
     ·have D56 : _ = _ := hdep 10 56 rfl; clear hoff hdep; simp [execOp, Act.eval, go_sem, givesUpon, *]; exact fr1 rfl
     ·have D55 : _ = _ := hdep 9 55 rfl; have D57 : _ = _ := hdep 11 57 rfl; clear hoff hdep; simp [execOp, Act.eval, go_sem, givesUpon, *]; exact fr1 rfl
     ·have D58 : _ = _ := hdep 12 58 rfl; clear hoff hdep; simp [execOp, Act.eval, go_sem, givesUpon, *]; exact fr1 rfl
    intro vs WR hWR hv hne
    simp only [List.drop_succ_cons, List.drop_zero, putsR_V, putsR_0, Nat.zero_add, Nat.reduceAdd]
    simp only [Act.put, List.setIfInBounds_toArray, List.set_cons_zero, List.set_cons_succ]
    clear hv
    have hf2R := hf24.trans0 hWR
    clear KX KB KBl KO4 KV4 KM4
    go_wp2_with (go_at_call 81; refine (HPut _ hf2R).mono ?_; rintro e w6 ⟨rfl, hO6⟩)
    go_ret
    exact ⟨rfl, ((hO6.from hf2R).then hB3 hf3).then (fun _ h => .inl h) hfwO.out⟩
   ·rw [if_neg hc] at hRES
    subst hRES
    have hd1 : (oc == 1) = false := by simp [hc]
    have hd2 : (oc != 1) = true := by simp [hc]
    have hen := hen oc hc
    clear hAx hcl hc hv2 BB B3
    have hfC : Fr No w2 (w2.alloc (.cells #[.int .i64 x.kind, .int .i64 x.n] 40)) := (Fr.refl No w2).alloc _
    go_wp2_with (go_at_call 88; refine (HO _ hfC).mono ?_; rintro e w4 ⟨rfl, hf4⟩)
    go_ret
    exact ⟨rfl, (((hen _ (hfC.trans0 hf4)).from (hfC.trans0 hf4)).then hB3 hf3).then (fun _ h => .inl h) hfwO.out⟩
 ·replace hRES := hRES.out
  rw [if_neg hq] at hRES
  subst hRES
  clear hq hAt hvs
  go_wp2_with fail
  go_ret
  exact ⟨rfl, ((hT2.far E (set5one _ _ _ _ _ _ _) (fun b hb => by subst hb; exact ⟨by omega, fun hx => by have := hZ.out _ hx; omega⟩)).ends 4 (by decide) (Fr.refl No _)).then (fun _ h => .inl h) ((hfw.mono (fun _ _ h => .inl h)).trans (set5one _ _ _ _ _ _ _) (fun b hb e => by omega))⟩
end Go.Proofs.YtbalicnnlfennaaGreat
