/- The program's verifier: the field of an instruction. -/
import Derived.Test.YtbalicnnlfennaaGreatCK9
import Derived.Test.YtbalicnnlfennaaGreatCK0
namespace Go.Proofs.YtbalicnnlfennaaGreat
open Go.RowKit

theorem getGo_small {p : Plan} {k : Int} {m : Str} : ∀ (F : List (Ref × Fld)) (i : Nat), (∀ x ∈ F, x.1.name.size ≤ maxLen ∧ x.2.kind.name.size ≤ maxLen) → (getGo p k m i F).1.of_.name.size ≤ maxLen ∧ (getGo p k m i F).1.kind.name.size ≤ maxLen
 | [], _, _ => ⟨Nat.zero_le _, Nat.zero_le _⟩
 | x :: xs, i, h => by
  rw [getGo]
  split
  ·split
   ·exact h x (by simp)
   ·exact ⟨Nat.zero_le _, Nat.zero_le _⟩
  ·exact getGo_small xs (i + 1) (fun y hy => h y (by simp [hy]))
theorem getB_small {p : Plan} (hp : lodB p = true) (k : Int) (s m : Str) : (getB p k s m).1.of_.name.size ≤ maxLen ∧ (getB p k s m).1.kind.name.size ≤ maxLen := by
 unfold getB getG
 split
 ·refine getGo_small _ _ (fun x hx => ?_)
  have hall : AllHere p (chainK p (linkB p k s m).1).reverse := fun x hx => chainK_here hp _ x (by simpa using hx)
  obtain ⟨h1, h2⟩ := fldsOf_mem hx
  obtain ⟨h3, _, _, hh⟩ := hall _ h1
  exact ⟨h3, (fld_small hp hh _ h2).2⟩
 ·exact ⟨Nat.zero_le _, Nat.zero_le _⟩
section
variable {K : LkP} {n : Nat} {Z : Nat → Prop} {j : Int} {f : Frm} {vl vs : Value} {w w' : World}
theorem LkS.got (h : LkS K n Z j f vl vs w) (E : LkE K) {n' : Nat} (hf : Fr (fun b => b = K.bl) w w') (hl : Lg w' K.l K.bl n' K.p) : LkS K n' Z j f vl vs w' where
 anchor := h.anchor.late hf (fun b hb => .inl hb)
 lg := hl
 box := h.box.keepX hf (fun hx => by have := E.bl_lt; have := h.kb; omega)
 z := fun b hb => ⟨(h.z b hb).1, Nat.lt_of_lt_of_le (h.z b hb).2 hf.size⟩
 zbl := h.zbl
 zkb := h.zkb
 kb := h.kb
 loc := h.loc.keep hf (fun q hq hx => by have := E.bl_lt; have := (h.zl q hq).2; omega)
 stk := h.stk.keep hf (fun q hq hx => by have := E.bl_lt; have := (h.zs q hq).2; omega)
 zl := h.zl
 zs := h.zs
 apart := h.apart
 ll := h.ll
 sl := h.sl
end
def FieldPost (K : LkP) (n : Nat) (Z : Nat → Prop) (j : Int) (f : Frm) (q : LFld × Int) (w : World) (e : Ending) (w' : World) : Prop :=
 if q.2 = 1 then e = .returned (lfV q.1) ∧ LkOk K n Z j f w w' else ∃ c, e = .panicked c ∧ LkNo K n Z j c w w'
def errT (c : Int) (v : Value) : Prop := (c = 1 ∧ v = .nilIface) ∨ (c ≠ 1 ∧ ∃ b, v = .iface 145 (.pointer (some b)))
theorem ErrV.t {c : Int} {v : Value} {w : World} (h : ErrV c v w) : errT c v := by
 rcases h with ⟨h1, h2⟩ | ⟨h1, b, h2, _⟩
 ·exact .inl ⟨h1, h2⟩
 ·exact .inr ⟨h1, _, h2⟩
def GotC (K : LkP) (n : Nat) (a : World) : World → Prop := fun W => Fr (fun b => b = K.bl) a W ∧ Lg W K.l K.bl n K.p
theorem GotC.to {K : LkP} {n : Nat} {a W W' : World} (h : GotC K n a W) (hf : Fr No W W') : GotC K n a W' := ⟨h.1.trans0 hf, h.2.keep hf⟩
def gotV (q : LFld × Int) : Value → World → Prop := fun v _ => ∃ ev, v = .tuple #[lfV q.1, ev] ∧ errT q.2 ev
theorem gotV_mono (q : LFld × Int) : MonP (gotV q) := fun _ _ _ h _ => h
def errP (c : Int) : Value → World → Prop := fun v _ => ∃ x, v = x ∧ errT c x
theorem errP_mono (c : Int) : MonP (errP c) := fun _ _ _ h _ => h

set_option maxRecDepth 100000 in
set_option maxHeartbeats 8000000 in
theorem field_ok (K : LkP) (E : LkE K) (n : Nat) (Z : Nat → Prop) (j : Int) (f : Frm) (vl vs : Value) (w : World) (h : LkS K n Z j f vl vs w) (hj : 0 ≤ j) (hj2 : j < 1000) (i : Ins) (h1 : i.name.size ≤ maxLen) (h2 : i.member.size ≤ maxLen) (hn : n < 999999) :
  Calls Tryz.prog 126 #[.pointer (some ⟨K.kb, 0, none⟩), .agg #[.int .i64 i.op, .int .i64 i.a, .string i.name, .string i.member]] w (FieldPost K (n + 2) Z j f (getB K.p K.k i.name i.member) w) := by
 obtain ⟨wA, hwA⟩ : ∃ wA, wA = ((w.alloc (.cells #[.int .i64 i.op, .int .i64 i.a, .string i.name, .string i.member] 27)).alloc (.cells #[.int .i64 0, .string ⟨#[]⟩, .int .i64 0, .int .i64 0, .string ⟨#[]⟩] 154)) := ⟨_, rfl⟩
 have hfA : Fr No w wA := hwA ▸ frc
 have B0 := (hwA ▸ bxc : Bx wA w.heap.size 27 #[.int .i64 i.op, .int .i64 i.a, .string i.name, .string i.member])
 have B1 := (hwA ▸ bxc : Bx wA (w.heap.size + 1) 154 #[.int .i64 0, .string ⟨#[]⟩, .int .i64 0, .int .i64 0, .string ⟨#[]⟩])
 have hA := h.keep E hfA
 have hbl := E.bl_lt
 have han := h.anchor.size
 have HG := fun W (hW : Fr No wA W) => get_ok K.l K.bl n K.p K.k i.name i.member W ((hA.keep E hW).lg) h1 h2 hn
 unfold GetPost at HG
 generalize getB K.p K.k i.name i.member = q at *
 obtain ⟨G, hG, hGs, KC⟩ : ∃ G : World → Prop, (∀ W, (Fr No wA W ∨ GotC K (n + 2) wA W) → G W) ∧ (∀ W, G W → wA.heap.size ≤ W.heap.size) ∧
   (∀ W, G W → W.cell? ⟨K.kb, 0, none⟩ = some (.pointer (some ⟨K.l, 0, none⟩)) ∧ W.cell? ⟨K.kb, 1, none⟩ = some (.int .i64 K.k) ∧ K.kb < W.heap.size ∧ W.cell? ⟨w.heap.size, 2, none⟩ = some (.string i.name) ∧ W.cell? ⟨w.heap.size, 3, none⟩ = some (.string i.member) ∧ w.heap.size < W.heap.size) := by
  have hall : ∀ W (X : Nat → Prop), Fr X wA W → (∀ b, X b → b = K.bl) → W.cell? ⟨K.kb, 0, none⟩ = some (.pointer (some ⟨K.l, 0, none⟩)) ∧ W.cell? ⟨K.kb, 1, none⟩ = some (.int .i64 K.k) ∧ K.kb < W.heap.size ∧ W.cell? ⟨w.heap.size, 2, none⟩ = some (.string i.name) ∧ W.cell? ⟨w.heap.size, 3, none⟩ = some (.string i.member) ∧ w.heap.size < W.heap.size := fun W X hW hX => by
   have hb := hA.box.keepX hW (fun hx => by have := hX _ hx; have := hA.kb; omega)
   have h0 := B0.keepX hW (fun hx => by have := hX _ hx; omega)
   exact ⟨hb.cell 0, hb.cell 1, hb.lt, h0.cell 2, h0.cell 3, h0.lt⟩
  refine ⟨fun W => Fr No wA W ∨ GotC K (n + 2) wA W, fun _ h => h, fun W hW => ?_, fun W hW => ?_⟩
  ·rcases hW with hW | ⟨hW, _⟩ <;> exact hW.size
  ·rcases hW with hW | ⟨hW, _⟩
   ·exact hall W No hW (fun _ h => h.elim)
   ·exact hall W _ hW (fun _ h => h)
 replace h := Lib.hid h
 replace hA := Lib.hid hA
 go_enter Tryz.func126, Tryz.ntmps126
 go_wp2_with fail
 rw [← hwA]
 replace hwA := Lib.hid hwA
 refine wp_region_mowR 17 23 [mV (.pointer (some ⟨K.kb, 0, none⟩)), mV (.pointer (some ⟨K.kb, 0, none⟩)), mV (.pointer (some ⟨K.kb, 0, none⟩)), mV (.pointer (some ⟨K.l, 0, none⟩)), mV (.pointer (some ⟨K.kb, 0, none⟩)), mV (.pointer (some ⟨K.kb, 0, none⟩)), mV (.pointer (some ⟨K.kb, 1, none⟩)), mV (.int .i64 K.k), mV (.pointer (some ⟨w.heap.size, 2, none⟩)), mV (.string i.name), mV (.pointer (some ⟨w.heap.size, 3, none⟩)), mV (.string i.member), mC (gotV q) (gotV_mono q), mC (gotV q) (gotV_mono q), mV (lfV q.1), mE (mC (errP q.2) (errP_mono q.2)), mB 154 (#[.int .i64 0, .string ⟨#[]⟩, .int .i64 0, .int .i64 0, .string ⟨#[]⟩]) wA.heap.size] 12 (fun _ _ => False) (GotC K (n + 2) wA) (Fr (fun b => b = K.bl)) (by kernel_rfl) (by kernel_rfl) (by simp) (fun W W' h hf => h.to hf) ?_ ?_ ?_ ?_ ?_
 ·exact fun v W W' hs => hSV <| hSV <| hSV <| hSV <| hSV <| hSV <| hSV <| hSV <| hSV <| hSV <| hSV <| hSV <| hopC (fun _ h => by first | exact h | (obtain ⟨b, g1, g2, g3⟩ := h; exact ⟨b, g1, g2.keepX hs (by have := hfA.size; omega), g3⟩)) <| hSV <| hopC (fun _ h => by first | exact h | (obtain ⟨b, g1, g2, g3⟩ := h; exact ⟨b, g1, g2.keepX hs (by have := hfA.size; omega), g3⟩)) <| hopC (fun _ h => by first | exact h | (obtain ⟨b, g1, g2, g3⟩ := h; exact ⟨b, g1, g2.keepX hs (by have := hfA.size; omega), g3⟩)) <| hopZ
 ·refine hopC ?_ <| hopC ?_ <| hopC ?_ <| hopC ?_ <| hopC ?_ <| hopC ?_ <| hopC ?_ <| hopC ?_ <| hopC ?_ <| hopC ?_ <| hopC ?_ <| hopC ?_ <| hopC ?_ <| hopC ?_ <| hopC ?_ <| hopC ?_ <| hopZ
  all_goals (intro a' W hW hoff hdep; replace hW := hG _ hW; have hbs := hGs _ hW; have H0 := hoff 0 rfl; have H3 := hoff 3 rfl)
  ·refine nE rfl ?_; simp [execOp, Act.eval, H0, go_sem, givesUpon]; exact fr1 rfl
  ·have D8 : _ = _ := hdep 0 8 rfl; refine nE rfl ?_; simp [execOp, Act.eval, D8, go_sem, givesUpon]; exact fr1 rfl
  ·have D9 : _ = _ := hdep 1 9 rfl; refine nE rfl ?_; simp [execOp, Act.eval, D9, go_sem, givesUpon]; exact fr1 rfl
  ·have D10 : _ = _ := hdep 2 10 rfl; refine nE rfl ?_; clear hoff hdep; simp [execOp, Act.eval, go_sem, givesUpon, *]; exact fr1 rfl
  ·refine nE rfl ?_; simp [execOp, Act.eval, H0, go_sem, givesUpon]; exact fr1 rfl
  ·have D12 : _ = _ := hdep 4 12 rfl; refine nE rfl ?_; simp [execOp, Act.eval, D12, go_sem, givesUpon]; exact fr1 rfl
  ·have D13 : _ = _ := hdep 5 13 rfl; refine nE rfl ?_; simp [execOp, Act.eval, D13, go_sem, givesUpon]; exact fr1 rfl
  ·have D14 : _ = _ := hdep 6 14 rfl; refine nE rfl ?_; clear hoff hdep; simp [execOp, Act.eval, go_sem, givesUpon, *]; exact fr1 rfl
  ·refine nE rfl ?_; simp [execOp, Act.eval, H3, go_sem, givesUpon]; exact fr1 rfl
  ·have D16 : _ = _ := hdep 8 16 rfl; refine nE rfl ?_; clear hoff hdep; simp [execOp, Act.eval, go_sem, givesUpon, *]; exact fr1 rfl
  ·refine nE rfl ?_; simp [execOp, Act.eval, H3, go_sem, givesUpon]; exact fr1 rfl
  ·have D18 : _ = _ := hdep 10 18 rfl; refine nE rfl ?_; clear hoff hdep; simp [execOp, Act.eval, go_sem, givesUpon, *]; exact fr1 rfl
  ·obtain ⟨ev, D20, he⟩ : (gotV q) _ W := hdep 12 20 rfl; refine nE rfl ?_; simp [execOp, Act.eval, D20, go_sem, givesUpon]; exact ⟨Fr.refl _ _, _, rfl, he⟩
  ·obtain ⟨ev, D7, he⟩ : (gotV q) _ W := hdep 13 7 rfl; refine nE rfl ?_; simp [execOp, Act.eval, D7, go_sem, givesUpon]; exact fr1 rfl
  ·obtain ⟨ev, D7, he⟩ : (gotV q) _ W := hdep 13 7 rfl; exact yE rfl ⟨ev, fun W => by simp [execOp, Act.eval, D7, go_sem], ⟨_, rfl, he⟩, rfl⟩
  ·refine nE rfl ?_; simp [execOp, go_sem, givesUpon]; exact ⟨(Fr.refl _ _).alloc _, ⟨_, rfl, Bx.new_ rfl, hbs⟩, Nat.le_refl _⟩
 ·intro o r ho hr a' W hW hoff hdep
  have hbs := hW.size
  cases ho; cases hr
  have D11 : _ = _ := hdep 3 11 rfl
  have D15 : _ = _ := hdep 7 15 rfl
  have D17 : _ = _ := hdep 9 17 rfl
  have D19 : _ = _ := hdep 11 19 rfl
  simp [Act.eval, D11, D15, D17, D19, go_sem, givesUponN]
  exact (HG _ hW).mono (fun e w' h => by obtain ⟨ev, g1, g2, g3, g4⟩ := h; exact ⟨_, g1, ⟨hW.of0.same g3, g4⟩, g3, ev, rfl, g2.t⟩)
 ·exact fun _ _ _ _ h => h.elim
 intro vs WR hWR hv hne
 replace hWR := hWR.resolve_left (fun h => absurd h.1 (by decide))
 obtain ⟨evR12, e12, heR12⟩ := hv 12 (by omega)
 obtain ⟨evR13, e13, heR13⟩ := hv 13 (by omega)
 obtain ⟨xR15, e15, heR15⟩ := hv 15 (by omega)
 obtain ⟨b16, e16, hb16, hl16⟩ := hv 16 (by omega)
 simp only [List.drop_succ_cons, List.drop_zero, putsR_B, putsR_C, putsR_EC, putsR_V, putsR_0, Nat.zero_add, Nat.reduceAdd, e12, e13, e15, e16]
 simp only [Act.put, List.setIfInBounds_toArray, List.set_cons_zero, List.set_cons_succ]
 clear e12 e13 e15 e16 hv
 obtain ⟨hC1, hC2⟩ := hWR
 have hS := hA.out.got E hC1 hC2
 have hlt := fun b hz => h.out.lt (b := b) hz
 have hzb := h.out.zbl
 have hB1 := B1.keepX hC1 (by omega)
 obtain ⟨z0, z1, z2, z3, z4⟩ := hB1.c5
 have zf := fun i => hB1.frozen i
 have zl := hB1.lt
 obtain ⟨y0, y1, y2, y3, y4⟩ := hb16.c5
 have yf := fun i => hb16.frozen i
 have yl := hb16.lt
 have hne2 : b16 ≠ w.heap.size + 1 := by have := B1.lt; omega
 have hwr : w.heap.size ≤ WR.heap.size := Nat.le_trans hfA.size hC1.size
 have hwb : w.heap.size ≤ b16 := Nat.le_trans hfA.size hl16
 have hfr : Fr Z w WR := hfA.of0.same (hC1.mono (fun b _ hb => by subst hb; exact hzb))
 have hOk : ∀ W, Fr (fun b => w.heap.size ≤ b) WR W → LkOk K (n + 2) Z j f w W := fun W hW =>
  .mk (hS.far E hW (fun b hb => ⟨by omega, fun hz => by have := hlt b hz; omega⟩)) (hfr.trans hW (fun b hb hx => by omega))
 have HW := fun W (hW : Fr (fun b => w.heap.size ≤ b) WR W) => wrong_ok K (n + 2) Z j f vl _ W (hS.far E hW (fun b hb => ⟨by omega, fun hz => by have := hlt b hz; omega⟩)) hj hj2
 have hN : ∀ W, Fr (fun b => w.heap.size ≤ b) WR W → LkNo K (n + 2) Z j (wrongV j) w W := fun W hW => let h := (hS.far E hW (fun b hb => ⟨by omega, fun hz => by have := hlt b hz; omega⟩)).no; ⟨h.1, h.2.1, h.2.2.1, hfr.trans hW (fun b hb hx => by omega)⟩
 clear HG KC hne hb16 hS hB1 heR12 heR13
 rcases heR15 with ⟨hq, rfl⟩ | ⟨hq, eb, rfl⟩
 ·have hP : ∀ e W, FieldPost K (n + 2) Z j f q w e W = (e = .returned (lfV q.1) ∧ LkOk K (n + 2) Z j f w W) := fun e W => by unfold FieldPost; rw [if_pos hq]
  unfold lfV at *
  clear hq
  go_wp2
  refine bodyPost_ret (v := .agg #[.int .i64 q.1.of_.keeper, .string q.1.of_.name, .int .i64 q.1.at_, .int .i64 q.1.kind.kind, .string q.1.kind.name]) (by simp [results, Tryz.results126, go_sem, *]) rfl ?_
  rw [hP]
  exact ⟨rfl, hOk _ (set5X' (set5X' (Fr.refl _ _) hwb) (by omega))⟩
 ·have hP : ∀ e W, FieldPost K (n + 2) Z j f q w e W = (∃ c, e = .panicked c ∧ LkNo K (n + 2) Z j c w W) := fun e W => by unfold FieldPost; rw [if_neg hq]
  unfold lfV at *
  clear hq
  go_wp2_with (go_at_call 110; refine (HW _ (set5X' (Fr.refl _ _) hwb)).mono ?_; rintro e w4 ⟨rfl, rfl⟩)
  refine ⟨rfl, ?_⟩
  rw [hP]
  exact ⟨_, rfl, hN _ (set5X' (Fr.refl _ _) hwb)⟩
end Go.Proofs.YtbalicnnlfennaaGreat

namespace Go.Proofs.YtbalicnnlfennaaGreat
open Go.RowKit

set_option maxRecDepth 100000 in
set_option maxHeartbeats 2000000 in
theorem tagof_ok (k : Knd) (w : World) (hs : k.name.size ≤ maxLen) :
  Calls Tryz.prog 65 #[.agg #[.int .i64 k.kind, .string k.name]] w (Gives (.agg #[.int .i64 (tagOf k).kind, .string (tagOf k).name]) w) := by
 obtain ⟨wA, hwA⟩ : ∃ wA, wA = ((w.alloc (.cells #[.int .i64 k.kind, .string k.name] 55)).alloc (.cells #[.int .i64 0, .string ⟨#[]⟩] 24)) := ⟨_, rfl⟩
 have hfA : Fr No w wA := hwA ▸ frc
 have B0 := (hwA ▸ bxc : Bx wA w.heap.size 55 #[.int .i64 k.kind, .string k.name])
 have B1 := (hwA ▸ bxc : Bx wA (w.heap.size + 1) 24 #[.int .i64 0, .string ⟨#[]⟩])
 have HK := knd_ok k wA hs
 have hV : Hid (tagOf k = if kndB k = true then ⟨k.kind, k.name⟩ else noT) := rfl
 generalize tagOf k = t at *
 generalize kndB k = b at *
 obtain ⟨kk, kn⟩ := k
 dsimp only at *
 go_enter Tryz.func65, Tryz.ntmps65
 go_wp2_with fail
 rw [← hwA]
 replace hwA := Lib.hid hwA
 refine HK.mono ?_
 rintro e w1 ⟨rfl, hf1⟩
 obtain ⟨y0, y1⟩ := (B0.keep hf1).c2
 obtain ⟨r0, r1⟩ := (B1.keep hf1).c2
 have rf := fun o => (B1.keep hf1).frozen o
 have yl := (B0.keep hf1).lt
 have rl := (B1.keep hf1).lt
 clear HK B0 B1
 cases b
 ·have hE : t = noT := by rw [hV.out]; rfl
  clear hV
  subst hE
  go_wp2
  refine bodyPost_ret (v := .agg #[.int .i64 0, .string ⟨#[]⟩]) (by simp [results, Tryz.results65, go_sem, *]) rfl ?_
  exact .mk rfl frc
 ·have hE : t = ⟨kk, kn⟩ := by rw [hV.out]; rfl
  clear hV
  subst hE
  go_wp2
  refine bodyPost_ret (v := .agg #[.int .i64 kk, .string kn]) (by simp [results, Tryz.results65, go_sem, *]) rfl ?_
  exact .mk rfl frc

end Go.Proofs.YtbalicnnlfennaaGreat

namespace Go.Proofs.YtbalicnnlfennaaGreat
open Go.RowKit

theorem tagOf_small {k : Knd} (h : k.name.size ≤ maxLen) : (tagOf k).name.size ≤ maxLen := by
 unfold tagOf
 split
 ·exact h
 ·exact Nat.zero_le _
set_option maxRecDepth 100000 in
set_option maxHeartbeats 2000000 in
theorem numTag_ok (w : World) : Calls Tryz.prog 123 #[] w (Gives (.agg #[.int .i64 1, .string ⟨#[]⟩]) w) := by
 go_enter Tryz.func123, Tryz.ntmps123
 go_wp2
 refine bodyPost_ret (v := .agg #[.int .i64 1, .string ⟨#[]⟩]) (by simp [results, Tryz.results123, go_sem]) rfl ?_
 exact .mk rfl frc
set_option maxRecDepth 100000 in
set_option maxHeartbeats 2000000 in
theorem classTag_ok (s : Str) (w : World) : Calls Tryz.prog 64 #[.string s] w (Gives (.agg #[.int .i64 2, .string s]) w) := by
 go_enter Tryz.func64, Tryz.ntmps64
 go_wp2
 refine bodyPost_ret (v := .agg #[.int .i64 2, .string s]) (by simp [results, Tryz.results64, go_sem]) rfl ?_
 exact .mk rfl frc

set_option maxRecDepth 100000 in
set_option maxHeartbeats 4000000 in
theorem lookNum_ok (K : LkP) (E : LkE K) (n : Nat) (Z0 : Nat → Prop) (j : Int) (f : Frm) (vl vs : Value) (w : World) (h : LkS K n Z0 j f vl vs w) (hj : 0 ≤ j) (hj2 : j < 1000) (i : Ins) (_ : i.name.size ≤ maxLen) :
  Calls Tryz.prog 93 #[.pointer (some ⟨K.kb, 0, none⟩), .agg #[.int .i64 i.op, .int .i64 i.a, .string i.name, .string i.member]] w (LkPost K n Z0 j ((pushF K.m.stack f.stack numT).map (⟨f.locals, ·⟩)) w) := by
 obtain ⟨wA, hwA⟩ : ∃ wA, wA = (w.alloc (.cells #[.int .i64 i.op, .int .i64 i.a, .string i.name, .string i.member] 27)) := ⟨_, rfl⟩
 have hfA : Fr No w wA := hwA ▸ frc
 have B0 := (hwA ▸ bxc : Bx wA w.heap.size 27 #[.int .i64 i.op, .int .i64 i.a, .string i.name, .string i.member])
 have hZ0 : ¬ Z0 w.heap.size := fun hz => by have := h.lt hz; omega
 have hkl := h.lt h.zkb
 have hS0 := Lib.hid (h.keep E hfA)
 obtain ⟨_, _, c4, c5, _, _, _, _, _, _, _, _⟩ := h.cells w (Fr.refl _ _)
 have hz0 : ∀ b, Z0 b → Z0 b := fun _ h => h
 have hy0 : ∀ b, Z0 b → Z0 b ∨ wA.heap.size ≤ b := fun _ h => .inl h
 have hf0 : Fr Z0 wA wA := Fr.refl _ _
 have hw0 : Fr No wA (w.alloc (.cells #[.int .i64 i.op, .int .i64 i.a, .string i.name, .string i.member] 27)) := by rw [hwA]; exact Fr.refl _ _
 clear h
 cases g1 : pushF K.m.stack f.stack numT with
 | none =>
  simp only [Option.map_none]
  go_enter Tryz.func93, Tryz.ntmps93
  go_wp2_with (first | (go_at_call 122; refine (put_ok K E n Z0 j f _ _ _ (hS0.out.keep E frc) hj hj2 numT (Nat.zero_le _)).mono ?_; simp only [g1, Option.map_none]; rintro e wN ⟨c, rfl, hN⟩) | (go_at_call 123; refine (numTag_ok _).mono ?_; rintro e w' ⟨rfl, hg⟩) | (go_at_call 64; refine (classTag_ok _ _).mono ?_; rintro e w' ⟨rfl, hg⟩) | (go_at_call 65; refine (tagof_ok K.m.ret _ E.ret).mono ?_; rintro e w' ⟨rfl, hg⟩))
  exact ⟨rfl, c, rfl, (LkNo.then hy0 hf0 (hN.from frc)).from hfA⟩
 | some s1 =>
  simp only [Option.map_some]
  go_enter Tryz.func93, Tryz.ntmps93
  go_wp2_with (first | (go_at_call 122; refine (put_ok K E n Z0 j f _ _ _ (hS0.out.keep E frc) hj hj2 numT (Nat.zero_le _)).mono ?_; simp only [g1, Option.map_some]; rintro e w1 ⟨rfl, hOk⟩; obtain ⟨Z1, vl1, vs1, hS1, hz1, hy1, hf1⟩ := LkOk.then hz0 hy0 hf0 (hOk.from frc); clear hOk; replace hS1 := Lib.hid hS1; have hB := B0.keepX hf1 hZ0; obtain ⟨p0, p1, p2, p3⟩ := hB.c4; have pl := hB.lt; have hw1 : Fr No w1 w1 := Fr.refl _ _) | (go_at_call 123; refine (numTag_ok _).mono ?_; rintro e w' ⟨rfl, hg⟩) | (go_at_call 64; refine (classTag_ok _ _).mono ?_; rintro e w' ⟨rfl, hg⟩) | (go_at_call 65; refine (tagof_ok K.m.ret _ E.ret).mono ?_; rintro e w' ⟨rfl, hg⟩))
  go_end0
  exact ⟨rfl, (show LkOk K n Z0 j ⟨f.locals, s1⟩ wA w1 from ⟨Z1, vl1, vs1, hS1.out, hz1, hy1, hf1⟩).from hfA⟩

set_option maxRecDepth 100000 in
set_option maxHeartbeats 4000000 in
theorem lookNew_ok (K : LkP) (E : LkE K) (n : Nat) (Z0 : Nat → Prop) (j : Int) (f : Frm) (vl vs : Value) (w : World) (h : LkS K n Z0 j f vl vs w) (hj : 0 ≤ j) (hj2 : j < 1000) (i : Ins) (h1 : i.name.size ≤ maxLen) :
  Calls Tryz.prog 98 #[.pointer (some ⟨K.kb, 0, none⟩), .agg #[.int .i64 i.op, .int .i64 i.a, .string i.name, .string i.member]] w (LkPost K n Z0 j ((pushF K.m.stack f.stack (clsT i.name)).map (⟨f.locals, ·⟩)) w) := by
 obtain ⟨wA, hwA⟩ : ∃ wA, wA = (w.alloc (.cells #[.int .i64 i.op, .int .i64 i.a, .string i.name, .string i.member] 27)) := ⟨_, rfl⟩
 have hfA : Fr No w wA := hwA ▸ frc
 have B0 := (hwA ▸ bxc : Bx wA w.heap.size 27 #[.int .i64 i.op, .int .i64 i.a, .string i.name, .string i.member])
 have hZ0 : ¬ Z0 w.heap.size := fun hz => by have := h.lt hz; omega
 have hkl := h.lt h.zkb
 have hS0 := Lib.hid (h.keep E hfA)
 obtain ⟨_, _, c4, c5, _, _, _, _, _, _, _, _⟩ := h.cells w (Fr.refl _ _)
 have hz0 : ∀ b, Z0 b → Z0 b := fun _ h => h
 have hy0 : ∀ b, Z0 b → Z0 b ∨ wA.heap.size ≤ b := fun _ h => .inl h
 have hf0 : Fr Z0 wA wA := Fr.refl _ _
 have hw0 : Fr No wA (w.alloc (.cells #[.int .i64 i.op, .int .i64 i.a, .string i.name, .string i.member] 27)) := by rw [hwA]; exact Fr.refl _ _
 clear h
 cases g1 : pushF K.m.stack f.stack (clsT i.name) with
 | none =>
  simp only [Option.map_none]
  go_enter Tryz.func98, Tryz.ntmps98
  go_wp2_with (first | (go_at_call 122; refine (put_ok K E n Z0 j f _ _ _ (hS0.out.keep E frc) hj hj2 (clsT i.name) h1).mono ?_; simp only [g1, Option.map_none]; rintro e wN ⟨c, rfl, hN⟩) | (go_at_call 123; refine (numTag_ok _).mono ?_; rintro e w' ⟨rfl, hg⟩) | (go_at_call 64; refine (classTag_ok _ _).mono ?_; rintro e w' ⟨rfl, hg⟩) | (go_at_call 65; refine (tagof_ok K.m.ret _ E.ret).mono ?_; rintro e w' ⟨rfl, hg⟩))
  exact ⟨rfl, c, rfl, (LkNo.then hy0 hf0 (hN.from frc)).from hfA⟩
 | some s1 =>
  simp only [Option.map_some]
  go_enter Tryz.func98, Tryz.ntmps98
  go_wp2_with (first | (go_at_call 122; refine (put_ok K E n Z0 j f _ _ _ (hS0.out.keep E frc) hj hj2 (clsT i.name) h1).mono ?_; simp only [g1, Option.map_some]; rintro e w1 ⟨rfl, hOk⟩; obtain ⟨Z1, vl1, vs1, hS1, hz1, hy1, hf1⟩ := LkOk.then hz0 hy0 hf0 (hOk.from frc); clear hOk; replace hS1 := Lib.hid hS1; have hB := B0.keepX hf1 hZ0; obtain ⟨p0, p1, p2, p3⟩ := hB.c4; have pl := hB.lt; have hw1 : Fr No w1 w1 := Fr.refl _ _) | (go_at_call 123; refine (numTag_ok _).mono ?_; rintro e w' ⟨rfl, hg⟩) | (go_at_call 64; refine (classTag_ok _ _).mono ?_; rintro e w' ⟨rfl, hg⟩) | (go_at_call 65; refine (tagof_ok K.m.ret _ E.ret).mono ?_; rintro e w' ⟨rfl, hg⟩))
  go_end0
  exact ⟨rfl, (show LkOk K n Z0 j ⟨f.locals, s1⟩ wA w1 from ⟨Z1, vl1, vs1, hS1.out, hz1, hy1, hf1⟩).from hfA⟩

set_option maxRecDepth 100000 in
set_option maxHeartbeats 4000000 in
theorem lookRet_ok (K : LkP) (E : LkE K) (n : Nat) (Z0 : Nat → Prop) (j : Int) (f : Frm) (vl vs : Value) (w : World) (h : LkS K n Z0 j f vl vs w) (hj : 0 ≤ j) (hj2 : j < 1000) (i : Ins) (_ : i.name.size ≤ maxLen) :
  Calls Tryz.prog 102 #[.pointer (some ⟨K.kb, 0, none⟩), .agg #[.int .i64 i.op, .int .i64 i.a, .string i.name, .string i.member]] w (LkPost K n Z0 j ((popF K.p K.k f.stack (tagOf K.m.ret)).map (⟨f.locals, ·⟩)) w) := by
 obtain ⟨wA, hwA⟩ : ∃ wA, wA = (w.alloc (.cells #[.int .i64 i.op, .int .i64 i.a, .string i.name, .string i.member] 27)) := ⟨_, rfl⟩
 have hfA : Fr No w wA := hwA ▸ frc
 have B0 := (hwA ▸ bxc : Bx wA w.heap.size 27 #[.int .i64 i.op, .int .i64 i.a, .string i.name, .string i.member])
 have hZ0 : ¬ Z0 w.heap.size := fun hz => by have := h.lt hz; omega
 have hkl := h.lt h.zkb
 have hS0 := Lib.hid (h.keep E hfA)
 obtain ⟨_, _, c4, c5, _, _, _, _, _, _, _, _⟩ := h.cells w (Fr.refl _ _)
 have hz0 : ∀ b, Z0 b → Z0 b := fun _ h => h
 have hy0 : ∀ b, Z0 b → Z0 b ∨ wA.heap.size ≤ b := fun _ h => .inl h
 have hf0 : Fr Z0 wA wA := Fr.refl _ _
 have hw0 : Fr No wA (w.alloc (.cells #[.int .i64 i.op, .int .i64 i.a, .string i.name, .string i.member] 27)) := by rw [hwA]; exact Fr.refl _ _
 clear h
 cases g1 : popF K.p K.k f.stack (tagOf K.m.ret) with
 | none =>
  simp only [Option.map_none]
  go_enter Tryz.func102, Tryz.ntmps102
  go_wp2_with (first | (go_at_call 125; refine (takeAs_ok K E n Z0 j f _ _ _ (hS0.out.keep E frc) hj hj2 (tagOf K.m.ret) (tagOf_small E.ret)).mono ?_; simp only [g1, Option.map_none]; rintro e wN ⟨c, rfl, hN⟩) | (go_at_call 123; refine (numTag_ok _).mono ?_; rintro e w' ⟨rfl, hg⟩) | (go_at_call 64; refine (classTag_ok _ _).mono ?_; rintro e w' ⟨rfl, hg⟩) | (go_at_call 65; refine (tagof_ok K.m.ret _ E.ret).mono ?_; rintro e w' ⟨rfl, hg⟩))
  exact ⟨rfl, c, rfl, (LkNo.then hy0 hf0 (hN.from frc)).from hfA⟩
 | some s1 =>
  simp only [Option.map_some]
  go_enter Tryz.func102, Tryz.ntmps102
  go_wp2_with (first | (go_at_call 125; refine (takeAs_ok K E n Z0 j f _ _ _ (hS0.out.keep E frc) hj hj2 (tagOf K.m.ret) (tagOf_small E.ret)).mono ?_; simp only [g1, Option.map_some]; rintro e w1 ⟨rfl, hOk⟩; obtain ⟨Z1, vl1, vs1, hS1, hz1, hy1, hf1⟩ := LkOk.then hz0 hy0 hf0 (hOk.from frc); clear hOk; replace hS1 := Lib.hid hS1; have hB := B0.keepX hf1 hZ0; obtain ⟨p0, p1, p2, p3⟩ := hB.c4; have pl := hB.lt; have hw1 : Fr No w1 w1 := Fr.refl _ _) | (go_at_call 123; refine (numTag_ok _).mono ?_; rintro e w' ⟨rfl, hg⟩) | (go_at_call 64; refine (classTag_ok _ _).mono ?_; rintro e w' ⟨rfl, hg⟩) | (go_at_call 65; refine (tagof_ok K.m.ret _ E.ret).mono ?_; rintro e w' ⟨rfl, hg⟩))
  go_end0
  exact ⟨rfl, (show LkOk K n Z0 j ⟨f.locals, s1⟩ wA w1 from ⟨Z1, vl1, vs1, hS1.out, hz1, hy1, hf1⟩).from hfA⟩

set_option maxRecDepth 100000 in
set_option maxHeartbeats 4000000 in
theorem lookCast_ok (K : LkP) (E : LkE K) (n : Nat) (Z0 : Nat → Prop) (j : Int) (f : Frm) (vl vs : Value) (w : World) (h : LkS K n Z0 j f vl vs w) (hj : 0 ≤ j) (hj2 : j < 1000) (i : Ins) (h1 : i.name.size ≤ maxLen) :
  Calls Tryz.prog 107 #[.pointer (some ⟨K.kb, 0, none⟩), .agg #[.int .i64 i.op, .int .i64 i.a, .string i.name, .string i.member]] w (LkPost K n Z0 j (((popR f.stack).bind fun s => pushF K.m.stack s (clsT i.name)).map (⟨f.locals, ·⟩)) w) := by
 obtain ⟨wA, hwA⟩ : ∃ wA, wA = (w.alloc (.cells #[.int .i64 i.op, .int .i64 i.a, .string i.name, .string i.member] 27)) := ⟨_, rfl⟩
 have hfA : Fr No w wA := hwA ▸ frc
 have B0 := (hwA ▸ bxc : Bx wA w.heap.size 27 #[.int .i64 i.op, .int .i64 i.a, .string i.name, .string i.member])
 have hZ0 : ¬ Z0 w.heap.size := fun hz => by have := h.lt hz; omega
 have hkl := h.lt h.zkb
 have hS0 := Lib.hid (h.keep E hfA)
 obtain ⟨_, _, c4, c5, _, _, _, _, _, _, _, _⟩ := h.cells w (Fr.refl _ _)
 have hz0 : ∀ b, Z0 b → Z0 b := fun _ h => h
 have hy0 : ∀ b, Z0 b → Z0 b ∨ wA.heap.size ≤ b := fun _ h => .inl h
 have hf0 : Fr Z0 wA wA := Fr.refl _ _
 have hw0 : Fr No wA (w.alloc (.cells #[.int .i64 i.op, .int .i64 i.a, .string i.name, .string i.member] 27)) := by rw [hwA]; exact Fr.refl _ _
 clear h
 cases g1 : popR f.stack with
 | none =>
  simp only [Option.bind_none, Option.map_none]
  go_enter Tryz.func107, Tryz.ntmps107
  go_wp2_with (first | (go_at_call 129; refine (takeObject_ok K E n Z0 j f _ _ _ (hS0.out.keep E frc) hj hj2).mono ?_; simp only [g1, Option.map_none]; rintro e wN ⟨c, rfl, hN⟩) | (go_at_call 123; refine (numTag_ok _).mono ?_; rintro e w' ⟨rfl, hg⟩) | (go_at_call 64; refine (classTag_ok _ _).mono ?_; rintro e w' ⟨rfl, hg⟩) | (go_at_call 65; refine (tagof_ok K.m.ret _ E.ret).mono ?_; rintro e w' ⟨rfl, hg⟩))
  exact ⟨rfl, c, rfl, (LkNo.then hy0 hf0 (hN.from frc)).from hfA⟩
 | some s1 =>
  cases g2 : pushF K.m.stack s1 (clsT i.name) with
  | none =>
   simp only [g2, Option.bind_some, Option.map_none]
   go_enter Tryz.func107, Tryz.ntmps107
   go_wp2_with (first | (go_at_call 122; refine (put_ok K E n Z1 j ⟨f.locals, s1⟩ _ _ _ (hS1.out.keep E frc) hj hj2 (clsT i.name) h1).mono ?_; simp only [g2, Option.map_none]; rintro e wN ⟨c, rfl, hN⟩) | (go_at_call 129; refine (takeObject_ok K E n Z0 j f _ _ _ (hS0.out.keep E frc) hj hj2).mono ?_; simp only [g1, Option.map_some]; rintro e w1 ⟨rfl, hOk⟩; obtain ⟨Z1, vl1, vs1, hS1, hz1, hy1, hf1⟩ := LkOk.then hz0 hy0 hf0 (hOk.from frc); clear hOk; replace hS1 := Lib.hid hS1; have hB := B0.keepX hf1 hZ0; obtain ⟨p0, p1, p2, p3⟩ := hB.c4; have pl := hB.lt; have hw1 : Fr No w1 w1 := Fr.refl _ _) | (go_at_call 123; refine (numTag_ok _).mono ?_; rintro e w' ⟨rfl, hg⟩) | (go_at_call 64; refine (classTag_ok _ _).mono ?_; rintro e w' ⟨rfl, hg⟩) | (go_at_call 65; refine (tagof_ok K.m.ret _ E.ret).mono ?_; rintro e w' ⟨rfl, hg⟩))
   exact ⟨rfl, c, rfl, (LkNo.then hy1 hf1 (hN.from frc)).from hfA⟩
  | some s2 =>
   simp only [g2, Option.bind_some, Option.map_some]
   go_enter Tryz.func107, Tryz.ntmps107
   go_wp2_with (first | (go_at_call 122; refine (put_ok K E n Z1 j ⟨f.locals, s1⟩ _ _ _ (hS1.out.keep E frc) hj hj2 (clsT i.name) h1).mono ?_; simp only [g2, Option.map_some]; rintro e w2 ⟨rfl, hOk⟩; obtain ⟨Z2, vl2, vs2, hS2, hz2, hy2, hf2⟩ := LkOk.then hz1 hy1 hf1 (hOk.from frc); clear hOk; replace hS2 := Lib.hid hS2; have hB := B0.keepX hf2 hZ0; obtain ⟨p0, p1, p2, p3⟩ := hB.c4; have pl := hB.lt; have hw2 : Fr No w2 w2 := Fr.refl _ _) | (go_at_call 129; refine (takeObject_ok K E n Z0 j f _ _ _ (hS0.out.keep E frc) hj hj2).mono ?_; simp only [g1, Option.map_some]; rintro e w1 ⟨rfl, hOk⟩; obtain ⟨Z1, vl1, vs1, hS1, hz1, hy1, hf1⟩ := LkOk.then hz0 hy0 hf0 (hOk.from frc); clear hOk; replace hS1 := Lib.hid hS1; have hB := B0.keepX hf1 hZ0; obtain ⟨p0, p1, p2, p3⟩ := hB.c4; have pl := hB.lt; have hw1 : Fr No w1 w1 := Fr.refl _ _) | (go_at_call 123; refine (numTag_ok _).mono ?_; rintro e w' ⟨rfl, hg⟩) | (go_at_call 64; refine (classTag_ok _ _).mono ?_; rintro e w' ⟨rfl, hg⟩) | (go_at_call 65; refine (tagof_ok K.m.ret _ E.ret).mono ?_; rintro e w' ⟨rfl, hg⟩))
   go_end0
   exact ⟨rfl, (show LkOk K n Z0 j ⟨f.locals, s2⟩ wA w2 from ⟨Z2, vl2, vs2, hS2.out, hz2, hy2, hf2⟩).from hfA⟩

set_option maxRecDepth 100000 in
set_option maxHeartbeats 4000000 in
theorem lookNil_ok (K : LkP) (E : LkE K) (n : Nat) (Z0 : Nat → Prop) (j : Int) (f : Frm) (vl vs : Value) (w : World) (h : LkS K n Z0 j f vl vs w) (hj : 0 ≤ j) (hj2 : j < 1000) (i : Ins) (_ : i.name.size ≤ maxLen) :
  Calls Tryz.prog 104 #[.pointer (some ⟨K.kb, 0, none⟩), .agg #[.int .i64 i.op, .int .i64 i.a, .string i.name, .string i.member]] w (LkPost K n Z0 j ((popR f.stack).bind fun s => if brB K ⟨f.locals, s⟩ i.a then some ⟨f.locals, s⟩ else none) w) := by
 obtain ⟨wA, hwA⟩ : ∃ wA, wA = (w.alloc (.cells #[.int .i64 i.op, .int .i64 i.a, .string i.name, .string i.member] 27)) := ⟨_, rfl⟩
 have hfA : Fr No w wA := hwA ▸ frc
 have B0 := (hwA ▸ bxc : Bx wA w.heap.size 27 #[.int .i64 i.op, .int .i64 i.a, .string i.name, .string i.member])
 have hZ0 : ¬ Z0 w.heap.size := fun hz => by have := h.lt hz; omega
 have hkl := h.lt h.zkb
 have hS0 := Lib.hid (h.keep E hfA)
 obtain ⟨_, _, c4, c5, _, _, _, _, _, _, _, _⟩ := h.cells w (Fr.refl _ _)
 have hz0 : ∀ b, Z0 b → Z0 b := fun _ h => h
 have hy0 : ∀ b, Z0 b → Z0 b ∨ wA.heap.size ≤ b := fun _ h => .inl h
 have hf0 : Fr Z0 wA wA := Fr.refl _ _
 have hw0 : Fr No wA (w.alloc (.cells #[.int .i64 i.op, .int .i64 i.a, .string i.name, .string i.member] 27)) := by rw [hwA]; exact Fr.refl _ _
 clear h
 cases g1 : popR f.stack with
 | none =>
  simp only [Option.bind_none]
  go_enter Tryz.func104, Tryz.ntmps104
  go_wp2_with (first | (go_at_call 129; refine (takeObject_ok K E n Z0 j f _ _ _ (hS0.out.keep E frc) hj hj2).mono ?_; simp only [g1, Option.map_none]; rintro e wN ⟨c, rfl, hN⟩) | (go_at_call 123; refine (numTag_ok _).mono ?_; rintro e w' ⟨rfl, hg⟩) | (go_at_call 64; refine (classTag_ok _ _).mono ?_; rintro e w' ⟨rfl, hg⟩) | (go_at_call 65; refine (tagof_ok K.m.ret _ E.ret).mono ?_; rintro e w' ⟨rfl, hg⟩))
  exact ⟨rfl, c, rfl, (LkNo.then hy0 hf0 (hN.from frc)).from hfA⟩
 | some s1 =>
  cases g2 : brB K ⟨f.locals, s1⟩ i.a with
  | false =>
   simp only [g2, Option.bind_some, Bool.false_eq_true, if_false]
   go_enter Tryz.func104, Tryz.ntmps104
   go_wp2_with (first | (go_at_call 128; refine (branch_ok K E n Z1 j ⟨f.locals, s1⟩ _ _ _ (hS1.out.keep E frc) hj hj2 i.a).mono ?_; simp only [g2, Bool.false_eq_true, if_false]; rintro e wN ⟨c, rfl, hN⟩) | (go_at_call 129; refine (takeObject_ok K E n Z0 j f _ _ _ (hS0.out.keep E frc) hj hj2).mono ?_; simp only [g1, Option.map_some]; rintro e w1 ⟨rfl, hOk⟩; obtain ⟨Z1, vl1, vs1, hS1, hz1, hy1, hf1⟩ := LkOk.then hz0 hy0 hf0 (hOk.from frc); clear hOk; replace hS1 := Lib.hid hS1; have hB := B0.keepX hf1 hZ0; obtain ⟨p0, p1, p2, p3⟩ := hB.c4; have pl := hB.lt; have hw1 : Fr No w1 w1 := Fr.refl _ _) | (go_at_call 123; refine (numTag_ok _).mono ?_; rintro e w' ⟨rfl, hg⟩) | (go_at_call 64; refine (classTag_ok _ _).mono ?_; rintro e w' ⟨rfl, hg⟩) | (go_at_call 65; refine (tagof_ok K.m.ret _ E.ret).mono ?_; rintro e w' ⟨rfl, hg⟩))
   exact ⟨rfl, c, rfl, (LkNo.then hy1 hf1 (hN.from frc)).from hfA⟩
  | true =>
   simp only [g2, Option.bind_some, if_true]
   go_enter Tryz.func104, Tryz.ntmps104
   go_wp2_with (first | (go_at_call 128; refine (branch_ok K E n Z1 j ⟨f.locals, s1⟩ _ _ _ (hS1.out.keep E frc) hj hj2 i.a).mono ?_; simp only [g2, if_true]; rintro e w2 ⟨rfl, hOk⟩; obtain ⟨Z2, vl2, vs2, hS2, hz2, hy2, hf2⟩ := LkOk.then hz1 hy1 hf1 (hOk.from frc); clear hOk; replace hS2 := Lib.hid hS2; have hB := B0.keepX hf2 hZ0; obtain ⟨p0, p1, p2, p3⟩ := hB.c4; have pl := hB.lt; have hw2 : Fr No w2 w2 := Fr.refl _ _) | (go_at_call 129; refine (takeObject_ok K E n Z0 j f _ _ _ (hS0.out.keep E frc) hj hj2).mono ?_; simp only [g1, Option.map_some]; rintro e w1 ⟨rfl, hOk⟩; obtain ⟨Z1, vl1, vs1, hS1, hz1, hy1, hf1⟩ := LkOk.then hz0 hy0 hf0 (hOk.from frc); clear hOk; replace hS1 := Lib.hid hS1; have hB := B0.keepX hf1 hZ0; obtain ⟨p0, p1, p2, p3⟩ := hB.c4; have pl := hB.lt; have hw1 : Fr No w1 w1 := Fr.refl _ _) | (go_at_call 123; refine (numTag_ok _).mono ?_; rintro e w' ⟨rfl, hg⟩) | (go_at_call 64; refine (classTag_ok _ _).mono ?_; rintro e w' ⟨rfl, hg⟩) | (go_at_call 65; refine (tagof_ok K.m.ret _ E.ret).mono ?_; rintro e w' ⟨rfl, hg⟩))
   go_end0
   exact ⟨rfl, (show LkOk K n Z0 j ⟨f.locals, s1⟩ wA w2 from ⟨Z2, vl2, vs2, hS2.out, hz2, hy2, hf2⟩).from hfA⟩

end Go.Proofs.YtbalicnnlfennaaGreat

namespace Go.Proofs.YtbalicnnlfennaaGreat
open Go.RowKit

theorem TagRow.get {w : World} {e : TypeId} {v : Value} {xs : List Tag} (h : TagRow w e v xs) {a : Nat} (ha : a < xs.length) : ∃ g c, v = .slice (some ⟨g, 0, none⟩) xs.length c ∧ rowBlk v = some g ∧ xs.length ≤ c ∧ c ≤ maxLen ∧
  w.cell? ⟨g, a * 2, none⟩ = some (.int .i64 xs[a].kind) ∧ w.cell? ⟨g, a * 2 + 1, none⟩ = some (.string xs[a].name) ∧ xs[a].name.size ≤ maxLen := by
 obtain ⟨h, hn⟩ := h
 obtain ⟨g, c, cur, rfl, h1, h2, _, _, _, hq⟩ := h.at_ (by omega)
 refine ⟨g, c, rfl, hq, h1, h2, ?_, ?_, hn _ (List.getElem_mem ha)⟩
 ·rw [h.cell rfl (by omega)]; exact flat_tag xs a ha 0 (by decide)
 ·rw [h.cell rfl (by omega)]; exact flat_tag xs a ha 1 (by decide)

set_option maxRecDepth 100000 in
set_option maxHeartbeats 8000000 in
theorem lookTake_ok (K : LkP) (E : LkE K) (n : Nat) (Z : Nat → Prop) (j : Int) (f : Frm) (vl vs : Value) (w : World) (h : LkS K n Z j f vl vs w) (hj : 0 ≤ j) (hj2 : j < 1000) (i : Ins) (ha0 : 0 ≤ i.a) (ha1 : i.a < K.m.locals) :
  Calls Tryz.prog 94 #[.pointer (some ⟨K.kb, 0, none⟩), .agg #[.int .i64 i.op, .int .i64 i.a, .string i.name, .string i.member]] w (LkPost K n Z j (if (f.locals.getD i.a.toNat noT).kind = 0 then none else (pushF K.m.stack f.stack (f.locals.getD i.a.toNat noT)).map (⟨f.locals, ·⟩)) w) := by
 obtain ⟨iop, ia, inm, imb⟩ := i
 dsimp only at ha0 ha1 ⊢
 obtain ⟨a, rfl⟩ : ∃ a : Nat, ia = a := ⟨ia.toNat, by omega⟩
 have ha : a < f.locals.length := by have := h.ll; omega
 have hl6 := E.locals_le
 have hx0 : f.locals.getD (a : Int).toNat noT = f.locals[a] := by simp [ha]
 rw [hx0]
 clear hx0
 obtain ⟨wA, hwA⟩ : ∃ wA, wA = (w.alloc (.cells #[.int .i64 iop, .int .i64 a, .string inm, .string imb] 27)) := ⟨_, rfl⟩
 have hfA : Fr No w wA := hwA ▸ frc
 have B0 := (hwA ▸ bxc : Bx wA w.heap.size 27 #[.int .i64 iop, .int .i64 a, .string inm, .string imb])
 have hA := h.keep E hfA
 have hkl := h.lt h.zkb
 have hll := h.ll
 obtain ⟨g, c, rfl, hq, hc1, hc2, t0, t1, hxn⟩ := hA.loc.get ha
 have KC := hA.cells
 have K0 := B0.r4
 have KT0 := cr t0
 have KT1 := cr t1
 have hlen : f.locals.length ≤ 1000 := by omega
 clear t0 t1
 generalize f.locals[a] = x at *
 replace hA := Lib.hid hA
 replace h := Lib.hid h
 replace hll := Lib.hid hll
 have HP := fun W (hW : Fr No wA W) => put_ok K E n Z j f _ vs W (hA.out.keep E hW) hj hj2 x hxn
 have HW := fun W (hW : Fr No wA W) => wrong_ok K n Z j f _ vs W (hA.out.keep E hW) hj hj2
 have hN := fun W (hW : Fr No wA W) => (((hA.out.keep E hW).no).from hW).from hfA
 have hcase : (x.kind = 0 ∧ Hid (x.kind = 0)) ∨ (¬ x.kind = 0 ∧ pushF K.m.stack f.stack x = none) ∨ ∃ s, ¬ x.kind = 0 ∧ pushF K.m.stack f.stack x = some s := by
  by_cases hk : x.kind = 0
  ·exact .inl ⟨hk, hk⟩
  ·cases hp : pushF K.m.stack f.stack x with
   | none => exact .inr (.inl ⟨hk, rfl⟩)
   | some s => exact .inr (.inr ⟨s, hk, rfl⟩)
 rcases hcase with ⟨hk, hk0⟩ | ⟨hk, hp⟩ | ⟨s, hk, hp⟩
 ·rw [if_pos hk]
  have hk2 : (x.kind == 0) = true := by simpa using hk
  replace hk := Lib.hid hk
  clear hk0
  go_enter Tryz.func94, Tryz.ntmps94
  go_wp2_with fail
  rw [← hwA]
  replace hwA := Lib.hid hwA
  refine wp_region_monR 9 13 [mV (.pointer (some ⟨K.kb, 0, none⟩)), mV (.pointer (some ⟨K.kb, 0, none⟩)), mV (.pointer (some ⟨K.kb, 11, none⟩)), mV (.slice (some ⟨g, 0, none⟩) f.locals.length c), mV (.pointer (some ⟨w.heap.size, 1, none⟩)), mV (.int .i64 a), mV (.pointer (some ⟨g, a * 2, none⟩)), mV (.agg #[.int .i64 x.kind, .string x.name]), mB 24 (#[.int .i64 0, .string ⟨#[]⟩]) wA.heap.size] (by kernel_rfl) (by kernel_rfl) (by simp) ?_ ?_
  ·refine hopC ?_ <| hopC ?_ <| hopC ?_ <| hopC ?_ <| hopC ?_ <| hopC ?_ <| hopC ?_ <| hopC ?_ <| hopC ?_ <| hopZ
   all_goals (intro a' W hW hoff hdep; have hbs := hW.size; have H0 := hoff 0 rfl; have H3 := hoff 3 rfl; refine nE rfl ?_)
   ·simp [execOp, Act.eval, H0, go_sem, givesUpon]; exact fr1 rfl
   ·have D5 : _ = _ := hdep 0 5 rfl; simp [execOp, Act.eval, D5, go_sem, givesUpon]; exact fr1 rfl
   ·have D6 : _ = _ := hdep 1 6 rfl; simp [execOp, Act.eval, D6, go_sem, givesUpon]; exact fr1 rfl
   ·have D7 : _ = _ := hdep 2 7 rfl; clear hoff hdep; simp [execOp, Act.eval, go_sem, givesUpon, *]; exact fr1 rfl
   ·simp [execOp, Act.eval, H3, go_sem, givesUpon]; exact fr1 rfl
   ·have D9 : _ = _ := hdep 4 9 rfl; clear hoff hdep; simp [execOp, Act.eval, go_sem, givesUpon, *]; exact fr1 rfl
   ·have D8 : _ = _ := hdep 3 8 rfl; have D10 : _ = _ := hdep 5 10 rfl; clear hoff hdep; simp [execOp, Act.eval, go_sem, givesUpon, *]; exact fr1 rfl
   ·have D11 : _ = _ := hdep 6 11 rfl; clear hoff hdep; simp [execOp, Act.eval, go_sem, givesUpon, *]; exact fr1 rfl
   ·simp [execOp, go_sem, givesUpon]; exact ⟨(Fr.refl _ _).alloc _, ⟨_, rfl, Bx.new_ rfl, hbs⟩, Nat.le_refl _⟩
  intro vs WR hWR hv hne
  obtain ⟨b8, e8, hb8, hl8⟩ := hv 8 (by omega)
  simp only [List.drop_succ_cons, List.drop_zero, putsR_B, putsR_V, putsR_0, Nat.zero_add, Nat.reduceAdd, e8]
  simp only [Act.put, List.setIfInBounds_toArray, List.set_cons_zero, List.set_cons_succ]
  clear e8 hv
  obtain ⟨y0, y1⟩ := hb8.c2
  have yf := fun i => hb8.frozen i
  have yl := hb8.lt
  have hwr : Fr No wA ((WR.setCell ⟨b8, 0, none⟩ (.int .i64 x.kind)).setCell ⟨b8, 1, none⟩ (.string x.name)) := (hWR.setCell (p := ⟨b8, 0, none⟩) hl8 _).setCell (p := ⟨b8, 1, none⟩) hl8 _
  clear KC K0 KT0 KT1 hb8 hne
  go_wp2_with (go_at_call 110; refine (HW _ hwr).mono ?_; rintro e w4 ⟨rfl, rfl⟩)
  exact ⟨rfl, _, rfl, hN _ hwr⟩
 ·rw [if_neg hk, hp, Option.map_none]
  have hk2 : (x.kind == 0) = false := by simpa using hk
  simp only [hp, Option.map_none] at HP
  go_enter Tryz.func94, Tryz.ntmps94
  go_wp2_with fail
  rw [← hwA]
  replace hwA := Lib.hid hwA
  refine wp_region_monR 9 13 [mV (.pointer (some ⟨K.kb, 0, none⟩)), mV (.pointer (some ⟨K.kb, 0, none⟩)), mV (.pointer (some ⟨K.kb, 11, none⟩)), mV (.slice (some ⟨g, 0, none⟩) f.locals.length c), mV (.pointer (some ⟨w.heap.size, 1, none⟩)), mV (.int .i64 a), mV (.pointer (some ⟨g, a * 2, none⟩)), mV (.agg #[.int .i64 x.kind, .string x.name]), mB 24 (#[.int .i64 0, .string ⟨#[]⟩]) wA.heap.size] (by kernel_rfl) (by kernel_rfl) (by simp) ?_ ?_
  ·refine hopC ?_ <| hopC ?_ <| hopC ?_ <| hopC ?_ <| hopC ?_ <| hopC ?_ <| hopC ?_ <| hopC ?_ <| hopC ?_ <| hopZ
   all_goals (intro a' W hW hoff hdep; have hbs := hW.size; have H0 := hoff 0 rfl; have H3 := hoff 3 rfl; refine nE rfl ?_)
   ·simp [execOp, Act.eval, H0, go_sem, givesUpon]; exact fr1 rfl
   ·have D5 : _ = _ := hdep 0 5 rfl; simp [execOp, Act.eval, D5, go_sem, givesUpon]; exact fr1 rfl
   ·have D6 : _ = _ := hdep 1 6 rfl; simp [execOp, Act.eval, D6, go_sem, givesUpon]; exact fr1 rfl
   ·have D7 : _ = _ := hdep 2 7 rfl; clear hoff hdep; simp [execOp, Act.eval, go_sem, givesUpon, *]; exact fr1 rfl
   ·simp [execOp, Act.eval, H3, go_sem, givesUpon]; exact fr1 rfl
   ·have D9 : _ = _ := hdep 4 9 rfl; clear hoff hdep; simp [execOp, Act.eval, go_sem, givesUpon, *]; exact fr1 rfl
   ·have D8 : _ = _ := hdep 3 8 rfl; have D10 : _ = _ := hdep 5 10 rfl; clear hoff hdep; simp [execOp, Act.eval, go_sem, givesUpon, *]; exact fr1 rfl
   ·have D11 : _ = _ := hdep 6 11 rfl; clear hoff hdep; simp [execOp, Act.eval, go_sem, givesUpon, *]; exact fr1 rfl
   ·simp [execOp, go_sem, givesUpon]; exact ⟨(Fr.refl _ _).alloc _, ⟨_, rfl, Bx.new_ rfl, hbs⟩, Nat.le_refl _⟩
  intro vs WR hWR hv hne
  obtain ⟨b8, e8, hb8, hl8⟩ := hv 8 (by omega)
  simp only [List.drop_succ_cons, List.drop_zero, putsR_B, putsR_V, putsR_0, Nat.zero_add, Nat.reduceAdd, e8]
  simp only [Act.put, List.setIfInBounds_toArray, List.set_cons_zero, List.set_cons_succ]
  clear e8 hv
  obtain ⟨y0, y1⟩ := hb8.c2
  have yf := fun i => hb8.frozen i
  have yl := hb8.lt
  have hwr : Fr No wA ((WR.setCell ⟨b8, 0, none⟩ (.int .i64 x.kind)).setCell ⟨b8, 1, none⟩ (.string x.name)) := (hWR.setCell (p := ⟨b8, 0, none⟩) hl8 _).setCell (p := ⟨b8, 1, none⟩) hl8 _
  clear KC K0 KT0 KT1 hb8 hne
  go_wp2_with (go_at_call 122; refine (HP _ hwr).mono ?_; rintro e w4 ⟨c, rfl, hNN⟩)
  exact ⟨rfl, c, rfl, (hNN.from hwr).from hfA⟩
 ·rw [if_neg hk, hp, Option.map_some]
  have hk2 : (x.kind == 0) = false := by simpa using hk
  simp only [hp, Option.map_some] at HP
  go_enter Tryz.func94, Tryz.ntmps94
  go_wp2_with fail
  rw [← hwA]
  replace hwA := Lib.hid hwA
  refine wp_region_monR 9 13 [mV (.pointer (some ⟨K.kb, 0, none⟩)), mV (.pointer (some ⟨K.kb, 0, none⟩)), mV (.pointer (some ⟨K.kb, 11, none⟩)), mV (.slice (some ⟨g, 0, none⟩) f.locals.length c), mV (.pointer (some ⟨w.heap.size, 1, none⟩)), mV (.int .i64 a), mV (.pointer (some ⟨g, a * 2, none⟩)), mV (.agg #[.int .i64 x.kind, .string x.name]), mB 24 (#[.int .i64 0, .string ⟨#[]⟩]) wA.heap.size] (by kernel_rfl) (by kernel_rfl) (by simp) ?_ ?_
  ·refine hopC ?_ <| hopC ?_ <| hopC ?_ <| hopC ?_ <| hopC ?_ <| hopC ?_ <| hopC ?_ <| hopC ?_ <| hopC ?_ <| hopZ
   all_goals (intro a' W hW hoff hdep; have hbs := hW.size; have H0 := hoff 0 rfl; have H3 := hoff 3 rfl; refine nE rfl ?_)
   ·simp [execOp, Act.eval, H0, go_sem, givesUpon]; exact fr1 rfl
   ·have D5 : _ = _ := hdep 0 5 rfl; simp [execOp, Act.eval, D5, go_sem, givesUpon]; exact fr1 rfl
   ·have D6 : _ = _ := hdep 1 6 rfl; simp [execOp, Act.eval, D6, go_sem, givesUpon]; exact fr1 rfl
   ·have D7 : _ = _ := hdep 2 7 rfl; clear hoff hdep; simp [execOp, Act.eval, go_sem, givesUpon, *]; exact fr1 rfl
   ·simp [execOp, Act.eval, H3, go_sem, givesUpon]; exact fr1 rfl
   ·have D9 : _ = _ := hdep 4 9 rfl; clear hoff hdep; simp [execOp, Act.eval, go_sem, givesUpon, *]; exact fr1 rfl
   ·have D8 : _ = _ := hdep 3 8 rfl; have D10 : _ = _ := hdep 5 10 rfl; clear hoff hdep; simp [execOp, Act.eval, go_sem, givesUpon, *]; exact fr1 rfl
   ·have D11 : _ = _ := hdep 6 11 rfl; clear hoff hdep; simp [execOp, Act.eval, go_sem, givesUpon, *]; exact fr1 rfl
   ·simp [execOp, go_sem, givesUpon]; exact ⟨(Fr.refl _ _).alloc _, ⟨_, rfl, Bx.new_ rfl, hbs⟩, Nat.le_refl _⟩
  intro vs WR hWR hv hne
  obtain ⟨b8, e8, hb8, hl8⟩ := hv 8 (by omega)
  simp only [List.drop_succ_cons, List.drop_zero, putsR_B, putsR_V, putsR_0, Nat.zero_add, Nat.reduceAdd, e8]
  simp only [Act.put, List.setIfInBounds_toArray, List.set_cons_zero, List.set_cons_succ]
  clear e8 hv
  obtain ⟨y0, y1⟩ := hb8.c2
  have yf := fun i => hb8.frozen i
  have yl := hb8.lt
  have hwr : Fr No wA ((WR.setCell ⟨b8, 0, none⟩ (.int .i64 x.kind)).setCell ⟨b8, 1, none⟩ (.string x.name)) := (hWR.setCell (p := ⟨b8, 0, none⟩) hl8 _).setCell (p := ⟨b8, 1, none⟩) hl8 _
  clear KC K0 KT0 KT1 hb8 hne
  go_wp2_with (go_at_call 122; refine (HP _ hwr).mono ?_; rintro e w4 ⟨rfl, hOk⟩)
  go_end0
  exact ⟨rfl, (hOk.from hwr).from hfA⟩

end Go.Proofs.YtbalicnnlfennaaGreat

namespace Go.Proofs.YtbalicnnlfennaaGreat
open Go.RowKit

set_option maxRecDepth 100000 in
set_option maxHeartbeats 8000000 in
theorem lookGet_ok (K : LkP) (E : LkE K) (n : Nat) (Z0 : Nat → Prop) (j : Int) (f : Frm) (vl vs : Value) (w : World) (h : LkS K n Z0 j f vl vs w) (hj : 0 ≤ j) (hj2 : j < 1000) (i : Ins) (h1 : i.name.size ≤ maxLen) (h2 : i.member.size ≤ maxLen) (hn : n < 999999) :
  Calls Tryz.prog 99 #[.pointer (some ⟨K.kb, 0, none⟩), .agg #[.int .i64 i.op, .int .i64 i.a, .string i.name, .string i.member]] w (LkPost K (n + 2) Z0 j (if (getB K.p K.k i.name i.member).2 = 1 then ((popF K.p K.k f.stack (clsT i.name)).bind fun s => pushF K.m.stack s (tagOf (getB K.p K.k i.name i.member).1.kind)).map (⟨f.locals, ·⟩) else none) w) := by
 obtain ⟨wA, hwA⟩ : ∃ wA, wA = (w.alloc (.cells #[.int .i64 i.op, .int .i64 i.a, .string i.name, .string i.member] 27)) := ⟨_, rfl⟩
 have hfA : Fr No w wA := hwA ▸ frc
 have B0 := (hwA ▸ bxc : Bx wA w.heap.size 27 #[.int .i64 i.op, .int .i64 i.a, .string i.name, .string i.member])
 have hZ0 : ¬ Z0 w.heap.size := fun hz => by have := h.lt hz; omega
 have hw0 : Fr No wA (w.alloc (.cells #[.int .i64 i.op, .int .i64 i.a, .string i.name, .string i.member] 27)) := by rw [hwA]; exact Fr.refl _ _
 have hS0 := Lib.hid (h.keep E hfA)
 have HF := fun W (hW : Fr No wA W) => field_ok K E n Z0 j f vl vs W (hS0.out.keep E hW) hj hj2 i h1 h2 hn
 have hqs := (getB_small E.okp (K.k : Int) i.name i.member).2
 have hz0 : ∀ b, Z0 b → Z0 b := fun _ h => h
 have hy0 : ∀ b, Z0 b → Z0 b ∨ wA.heap.size ≤ b := fun _ h => .inl h
 have hf0 : Fr Z0 wA wA := Fr.refl _ _
 unfold FieldPost at HF
 generalize getB K.p K.k i.name i.member = q at *
 clear h
 by_cases hq : q.2 = 1
 ·simp only [hq, if_true] at HF
  rw [if_pos hq]
  cases g2 : popF K.p K.k f.stack (clsT i.name) with
  | none =>
   simp only [Option.bind_none, Option.map_none]
   go_enter Tryz.func99, Tryz.ntmps99
   go_wp2_with (first | (go_at_call 125; refine (takeAs_ok K E (n + 2) Z1 j f _ _ _ (hS1.out.keep E frc) hj hj2 (clsT i.name) h1).mono ?_; simp only [g2, Option.map_none]; rintro e wN ⟨c, rfl, hN⟩) | (go_at_call 126; refine (HF _ hw0).mono ?_; rintro e w1 ⟨rfl, hOk⟩; obtain ⟨Z1, vl1, vs1, hS1, hz1, hy1, hf1⟩ := LkOk.then hz0 hy0 hf0 (hOk.from hw0); clear hOk; replace hS1 := Lib.hid hS1; have hB := B0.keepX hf1 hZ0; obtain ⟨p0, p1, p2, p3⟩ := hB.c4; have pl := hB.lt; have HB1 : Bx (w1.alloc (.cells #[.int .i64 q.1.of_.keeper, .string q.1.of_.name, .int .i64 q.1.at_, .int .i64 q.1.kind.kind, .string q.1.kind.name] 154)) w1.heap.size 154 #[.int .i64 q.1.of_.keeper, .string q.1.of_.name, .int .i64 q.1.at_, .int .i64 q.1.kind.kind, .string q.1.kind.name] := bxc; have hZ1 : ¬ Z1 w1.heap.size := (fun hz => by have := hS1.out.lt hz; omega); unfold lfV) | (go_at_call 64; refine (classTag_ok _ _).mono ?_; rintro e w' ⟨rfl, hg⟩) | (go_at_call 65; refine (tagof_ok q.1.kind _ hqs).mono ?_; rintro e w' ⟨rfl, hg⟩))
   exact ⟨rfl, c, rfl, (LkNo.then hy1 hf1 (hN.from frc)).from hfA⟩
  | some s2 =>
   cases g3 : pushF K.m.stack s2 (tagOf q.1.kind) with
   | none =>
    simp only [g3, Option.bind_some, Option.map_none]
    go_enter Tryz.func99, Tryz.ntmps99
    go_wp2_with (first | (go_at_call 122; refine (put_ok K E (n + 2) Z2 j ⟨f.locals, s2⟩ _ _ _ (hS2.out.keep E frc) hj hj2 (tagOf q.1.kind) (tagOf_small hqs)).mono ?_; simp only [g3, Option.map_none]; rintro e wN ⟨c, rfl, hN⟩) | (go_at_call 125; refine (takeAs_ok K E (n + 2) Z1 j f _ _ _ (hS1.out.keep E frc) hj hj2 (clsT i.name) h1).mono ?_; simp only [g2, Option.map_some]; rintro e w2 ⟨rfl, hOk⟩; have hOkk := hOk; obtain ⟨_, _, _, _, _, _, hfl⟩ := hOkk; obtain ⟨Z2, vl2, vs2, hS2, hz2, hy2, hf2⟩ := LkOk.then hz1 hy1 hf1 (hOk.from frc); replace hS2 := Lib.hid hS2; have hB := B0.keepX hf2 hZ0; obtain ⟨p0, p1, p2, p3⟩ := hB.c4; have pl := hB.lt; clear hOk; have hB1 := Bx.keepX (HB1.keep frc) hfl hZ1; obtain ⟨r0, r1, r2, r3, r4⟩ := hB1.c5; have rl := hB1.lt) | (go_at_call 126; refine (HF _ hw0).mono ?_; rintro e w1 ⟨rfl, hOk⟩; obtain ⟨Z1, vl1, vs1, hS1, hz1, hy1, hf1⟩ := LkOk.then hz0 hy0 hf0 (hOk.from hw0); clear hOk; replace hS1 := Lib.hid hS1; have hB := B0.keepX hf1 hZ0; obtain ⟨p0, p1, p2, p3⟩ := hB.c4; have pl := hB.lt; have HB1 : Bx (w1.alloc (.cells #[.int .i64 q.1.of_.keeper, .string q.1.of_.name, .int .i64 q.1.at_, .int .i64 q.1.kind.kind, .string q.1.kind.name] 154)) w1.heap.size 154 #[.int .i64 q.1.of_.keeper, .string q.1.of_.name, .int .i64 q.1.at_, .int .i64 q.1.kind.kind, .string q.1.kind.name] := bxc; have hZ1 : ¬ Z1 w1.heap.size := (fun hz => by have := hS1.out.lt hz; omega); unfold lfV) | (go_at_call 64; refine (classTag_ok _ _).mono ?_; rintro e w' ⟨rfl, hg⟩) | (go_at_call 65; refine (tagof_ok q.1.kind _ hqs).mono ?_; rintro e w' ⟨rfl, hg⟩))
    exact ⟨rfl, c, rfl, (LkNo.then hy2 hf2 (hN.from frc)).from hfA⟩
   | some s3 =>
    simp only [g3, Option.bind_some, Option.map_some]
    go_enter Tryz.func99, Tryz.ntmps99
    go_wp2_with (first | (go_at_call 122; refine (put_ok K E (n + 2) Z2 j ⟨f.locals, s2⟩ _ _ _ (hS2.out.keep E frc) hj hj2 (tagOf q.1.kind) (tagOf_small hqs)).mono ?_; simp only [g3, Option.map_some]; rintro e w3 ⟨rfl, hOk⟩; have hOkk := hOk; obtain ⟨_, _, _, _, _, _, hfl⟩ := hOkk; obtain ⟨Z3, vl3, vs3, hS3, hz3, hy3, hf3⟩ := LkOk.then hz2 hy2 hf2 (hOk.from frc); replace hS3 := Lib.hid hS3; have hB := B0.keepX hf3 hZ0; obtain ⟨p0, p1, p2, p3⟩ := hB.c4; have pl := hB.lt; clear hOk) | (go_at_call 125; refine (takeAs_ok K E (n + 2) Z1 j f _ _ _ (hS1.out.keep E frc) hj hj2 (clsT i.name) h1).mono ?_; simp only [g2, Option.map_some]; rintro e w2 ⟨rfl, hOk⟩; have hOkk := hOk; obtain ⟨_, _, _, _, _, _, hfl⟩ := hOkk; obtain ⟨Z2, vl2, vs2, hS2, hz2, hy2, hf2⟩ := LkOk.then hz1 hy1 hf1 (hOk.from frc); replace hS2 := Lib.hid hS2; have hB := B0.keepX hf2 hZ0; obtain ⟨p0, p1, p2, p3⟩ := hB.c4; have pl := hB.lt; clear hOk; have hB1 := Bx.keepX (HB1.keep frc) hfl hZ1; obtain ⟨r0, r1, r2, r3, r4⟩ := hB1.c5; have rl := hB1.lt) | (go_at_call 126; refine (HF _ hw0).mono ?_; rintro e w1 ⟨rfl, hOk⟩; obtain ⟨Z1, vl1, vs1, hS1, hz1, hy1, hf1⟩ := LkOk.then hz0 hy0 hf0 (hOk.from hw0); clear hOk; replace hS1 := Lib.hid hS1; have hB := B0.keepX hf1 hZ0; obtain ⟨p0, p1, p2, p3⟩ := hB.c4; have pl := hB.lt; have HB1 : Bx (w1.alloc (.cells #[.int .i64 q.1.of_.keeper, .string q.1.of_.name, .int .i64 q.1.at_, .int .i64 q.1.kind.kind, .string q.1.kind.name] 154)) w1.heap.size 154 #[.int .i64 q.1.of_.keeper, .string q.1.of_.name, .int .i64 q.1.at_, .int .i64 q.1.kind.kind, .string q.1.kind.name] := bxc; have hZ1 : ¬ Z1 w1.heap.size := (fun hz => by have := hS1.out.lt hz; omega); unfold lfV) | (go_at_call 64; refine (classTag_ok _ _).mono ?_; rintro e w' ⟨rfl, hg⟩) | (go_at_call 65; refine (tagof_ok q.1.kind _ hqs).mono ?_; rintro e w' ⟨rfl, hg⟩))
    go_end0
    exact ⟨rfl, (show LkOk K (n + 2) Z0 j ⟨f.locals, s3⟩ wA w3 from ⟨Z3, vl3, vs3, hS3.out, hz3, hy3, hf3⟩).from hfA⟩
 ·simp only [hq, if_false] at HF
  rw [if_neg hq]
  go_enter Tryz.func99, Tryz.ntmps99
  go_wp2_with (go_at_call 126; refine (HF _ hw0).mono ?_; rintro e wN ⟨c, rfl, hN⟩)
  exact ⟨rfl, c, rfl, (LkNo.then hy0 hf0 (hN.from hw0)).from hfA⟩

end Go.Proofs.YtbalicnnlfennaaGreat
