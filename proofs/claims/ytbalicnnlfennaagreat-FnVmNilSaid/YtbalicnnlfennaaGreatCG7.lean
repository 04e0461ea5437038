/- The program's own road from keeper to keeper: a class that is there; who is asked; whose a class is. -/
import Derived.Test.YtbalicnnlfennaaGreatCG6
import Derived.OwnWalk
import Derived.RangeFuncNested
import Derived.RangeFuncBound
import Derived.RangeFuncCalls
import Derived.RangeFuncLeaves
import Derived.Shelf.Abstract
import Derived.Shelf.RegionOpen
import Derived.WalkKit
import Derived.OwnWalkIn
import Derived.TacticsInMore
import Derived.LoopNIn
import Derived.LoopIn
namespace Go.Proofs.YtbalicnnlfennaaGreat
open Go.RowKit

theorem ownF_at {p : Plan} {k : Nat} (hk : k < p.keepers.length) (s : Str) : ownF p (k : Int) s = ixOpt (clsIs s) (kprAt p k).owns := by
 unfold ownF ownQ; rw [if_pos (by omega)]
theorem askF_at {p : Plan} {k : Nat} (hk : k < p.keepers.length) (s : Str) : askF p (k : Int) s = askOpt (kprAt p k).asks s := by
 unfold askF askQ; rw [if_pos (by omega)]
theorem info_int : (Tryz.prog.info? 3).map (fun i => (i.zero, i.size, i.bytes)) = some (some (.int .i64 0), 1, 8) := by kernel_rfl

theorem Gives.mk0 {v : Value} {w w' : World} (hf : Fr No w w') : Gives v w (.returned v) w' := ⟨rfl, hf⟩
def ClsPost (X : Nat → Prop) (c : Cls) (w : World) (e : Ending) (w' : World) : Prop :=
 ∃ Af cf Am cm, e = .returned (.agg #[.string c.name, .string c.super, .slice Af c.fields.length cf, .slice Am c.methods.length cm]) ∧ ClsC X w' [.string c.name, .string c.super, .slice Af c.fields.length cf, .slice Am c.methods.length cm] c ∧ Fr No w w'

set_option maxRecDepth 100000 in
set_option maxHeartbeats 4000000 in
theorem class_val (l bl n : Nat) (p : Plan) (g : Int → Str → Option Int) (k : Nat) (s : Str) (i : Nat) (w : World) (h : Lodge w l bl n p g) (hk : k < p.keepers.length) (hs : s.size ≤ maxLen)
  (y : Kpr) (hy : kprAt p k = y) (hi : i < y.owns.length) (hix : ixOpt (clsIs s) y.owns = some (i : Int)) :
  ∃ Af cf Am cm, ClsC (fun b => b = bl) w [.string y.owns[i].name, .string y.owns[i].super, .slice Af y.owns[i].fields.length cf, .slice Am y.owns[i].methods.length cm] y.owns[i] ∧
   ∀ W, Fr No w W → Calls Tryz.prog 63 #[.pointer (some ⟨l, 0, none⟩), .agg #[.int .i64 k, .string s]] W (Gives (.agg #[.string y.owns[i].name, .string y.owns[i].super, .slice Af y.owns[i].fields.length cf, .slice Am y.owns[i].methods.length cm]) W) := by
 obtain ⟨hp, A, cap, bo, ba, hB, _, _, _, hP, hO, _, _⟩ := h
 have h3 := lodB_len hp
 have hkl := hk
 have hix : ownF p (k : Int) s = some (i : Int) := by rw [ownF_at hk, hy]; exact hix
 have wk : (Lit.int .i64 (k : Int)).wf = true := wf_small (by omega) (by omega)
 have hlook := fun W (h : Fr No w W) => (hO.keep h).look wk hs
 rw [hix] at hlook
 simp only [Option.getD_some] at hlook
 rw [kprAt_nat hk] at hy
 obtain ⟨b, off, Ao, co, Aa, ca, rfl, hX, c0, c1, hown, _, hoc, hom, _, _⟩ := hP.kpr hk
 rw [hy] at c0 c1 hown hoc hom
 clear hy
 obtain ⟨b2, off2, Af, cf, Am, cm, rfl, hX2, d0, d1, d2, d3, hz0, hz1, hcf, hcm, _, _, _, _⟩ := hown.cls hi
 have hR : ClsC (fun b => b = bl) w [.string y.owns[i].name, .string y.owns[i].super, .slice Af y.owns[i].fields.length cf, .slice Am y.owns[i].methods.length cm] y.owns[i] := ⟨_, _, rfl, hz0, hz1, hcf, hcm⟩
 clear hP hown hcf hcm hO hix hp
 unfold maxLen at hom
 generalize y.owns[i] = c at *
 refine ⟨Af, cf, Am, cm, hR, fun W hW => ?_⟩
 replace hB := hB.keep hW
 replace c0 := hW.keep0 c0
 replace c1 := hW.keep0 c1
 replace d0 := hW.keep0 d0
 replace d1 := hW.keep0 d1
 replace d2 := hW.keep0 d2
 replace d3 := hW.keep0 d3
 replace hlook := fun W' (h : Fr No W W') => hlook W' (hW.trans0 h)
 clear hR hW
 clear hX hX2 hz0 hz1
 generalize hwW : W = w at *
 clear hwW
 obtain ⟨e0, e1, e2, e3⟩ := hB.c4
 have hl := hB.lt
 have hbl := lt_of_cell c0
 have hbl2 := lt_of_cell d0
 have hkk : (k : Int).toNat = k := by omega
 have hii : (i : Int).toNat = i := by omega
 have hfA : Fr No w ((w.alloc (.cells #[.int .i64 k, .string s] 54)).alloc (.cells #[.string ⟨#[]⟩, .string ⟨#[]⟩, .slice none 0 0, .slice none 0 0] 62)) := ((Fr.refl No w).alloc _).alloc _
 have hBA := hB.keep hfA
 have hKA : Bx ((w.alloc (.cells #[.int .i64 k, .string s] 54)).alloc (.cells #[.string ⟨#[]⟩, .string ⟨#[]⟩, .slice none 0 0, .slice none 0 0] 62)) w.heap.size 54 #[.int .i64 k, .string s] := (Bx.new_ rfl).alloc _
 have hRA : Bx ((w.alloc (.cells #[.int .i64 k, .string s] 54)).alloc (.cells #[.string ⟨#[]⟩, .string ⟨#[]⟩, .slice none 0 0, .slice none 0 0] 62)) (w.heap.size + 1) 62 #[.string ⟨#[]⟩, .string ⟨#[]⟩, .slice none 0 0, .slice none 0 0] := Bx.new_ (by simp)
 have hlk := hlook (World.drew ((w.alloc (.cells #[.int .i64 k, .string s] 54)).alloc (.cells #[.string ⟨#[]⟩, .string ⟨#[]⟩, .slice none 0 0, .slice none 0 0] 62))) hfA.drew
 replace c0 := hfA.keep0 c0
 replace c1 := hfA.keep0 c1
 replace d0 := hfA.keep0 d0
 replace d1 := hfA.keep0 d1
 replace d2 := hfA.keep0 d2
 replace d3 := hfA.keep0 d3
 clear hlook hB e0 e1 e2 e3
 go_enter Tryz.func63, Tryz.ntmps63
 go_wp2
 generalize ((w.alloc (.cells #[.int .i64 k, .string s] 54)).alloc (.cells #[.string ⟨#[]⟩, .string ⟨#[]⟩, .slice none 0 0, .slice none 0 0] 62)) = wA at *
 have hdr : Fr No wA wA.drew := (Fr.refl No wA).drew
 replace hBA := hBA.keep hdr
 replace hKA := hKA.keep hdr
 replace hRA := hRA.keep hdr
 replace c0 := hdr.keep0 c0
 replace c1 := hdr.keep0 c1
 replace d0 := hdr.keep0 d0
 replace d1 := hdr.keep0 d1
 replace d2 := hdr.keep0 d2
 replace d3 := hdr.keep0 d3
 replace hfA := hfA.trans0 hdr
 clear hdr
 (refine wp_region_still_tail 17 (by kernel_rfl) (by kernel_rfl) ?_); (change wpStill _ _ (World.drew _) (fun a' => wpList _ _ _ _ a' (World.drew _)) _ _)
 generalize wA.drew = wD at *
 obtain ⟨e0, e1, e2, e3⟩ := hBA.c4
 obtain ⟨k0, k1⟩ := hKA.c2
 obtain ⟨r0, r1, r2, r3⟩ := hRA.c4
 have fr := fun j => hRA.frozen j
 have hl1 := hBA.lt
 have hl2 := hKA.lt
 have hl3 := hRA.lt
 have hb1 := lt_of_cell c0
 have hb2 := lt_of_cell d0
 (simp only [List.take_succ_cons, List.take_zero, List.drop_succ_cons, List.drop_zero]); (repeat still_step); (try refine wpStill_nil ?_)
 go_wp2
 refine bodyPost_ret (v := .agg #[.string c.name, .string c.super, .slice Af c.fields.length cf, .slice Am c.methods.length cm]) (by simp [results, Tryz.results63, go_sem, *]) rfl ?_
 exact .mk0 (by exact frc)

theorem class_ok (l bl n : Nat) (p : Plan) (g : Int → Str → Option Int) (k : Nat) (s : Str) (i : Nat) (w : World) (h : Lodge w l bl n p g) (hk : k < p.keepers.length) (hs : s.size ≤ maxLen)
  (y : Kpr) (hy : kprAt p k = y) (hi : i < y.owns.length) (hix : ixOpt (clsIs s) y.owns = some (i : Int)) :
  Calls Tryz.prog 63 #[.pointer (some ⟨l, 0, none⟩), .agg #[.int .i64 k, .string s]] w (ClsPost (fun b => b = bl) y.owns[i] w) := by
 obtain ⟨Af, cf, Am, cm, hR, hC⟩ := class_val l bl n p g k s i w h hk hs y hy hi hix
 exact (hC w (Fr.refl _ w)).mono fun e w' ⟨he, hf⟩ => ⟨Af, cf, Am, cm, he, hR.keep hf (fun _ h => h.elim), hf⟩
end Go.Proofs.YtbalicnnlfennaaGreat

namespace Go.Proofs.YtbalicnnlfennaaGreat
open Go.RowKit

def IntC (cs : List Value) (n : Int) : Prop := cs = [.int .i64 n]
def whoseK (p : Plan) (k : Int) (s : Str) : Ref × Int := if hasK p k then whose p k s else (noRef, 2)
def PathPost (p : Plan) (k : Int) (s : Str) (w : World) (e : Ending) (w' : World) : Prop :=
 ∃ v, e = .returned (.tuple #[v, .int .i64 (whoseK p k s).2]) ∧ Fr No w w' ∧ ((whoseK p k s).2 = 1 → ∃ xs, (whoseK p k s).1.name = s ∧ Sl No w' 1 IntC v (xs ++ [(whoseK p k s).1.keeper]))
theorem PathPost.no {p : Plan} {k c : Int} {s : Str} {w w' : World} {v : Value} (h : (whoseK p k s).2 = c) (hc : c ≠ 1) (hf : Fr No w w') : PathPost p k s w (.returned (.tuple #[v, .int .i64 c])) w' :=
 ⟨v, by rw [h], hf, fun h' => absurd (h.symm.trans h') hc⟩
theorem PathPost.yes {p : Plan} {k kc : Int} {s : Str} {w w' : World} {v : Value} {xs : List Int} (h : whoseK p k s = (⟨kc, s⟩, 1)) (hf : Fr No w w') (hv : Sl No w' 1 IntC v (xs ++ [kc])) : PathPost p k s w (.returned (.tuple #[v, .int .i64 1])) w' :=
 ⟨v, by rw [h], hf, fun _ => ⟨xs, by rw [h], by rw [h]; exact hv⟩⟩
def sliceLen : Value → Nat
 | .slice _ n _ => n
 | _ => 0
theorem row_form {w : World} {base n : Nat} {v : Value} {xs : List Int} (h : w.ownsRow base 3 1 v (n + 1) (xs.map (Value.int .i64))) :
  ∃ g cap cur, v = .slice (some ⟨g, 0, none⟩) (n + 1) cap ∧ base ≤ g ∧ Bx w g 3 cur ∧ n + 1 ≤ cap ∧ cap ≤ maxLen ∧ xs.length = n + 1 ∧ ∀ i (hi : i < xs.length), w.cell? ⟨g, i, none⟩ = some (.int .i64 xs[i]) := by
 obtain ⟨hl, h | ⟨g, cap, cur, rfl, hg, hb, hn, hm, hs, ht⟩⟩ := h
 ·exact absurd h.2 (by omega)
 ·have hxl : xs.length = n + 1 := by simpa using hl
  refine ⟨g, cap, cur, rfl, hg, hb, hn, hm, hxl, fun i hi => ?_⟩
  have hbx : Bx w g 3 cur := hb
  rw [hbx.cell]
  have h1 : (cur.toList.take ((n + 1) * 1))[i]? = (xs.map (Value.int .i64))[i]? := by rw [ht]
  rw [List.getElem?_take, if_pos (by omega), List.getElem?_map, List.getElem?_eq_getElem hi] at h1
  simpa using h1
theorem row_sl {w : World} {base n : Nat} {v : Value} {xs : List Int} (h : w.ownsRow base 3 1 v (n + 1) (xs.map (Value.int .i64))) : Sl No w 1 IntC v xs := by
 obtain ⟨g, cap, cur, rfl, hg, hb, hn, hm, hl, hc⟩ := row_form h
 refine ⟨_, cap, by rw [hl], by omega, by omega, fun _ => ⟨g, 0, rfl, fun h => h, fun k hk => ⟨[.int .i64 xs[k]], rfl, rfl, fun j hj => ?_⟩⟩⟩
 obtain rfl : j = 0 := by omega
 simpa using hc k hk

set_option maxRecDepth 100000 in
set_option maxHeartbeats 8000000 in
theorem path_ok (l bl n : Nat) (p : Plan) (g : Int → Str → Option Int) (k : Int) (s : Str) (w : World) (h : Lodge w l bl n p g) (hs : s.size ≤ maxLen) :
  Calls Tryz.prog 112 #[.pointer (some ⟨l, 0, none⟩), .int .i64 k, .string s] w (PathPost p k s w) := by
 obtain ⟨hp, A, cap, bo, ba, hB, _, _, _, _, hO, hA, _⟩ := h
 have h3 := lodB_len hp
 have HH := fun W (h : Fr No w W) => has_ok l p.keepers.length cap A _ _ _ k W (hB.keep h) (by unfold maxLen; omega)
 obtain ⟨i0, hi, hz0, hz1, hz2⟩ := info_parts info_int
 cases hhk : hasK p k
 ·have HW : Hid ((whoseK p k s).2 = 2) := by unfold Hid whoseK; rw [hhk]; rfl
  unfold hasK at hhk
  rw [hhk] at HH
  clear hhk hi
  go_enter Tryz.func112, Tryz.ntmps112
  go_wp2_with (go_at_call 20; refine (HH _ (by exact frc)).mono ?_; rintro e w' ⟨rfl, rfl⟩)
  go_ret2
  exact .no HW.out (by decide) (by exact frc)
 ·have HK : Hid (whoseK p k s = whose p k s) := by unfold Hid whoseK; rw [hhk]; rfl
  unfold hasK at hhk
  rw [hhk] at HH
  rw [Bool.and_eq_true, decide_eq_true_eq, decide_eq_true_eq] at hhk
  obtain ⟨hk0, hk1⟩ := hhk
  obtain ⟨k, rfl⟩ := Int.eq_ofNat_of_zero_le hk0
  have hk1 : k < p.keepers.length := by omega
  have HS : Hid (Walked p s k [] k) := Walked.start (by omega) (by omega)
  have hrow0 : (w.alloc (.cells #[.int .i64 k] 3)).ownsRow w.heap.size 3 1 (.slice (some ⟨w.heap.size, 0, none⟩) 1 1) 1 (([] ++ [(k : Int)]).map (Value.int .i64)) :=
   ⟨rfl, .inr ⟨w.heap.size, 1, #[.int .i64 k], rfl, Nat.le_refl _, by exact Bx.new w _ _, Nat.le_refl _, by unfold maxLen; omega, rfl, rfl⟩⟩
  replace hrow0 := Lib.hid hrow0
  go_enter Tryz.func112, Tryz.ntmps112
  go_wp2_with (go_at_call 20; refine (HH _ (by exact frc)).mono ?_; rintro e w' ⟨rfl, rfl⟩)
  clear HH
  go_loopw [1, 8, 6, 7] (fun uk uv u6 u7 wr => ∃ (ys : List Int) (kc : Nat), uk = .int .i64 kc ∧ u6 = .slice none 0 0 ∧ u7 = .int .i64 0 ∧ Hid (Walked p s k ys kc) ∧ kc < p.keepers.length ∧ ys.length ≤ 2 ∧
   Hid (wr.ownsRow w.heap.size 3 1 uv (ys.length + 1) ((ys ++ [(kc : Int)]).map (Value.int .i64))) ∧ Fr No w wr) (fun _ uv _ _ _ => 4 - sliceLen uv)
  case atStart => exact ⟨[], k, rfl, rfl, rfl, HS, hk1, by simp, hrow0, (Fr.refl No w).alloc _⟩
  case round =>
   clear hrow0 HS

   obtain ⟨ys, kc, rfl, rfl, rfl, hW, hkc, hyl, hrow, hf⟩ := hrel
   obtain ⟨gb, cp, cur, rfl, hgb, hcur, hncp, hcpm, hxl, hxc⟩ := row_form hrow.out
   have hgl := hcur.lt
   have hBr := hB.keep hf
   obtain ⟨e0, e1, e2, e3⟩ := hBr.c4
   have hl := hBr.lt
   have wkc : (Lit.int .i64 (kc : Int)).wf = true := wf_small (by omega) (by omega)
   have hAa : askF p (kc : Int) s = askOpt (kprAt p kc).asks s := askF_at hkc s
   have hOo : ownF p (kc : Int) s = ixOpt (clsIs s) (kprAt p kc).owns := ownF_at hkc s
   have hAr := hA.keep hf
   have hOr := hO.keep hf
   unfold maxLen at hcpm
   cases hnx : askOpt (kprAt p kc).asks s with
   | none =>
    have hWd := hW.out.done hp hnx
    have hlka := hAr.look_none wkc hs (hAa.trans hnx)
    cases hix : ixOpt (clsIs s) (kprAt p kc).owns with
    | none =>
     have hneg : ownIx p kc s < 0 := by
      unfold ixOpt at hix
      unfold ownIx
      by_cases h : ixOf (clsIs s) (kprAt p kc).owns < 0
      ·exact h
      ·rw [if_neg h] at hix; cases hix
     have HE : Hid ((whoseK p k s).2 = 2) := by show (whoseK p k s).2 = 2; rw [HK.out, hWd, if_pos hneg]
     have hlko := hOr.look_none wkc hs (hOo.trans hix)
     clear hWd hneg hix hnx hOr hAr hAa hOo hxc hxl hW
     go_wp2
     go_ret2
     exact .no HE.out (by decide) (by exact frc)
    | some i =>
     have hneg : ¬ ownIx p kc s < 0 := by
      unfold ixOpt at hix
      unfold ownIx
      by_cases h : ixOf (clsIs s) (kprAt p kc).owns < 0
      ·rw [if_pos h] at hix; cases hix
      ·exact h
     have HE : Hid (whoseK p k s = (⟨kc, s⟩, 1)) := by show whoseK p k s = _; rw [HK.out, hWd, if_neg hneg]
     have hlko := hOr.look_some wkc hs (hOo.trans hix)
     clear hWd hneg hix hnx hOr hAr hAa hOo hxc hxl hW
     go_wp2
     go_ret2
     exact .yes HE.out (by exact frc) (row_sl hrow.out)
   | some nx =>
    have hlka := hAr.look_some wkc hs (hAa.trans hnx)
    have hkr := hW.out.range kc (by simp)
    have hnr := ask_range hp hkr.1 hkr.2 hnx
    obtain ⟨nx, rfl⟩ := Int.eq_ofNat_of_zero_le hnr.1
    have hnr : nx < p.keepers.length := by omega
    replace hnx := Lib.hid hnx
    replace hxl := Lib.hid hxl
    replace hxc := Lib.hid hxc
    clear hOr hAr hAa hOo hkr
    go_wp2
    go_loop [36, 6, 7] (fun i u6 u7 => ∃ j : Nat, j ≤ ys.length + 1 ∧ i = .int .i64 j ∧ u6 = .slice none 0 0 ∧ u7 = .int .i64 0 ∧ Hid ((nx : Int) ∉ (ys ++ [(kc : Int)]).take j)) (fun i _ _ => ys.length + 1 - (intOf i).toNat)
    case atStart => exact ⟨0, Nat.zero_le _, rfl, rfl, rfl, by simp [Hid]⟩
    case round =>
     obtain ⟨j, hj, rfl, rfl, rfl, hno⟩ := hrel
     by_cases hlt : j < ys.length + 1
     ·have hjl : j < (ys ++ [(kc : Int)]).length := by rw [hxl.out]; exact hlt
      have hcj := hxc.out j hjl
      have hmem : (ys ++ [(kc : Int)])[j] ∈ ys ++ [(kc : Int)] := List.getElem_mem hjl
      have htk := List.take_succ_eq_append_getElem hjl
      replace hmem := Lib.hid hmem
      replace htk := Lib.hid htk
      clear hxl hxc
      generalize hx : (ys ++ [(kc : Int)])[j] = x at *
      clear hx
      cases hq : (x == (nx : Int))
      ·have HN : Hid ((nx : Int) ∉ (ys ++ [(kc : Int)]).take (j + 1)) := by
        show _ ∉ _
        rw [htk.out]
        intro hm
        rcases List.mem_append.1 hm with hm | hm
        ·exact hno.out hm
        ·rw [List.mem_singleton] at hm; subst hm; simp at hq
       go_wp2
       go_round
       case rel => exact ⟨j + 1, by omega, by go_num, rfl, rfl, HN⟩
       case measure => simp [intOf]; omega
      ·have HE : Hid ((whoseK p k s).2 = 3) := by
        show (whoseK p k s).2 = 3
        have : x = (nx : Int) := by simpa using hq
        subst this
        rw [HK.out, hW.out.ring hp hnx.out hmem.out]
       clear hmem htk
       go_wp2
       go_ret2
       exact .no HE.out (by decide) (by exact frc)
     ·have HN : (nx : Int) ∉ ys ++ [(kc : Int)] := by have := hno.out; rwa [List.take_of_length_le (by rw [hxl.out]; omega)] at this
      have HS := Lib.hid (hW.out.step hp hnx.out HN)
      have hyl2 : (ys ++ [(kc : Int)]).length ≤ 2 := by have := HS.out.len hp; exact this
      replace hyl2 := Lib.hid hyl2
      clear hno HN hxc hcur
      go_wp2_with (at_builtin; refine wpList_append_own _ rfl _ _ 38 rfl w.heap.size 3 i0 (.int .i64 0) 1 8 Tryz.underlying38 hi hz0 hz1 hz2 rfl (by decide) _ _ _ rfl (hrow.out.alloc _) ⟨wr.heap.size, 0, none⟩ 1 1 [.int .i64 nx] rfl rfl (cell_one_new _ _ _) (by simp [Value.oneCell']) (by unfold maxLen; omega) (by omega) (by have := hf.size; simp; omega) ?_; intro v' w1 hown' hgrow hnil)
      have hrow1 : Hid (w1.ownsRow w.heap.size 3 1 v' ((ys ++ [(kc : Int)]).length + 1) (((ys ++ [(kc : Int)]) ++ [(nx : Int)]).map (Value.int .i64))) := by
       show World.ownsRow _ _ _ _ _ _ _
       rw [List.map_append, List.length_append]
       exact hown'
      have hf1 : Fr No w w1 := (hf.alloc _).grown hgrow (fun q e => .inl (by cases e; exact hgb))
      obtain ⟨g', cap', cur', rfl, _, _, _, _, _, _⟩ := row_form hrow1.out
      clear hown' hgrow hnil hrow e0 e1 e2 e3
      go_roundw
      case rel => exact ⟨ys ++ [(kc : Int)], nx, rfl, rfl, rfl, HS, hnr, hyl2.out, hrow1, hf1⟩
      case measure => simp [sliceLen]; omega
end Go.Proofs.YtbalicnnlfennaaGreat

namespace Go.Proofs.YtbalicnnlfennaaGreat
open Go.RowKit

theorem whoseGo_no {p : Plan} {s : Str} : ∀ (n : Nat) (k : Int), (whoseGo p s n k).2 ≠ 1 → (whoseGo p s n k).1 = noRef
 | 0, _, _ => rfl
 | n + 1, k, h => by
  rw [whoseGo] at h ⊢
  by_cases h1 : askTo p k s < 0
  ·rw [if_pos h1] at h ⊢
   by_cases h2 : ownIx p k s < 0
   ·rw [if_pos h2]
   ·rw [if_neg h2] at h; exact absurd rfl h
  ·rw [if_neg h1] at h ⊢
   exact whoseGo_no n _ h
theorem whoseK_no {p : Plan} {s : Str} {k : Int} (h : (whoseK p k s).2 ≠ 1) : (whoseK p k s).1 = noRef := by
 unfold whoseK at h ⊢
 cases hk : hasK p k
 ·rfl
 ·rw [hk] at h
  exact whoseGo_no 4 k h
def refV (q : Ref × Int) : Value := .tuple #[.agg #[.int .i64 q.1.keeper, .string q.1.name], .int .i64 q.2]
theorem Sl.last {w : World} {A : Option Addr} {n cap : Nat} {xs : List Int} {x : Int} (h : Sl No w 1 IntC (.slice A n cap) (xs ++ [x])) : n = xs.length + 1 ∧ n ≤ cap ∧ n ≤ maxLen ∧ ∃ b off, A = some ⟨b, off, none⟩ ∧ w.cell? ⟨b, off + xs.length, none⟩ = some (.int .i64 x) := by
 obtain ⟨h1, h2, h3, h4⟩ := h.at_
 obtain ⟨b, off, rfl, _, cs, hR, hl, hc⟩ := h4 xs.length (by simp)
 have hR : cs = [.int .i64 x] := by simpa [IntC] using hR
 subst hR
 refine ⟨by simpa using h1, h2, h3, b, off, rfl, ?_⟩
 have := hc 0 (by omega)
 simpa using this

set_option maxRecDepth 100000 in
set_option maxHeartbeats 2000000 in
theorem resolve_ok (l bl n : Nat) (p : Plan) (g : Int → Str → Option Int) (k : Int) (s : Str) (w : World) (h : Lodge w l bl n p g) (hs : s.size ≤ maxLen) :
  Calls Tryz.prog 69 #[.pointer (some ⟨l, 0, none⟩), .int .i64 k, .string s] w (Gives (refV (whoseK p k s)) w) := by
 have HP := fun W (hW : Fr No w W) => path_ok l bl n p g k s W (h.keep hW) hs
 have hno := @whoseK_no p s k
 unfold PathPost at HP
 generalize whoseK p k s = q at *
 obtain ⟨⟨kc, nm⟩, c⟩ := q
 dsimp only at *
 unfold refV
 by_cases hc : c = 1
 ·subst hc
  clear hno
  go_enter Tryz.func69, Tryz.ntmps69
  go_wp2_with fail
  refine (HP _ ?_).mono ?_
  ·exact frc
  rintro e w1 ⟨v, rfl, hf1, hx⟩
  obtain ⟨xs, rfl, hsl⟩ := hx (by first | trivial | rfl)
  obtain ⟨A, cap, rfl, hcap, hlen⟩ := hsl.form
  obtain ⟨hl, h2, h3, b, off, rfl, hcell⟩ := hsl.last
  have hR := (Bx.new w 54 #[.int .i64 0, .string ⟨#[]⟩]).keep hf1
  obtain ⟨r0, r1⟩ := hR.c2
  have fr := fun j => hR.frozen j
  have hrl := hR.lt
  have hbl := lt_of_cell hcell
  unfold maxLen at h3
  simp only [hl] at h2 h3 hcap hlen ⊢
  clear hsl hx hcap hlen HP hl
  have wl : IntKind.i64.wrap (((xs.length + 1 : Nat) : Int) - 1) = (xs.length : Int) := (IntWalk.i64_in _ (by omega)).trans (by omega)
  go_wp2
  refine bodyPost_ret (v := .tuple #[.agg #[.int .i64 kc, .string nm], .int .i64 1]) (by simp [results, Tryz.results69, go_sem, *]) rfl ?_
  exact .mk rfl (by exact frc)
 ·have hn := hno hc
  simp only [noRef, Ref.mk.injEq] at hn
  obtain ⟨rfl, rfl⟩ := hn
  have hc' : (c != 1) = true := by simpa using hc
  clear hno hc
  go_enter Tryz.func69, Tryz.ntmps69
  go_wp2_with fail
  refine (HP _ ?_).mono ?_
  ·exact frc
  rintro e w1 ⟨v, rfl, hf1, _⟩
  have hR := (Bx.new w 54 #[.int .i64 0, .string ⟨#[]⟩]).keep hf1
  obtain ⟨r0, r1⟩ := hR.c2
  have fr := fun j => hR.frozen j
  have hrl := hR.lt
  clear HP
  go_wp2
  refine bodyPost_ret (v := .tuple #[.agg #[.int .i64 0, .string ⟨#[]⟩], .int .i64 c]) (by simp [results, Tryz.results69, go_sem, *]) rfl ?_
  exact .mk rfl (by exact frc)
end Go.Proofs.YtbalicnnlfennaaGreat

namespace Go.Proofs.YtbalicnnlfennaaGreat
open Go.RowKit

theorem Fr.putObj {X : Nat → Prop} {a w : World} {l : Nat} (h : Fr X a w) (o : Obj) (hl : X l) : Fr X a (w.putObj l o) :=
 h.grown (grownBy_putObj' w l o) (fun k e => by cases e; exact .inr hl)
def bodyEnds (T Tx K : World → Prop) : Exit → Act → World → Prop
 | .normal, _, W => K W ∧ T W
 | .ret, _, W => K W ∧ Tx W
 | _, _, _ => False
theorem rf_law {F : Fence} {n : Nat} {P : Program} {g : Operand} {ps : Array Tmp} {assign body : Code} {Q : Exit → Act → World → Prop} {a : Act} {w : World}
  (hro : F.round = none) (h1 : 1 ≤ n) {gf : Nat} {lb : Array Value} (hg : a.eval g = .func (.func gf) #[] lb) (hFg : F.fn gf) (eg : ∀ args w, (callFunc gf args).run P w = .ok (.enter gf args) w)
  {σ β : Type} (args : β → Array Value) (hps : ∀ x, (args x).size = ps.size) (T : σ → World → Prop) (Tx : World → Prop) (OK : σ → β → Prop) (nx : σ → β → σ) (s0 : σ) (Fin : σ → Prop) (cb : Nat) (hcb : cb < w.heap.size)
  (hT : ∀ s W W', T s W → Fr (fun b => b = w.heap.size + 1) W W' → T s W')
  (hTx : ∀ W W', Tx W → Fr (fun b => b = w.heap.size + 1) W W' → Tx W')
  (h0 : ∀ o o', T s0 ((w.alloc o).alloc o'))
  (hround : ∀ s x W, T s W → OK s x → w.heap.size + 1 < W.heap.size →
   assign.wpIn (F.inRound (w.heap.size + 1)) (n - 1 - 1) P (Exit.then (fun a1 W1 => (W1.heap[w.heap.size + 1]? = W.heap[w.heap.size + 1]? ∧ W1.heap[w.heap.size]? = W.heap[w.heap.size]?) ∧
    ∀ W2, Fr (fun b => b = w.heap.size + 1) W1 W2 → body.wpIn (F.inRound (w.heap.size + 1)) (n - 1 - 1) P
     (bodyEnds (T (nx s x)) Tx (fun W3 => W3.heap[w.heap.size + 1]? = W2.heap[w.heap.size + 1]? ∧ W3.heap[w.heap.size]? = W2.heap[w.heap.size]?)) a1 W2) (fun _ _ _ => False))
    { tmps := (ps.zip (args x)).foldl (fun t (p, v) => t.setIfInBounds p v) a.tmps, defers := [] } W)
  (hiter : ∀ (Z Zd : World → Prop), (∀ W W', Z W → Fr (fun b => b = cb) W W' → Z W') → (∀ W W', Zd W → Fr (fun b => b = cb) W W' → Zd W') →
   (∀ s x W, T s W → Z W → OK s x → YieldAt F (n - 1 - 1) P (w.heap.size + 1) (args x) W (fun e W' => (e = .returned (.bool true) ∧ T (nx s x) W' ∧ Z W') ∨ (e = .returned (.bool false) ∧ Tx W' ∧ Zd W'))) →
   ∀ W1, T s0 W1 → Z W1 → CallsIn F (n - 1) P gf (#[.func (.yield (w.heap.size + 1)) #[] #[]] ++ lb) W1 (fun e W' => (∃ v, e = .returned v) ∧ ((∃ s, Fin s ∧ T s W' ∧ Z W') ∨ (Tx W' ∧ Zd W'))))
  (hdone : ∀ s W, Fin s → T s W → W.heap[w.heap.size]? = some (.deferred (some [])) → Q .normal { a with defers := { target := .collected w.heap.size, args := #[] } :: a.defers } W)
  (hstop : ∀ W, Tx W → W.heap[w.heap.size]? = some (.deferred (some [])) → Code.ret.wpIn F n P Q { a with defers := { target := .collected w.heap.size, args := #[] } :: a.defers } W) :
  (Code.rangeFunc g ps assign body).wpIn F n P Q a w := by
 refine wpIn_rangeFunc ?_
 intro fn hfn
 rw [hro]
 obtain ⟨rec, hrec⟩ : ∃ rec : LoopState → Option Code → Loop, rec = fun st pe => { state := st, pending := pe, fn, tmps := a.tmps, params := ps, assign, body, defers := w.heap.size } := ⟨_, rfl⟩
 have hL : ∀ {A : World} {o : Obj}, A.heap[w.heap.size + 1]? = some o → w.heap.size + 1 < A.heap.size := fun h => (Array.getElem?_eq_some_iff.1 h).1
 refine ⟨w.heap.size + 1, [{ target := .collected w.heap.size, args := #[] }], (w.alloc (.deferred (some []))).alloc (.loop (rec .ready none)), { target := .fn (.func gf) lb, args := #[.func (.yield (w.heap.size + 1)) #[] #[]] }, (w.alloc (.deferred (some []))).alloc (.loop (rec .ready none)), gf,
  #[.func (.yield (w.heap.size + 1)) #[] #[]] ++ lb, (w.alloc (.deferred (some []))).alloc (.loop (rec .ready none)), ?_, ?_, ?_, ?_, fun _ => h1, ?_⟩
 ·rw [hrec]; exact run_enterLoop_outer _ _ _ _ _
 ·simp only [resolve, hg]
  simp [go_sem]
 ·intro f' hf'; simp [Target.leads] at hf'; subst hf'; exact hFg
 ·simp [invoke, go_sem, eg]
 ·have hl1 : ((w.alloc (.deferred (some []))).alloc (.loop (rec .ready none))).heap[w.heap.size + 1]? = some (.loop (rec .ready none)) := by
   have := World.alloc_heap_new (w.alloc (.deferred (some []))) (.loop (rec .ready none)); rwa [World.size_alloc] at this
  have hk1 : ((w.alloc (.deferred (some []))).alloc (.loop (rec .ready none))).heap[w.heap.size]? = some (.deferred (some [])) :=
   (Below.heap_alloc _ _ _ (by simp)).trans (World.alloc_heap_new w _)
  refine (hiter (fun W => W.heap[w.heap.size + 1]? = some (.loop (rec .ready none)) ∧ W.heap[w.heap.size]? = some (.deferred (some [])))
   (fun W => W.heap[w.heap.size + 1]? = some (.loop (rec .done (some .ret))) ∧ W.heap[w.heap.size]? = some (.deferred (some []))) ?_ ?_ ?_ _ (h0 _ _) ⟨hl1, hk1⟩).mono ?_
  ·rintro W W' ⟨e1, e2⟩ hf
   exact ⟨(hf.block _ (hL e1) (by first | omega | (dsimp only; omega))).trans e1, (hf.block _ (by have := hL e1; omega) (by first | omega | (dsimp only; omega))).trans e2⟩
  ·rintro W W' ⟨e1, e2⟩ hf
   exact ⟨(hf.block _ (hL e1) (by first | omega | (dsimp only; omega))).trans e1, (hf.block _ (by have := hL e1; omega) (by first | omega | (dsimp only; omega))).trans e2⟩
  ·rintro s x W hs ⟨hl, hk⟩ hok
   have hy := run_yield (P := P) (args := args x) hl (by rw [hrec]; exact hps x)
   rw [hrec] at hy
   refine ⟨fn, _, assign, body, hy, roundIn_of_wpIn hfn (wpIn_mono (hround s x W hs hok (hL hl)) ?_)⟩
   rintro e a1 W1 he
   cases e with
   | normal =>
    obtain ⟨⟨e1, e2⟩, hb⟩ := he
    have hl2 := e1.trans hl
    have hk2 := e2.trans hk
    refine ⟨_, run_beginRound hl2 (by rw [hrec]), ?_⟩
    have hl3 : (W1.putObj (w.heap.size + 1) (.loop { rec .ready none with state := .busy })).heap[w.heap.size + 1]? = some (.loop { rec .ready none with state := .busy }) := World.putObj_heap_same (hL hl2)
    have hk3 : (W1.putObj (w.heap.size + 1) (.loop { rec .ready none with state := .busy })).heap[w.heap.size]? = some (.deferred (some [])) := (World.putObj_heap_other (by omega)).trans hk2
    refine wpIn_mono (hb _ ((Fr.refl _ W1).putObj _ rfl)) ?_
    rintro e a3 W3 hp
    cases e with
    | normal =>
     obtain ⟨⟨q1, q2⟩, ht⟩ := hp
     have hl4 := q1.trans hl3
     have hk4 := q2.trans hk3
     have hr := run_endRound (P := P) none hl4
     refine ⟨_, _, hr, .inl ⟨rfl, hT _ _ _ ht ((Fr.refl _ W3).putObj _ rfl), ?_, (World.putObj_heap_other (by omega)).trans hk4⟩⟩
     rw [World.putObj_heap_same (hL hl4), hrec]
     rfl
    | ret =>
     obtain ⟨⟨q1, q2⟩, ht⟩ := hp
     have hl4 := q1.trans hl3
     have hk4 := q2.trans hk3
     have hr := run_endRound (P := P) (some .ret) hl4
     refine ⟨_, _, hr, .inr ⟨rfl, hTx _ _ ht ((Fr.refl _ W3).putObj _ rfl), ?_, (World.putObj_heap_other (by omega)).trans hk4⟩⟩
     rw [World.putObj_heap_same (hL hl4), hrec]
     rfl
    | exit id => exact hp.elim
    | goto t => exact hp.elim
    | panic ch => exact hp.elim
    | outgrown => exact hp.elim
   | ret => exact he.elim
   | exit id => exact he.elim
   | goto t => exact he.elim
   | panic ch => exact he.elim
   | outgrown => exact he.elim
  ·rintro e W2 ⟨⟨v, rfl⟩, (⟨s, hf, ht, hl, hk⟩ | ⟨ht, hl, hk⟩)⟩
   ·exact ⟨none, _, by have := run_endLoop (P := P) hl (by rw [hrec]; simp); rw [hrec] at this; exact this, hdone s _ hf (hT _ _ _ ht ((Fr.refl _ W2).putObj _ rfl)) ((World.putObj_heap_other (by omega)).trans hk)⟩
   ·exact ⟨some .ret, _, by have := run_endLoop (P := P) hl (by rw [hrec]; simp); rw [hrec] at this; exact this, hstop _ (hTx _ _ ht ((Fr.refl _ W2).putObj _ rfl)) ((World.putObj_heap_other (by omega)).trans hk)⟩
end Go.Proofs.YtbalicnnlfennaaGreat

namespace Go.Proofs.YtbalicnnlfennaaGreat
open Go.RowKit

def bodyEndsX (id : Nat) (T Tx K : World → Prop) : Exit → Act → World → Prop
 | .normal, _, W => K W ∧ T W
 | .exit j, _, W => j = id ∧ K W ∧ Tx W
 | _, _, _ => False
theorem rf_lawX (xid : Nat) {F : Fence} {n : Nat} {P : Program} {g : Operand} {ps : Array Tmp} {assign body : Code} {Q : Exit → Act → World → Prop} {a : Act} {w : World}
  (hro : F.round = none) (h1 : 1 ≤ n) {gf : Nat} {lb : Array Value} (hg : a.eval g = .func (.func gf) #[] lb) (hFg : F.fn gf) (eg : ∀ args w, (callFunc gf args).run P w = .ok (.enter gf args) w)
  {σ β : Type} (args : β → Array Value) (hps : ∀ x, (args x).size = ps.size) (T : σ → World → Prop) (Tx : World → Prop) (OK : σ → β → Prop) (nx : σ → β → σ) (s0 : σ) (Fin : σ → Prop) (cb : Nat) (hcb : cb < w.heap.size)
  (hT : ∀ s W W', T s W → Fr (fun b => b = w.heap.size + 1) W W' → T s W')
  (hTx : ∀ W W', Tx W → Fr (fun b => b = w.heap.size + 1) W W' → Tx W')
  (h0 : ∀ o o', T s0 ((w.alloc o).alloc o'))
  (hround : ∀ s x W, T s W → OK s x → w.heap.size + 1 < W.heap.size →
   assign.wpIn (F.inRound (w.heap.size + 1)) (n - 1 - 1) P (Exit.then (fun a1 W1 => (W1.heap[w.heap.size + 1]? = W.heap[w.heap.size + 1]? ∧ W1.heap[w.heap.size]? = W.heap[w.heap.size]?) ∧
    ∀ W2, Fr (fun b => b = w.heap.size + 1) W1 W2 → body.wpIn (F.inRound (w.heap.size + 1)) (n - 1 - 1) P
     (bodyEndsX xid (T (nx s x)) Tx (fun W3 => W3.heap[w.heap.size + 1]? = W2.heap[w.heap.size + 1]? ∧ W3.heap[w.heap.size]? = W2.heap[w.heap.size]?)) a1 W2) (fun _ _ _ => False))
    { tmps := (ps.zip (args x)).foldl (fun t (p, v) => t.setIfInBounds p v) a.tmps, defers := [] } W)
  (hiter : ∀ (Z Zd : World → Prop), (∀ W W', Z W → Fr (fun b => b = cb) W W' → Z W') → (∀ W W', Zd W → Fr (fun b => b = cb) W W' → Zd W') →
   (∀ s x W, T s W → Z W → OK s x → YieldAt F (n - 1 - 1) P (w.heap.size + 1) (args x) W (fun e W' => (e = .returned (.bool true) ∧ T (nx s x) W' ∧ Z W') ∨ (e = .returned (.bool false) ∧ Tx W' ∧ Zd W'))) →
   ∀ W1, T s0 W1 → Z W1 → CallsIn F (n - 1) P gf (#[.func (.yield (w.heap.size + 1)) #[] #[]] ++ lb) W1 (fun e W' => (∃ v, e = .returned v) ∧ ((∃ s, Fin s ∧ T s W' ∧ Z W') ∨ (Tx W' ∧ Zd W'))))
  (hdone : ∀ s W, Fin s → T s W → W.heap[w.heap.size]? = some (.deferred (some [])) → Q .normal { a with defers := { target := .collected w.heap.size, args := #[] } :: a.defers } W)
  (hstop : ∀ W, Tx W → W.heap[w.heap.size]? = some (.deferred (some [])) → (Code.exit xid).wpIn F n P Q { a with defers := { target := .collected w.heap.size, args := #[] } :: a.defers } W) :
  (Code.rangeFunc g ps assign body).wpIn F n P Q a w := by
 refine wpIn_rangeFunc ?_
 intro fn hfn
 rw [hro]
 obtain ⟨rec, hrec⟩ : ∃ rec : LoopState → Option Code → Loop, rec = fun st pe => { state := st, pending := pe, fn, tmps := a.tmps, params := ps, assign, body, defers := w.heap.size } := ⟨_, rfl⟩
 have hL : ∀ {A : World} {o : Obj}, A.heap[w.heap.size + 1]? = some o → w.heap.size + 1 < A.heap.size := fun h => (Array.getElem?_eq_some_iff.1 h).1
 refine ⟨w.heap.size + 1, [{ target := .collected w.heap.size, args := #[] }], (w.alloc (.deferred (some []))).alloc (.loop (rec .ready none)), { target := .fn (.func gf) lb, args := #[.func (.yield (w.heap.size + 1)) #[] #[]] }, (w.alloc (.deferred (some []))).alloc (.loop (rec .ready none)), gf,
  #[.func (.yield (w.heap.size + 1)) #[] #[]] ++ lb, (w.alloc (.deferred (some []))).alloc (.loop (rec .ready none)), ?_, ?_, ?_, ?_, fun _ => h1, ?_⟩
 ·rw [hrec]; exact run_enterLoop_outer _ _ _ _ _
 ·simp only [resolve, hg]
  simp [go_sem]
 ·intro f' hf'; simp [Target.leads] at hf'; subst hf'; exact hFg
 ·simp [invoke, go_sem, eg]
 ·have hl1 : ((w.alloc (.deferred (some []))).alloc (.loop (rec .ready none))).heap[w.heap.size + 1]? = some (.loop (rec .ready none)) := by
   have := World.alloc_heap_new (w.alloc (.deferred (some []))) (.loop (rec .ready none)); rwa [World.size_alloc] at this
  have hk1 : ((w.alloc (.deferred (some []))).alloc (.loop (rec .ready none))).heap[w.heap.size]? = some (.deferred (some [])) :=
   (Below.heap_alloc _ _ _ (by simp)).trans (World.alloc_heap_new w _)
  refine (hiter (fun W => W.heap[w.heap.size + 1]? = some (.loop (rec .ready none)) ∧ W.heap[w.heap.size]? = some (.deferred (some [])))
   (fun W => W.heap[w.heap.size + 1]? = some (.loop (rec .done (some (.exit xid)))) ∧ W.heap[w.heap.size]? = some (.deferred (some []))) ?_ ?_ ?_ _ (h0 _ _) ⟨hl1, hk1⟩).mono ?_
  ·rintro W W' ⟨e1, e2⟩ hf
   exact ⟨(hf.block _ (hL e1) (by first | omega | (dsimp only; omega))).trans e1, (hf.block _ (by have := hL e1; omega) (by first | omega | (dsimp only; omega))).trans e2⟩
  ·rintro W W' ⟨e1, e2⟩ hf
   exact ⟨(hf.block _ (hL e1) (by first | omega | (dsimp only; omega))).trans e1, (hf.block _ (by have := hL e1; omega) (by first | omega | (dsimp only; omega))).trans e2⟩
  ·rintro s x W hs ⟨hl, hk⟩ hok
   have hy := run_yield (P := P) (args := args x) hl (by rw [hrec]; exact hps x)
   rw [hrec] at hy
   refine ⟨fn, _, assign, body, hy, roundIn_of_wpIn hfn (wpIn_mono (hround s x W hs hok (hL hl)) ?_)⟩
   rintro e a1 W1 he
   cases e with
   | normal =>
    obtain ⟨⟨e1, e2⟩, hb⟩ := he
    have hl2 := e1.trans hl
    have hk2 := e2.trans hk
    refine ⟨_, run_beginRound hl2 (by rw [hrec]), ?_⟩
    have hl3 : (W1.putObj (w.heap.size + 1) (.loop { rec .ready none with state := .busy })).heap[w.heap.size + 1]? = some (.loop { rec .ready none with state := .busy }) := World.putObj_heap_same (hL hl2)
    have hk3 : (W1.putObj (w.heap.size + 1) (.loop { rec .ready none with state := .busy })).heap[w.heap.size]? = some (.deferred (some [])) := (World.putObj_heap_other (by omega)).trans hk2
    refine wpIn_mono (hb _ ((Fr.refl _ W1).putObj _ rfl)) ?_
    rintro e a3 W3 hp
    cases e with
    | normal =>
     obtain ⟨⟨q1, q2⟩, ht⟩ := hp
     have hl4 := q1.trans hl3
     have hk4 := q2.trans hk3
     have hr := run_endRound (P := P) none hl4
     refine ⟨_, _, hr, .inl ⟨rfl, hT _ _ _ ht ((Fr.refl _ W3).putObj _ rfl), ?_, (World.putObj_heap_other (by omega)).trans hk4⟩⟩
     rw [World.putObj_heap_same (hL hl4), hrec]
     rfl
    | exit id =>
     obtain ⟨rfl, ⟨q1, q2⟩, ht⟩ := hp
     have hl4 := q1.trans hl3
     have hk4 := q2.trans hk3
     have hr := run_endRound (P := P) (some (.exit id)) hl4
     refine ⟨_, _, hr, .inr ⟨rfl, hTx _ _ ht ((Fr.refl _ W3).putObj _ rfl), ?_, (World.putObj_heap_other (by omega)).trans hk4⟩⟩
     rw [World.putObj_heap_same (hL hl4), hrec]
     rfl
    | ret => exact hp.elim
    | goto t => exact hp.elim
    | panic ch => exact hp.elim
    | outgrown => exact hp.elim
   | ret => exact he.elim
   | exit id => exact he.elim
   | goto t => exact he.elim
   | panic ch => exact he.elim
   | outgrown => exact he.elim
  ·rintro e W2 ⟨⟨v, rfl⟩, (⟨s, hf, ht, hl, hk⟩ | ⟨ht, hl, hk⟩)⟩
   ·exact ⟨none, _, by have := run_endLoop (P := P) hl (by rw [hrec]; simp); rw [hrec] at this; exact this, hdone s _ hf (hT _ _ _ ht ((Fr.refl _ W2).putObj _ rfl)) ((World.putObj_heap_other (by omega)).trans hk)⟩
   ·exact ⟨some (.exit xid), _, by have := run_endLoop (P := P) hl (by rw [hrec]; simp); rw [hrec] at this; exact this, hstop _ (hTx _ _ ht ((Fr.refl _ W2).putObj _ rfl)) ((World.putObj_heap_other (by omega)).trans hk)⟩
end Go.Proofs.YtbalicnnlfennaaGreat
