/- The program's own road from keeper to keeper: a class that is there; who is asked; whose a class is. -/
import Derived.Test.YtghmnkafpnkojaaGreatDoorLdg3
import Derived.Test.YtghmnkafpnkojaaGreatDoorLod
import Derived.OwnWalk
namespace Go.Proofs.YtghmnkafpnkojaaGreatDoor
open Go.RowKit

theorem ownF_at {p : Plan} {k : Nat} (hk : k < p.keepers.length) (s : Str) : ownF p (k : Int) s = ixOpt (clsIs s) (kprAt p k).owns := by
  unfold ownF ownQ; rw [if_pos (by omega)]
theorem askF_at {p : Plan} {k : Nat} (hk : k < p.keepers.length) (s : Str) : askF p (k : Int) s = askOpt (kprAt p k).asks s := by
  unfold askF askQ; rw [if_pos (by omega)]
theorem info_int : (Tryz.prog.info? 3).map (fun i => (i.zero, i.size, i.bytes)) = some (some (.int .i64 0), 1, 8) := by kernel_rfl

theorem Gives.mk0 {v : Value} {w w' : World} (hf : Fr No w w') : Gives v w (.returned v) w' := ⟨rfl, hf⟩
/-- A class in memory that is as it was. -/
def ClsPost (X : Nat → Prop) (c : Cls) (w : World) (e : Ending) (w' : World) : Prop :=
  ∃ Af cf Am cm, e = .returned (.agg #[.string c.name, .string c.super, .slice Af c.fields.length cf, .slice Am c.methods.length cm]) ∧ ClsC X w' [.string c.name, .string c.super, .slice Af c.fields.length cf, .slice Am c.methods.length cm] c ∧ Fr No w w'

set_option maxRecDepth 100000 in
set_option maxHeartbeats 4000000 in
theorem class_val (l bl n : Nat) (p : Plan) (g : Int → Str → Option Int) (k : Nat) (s : Str) (i : Nat) (w : World) (h : Lodge w l bl n p g) (hk : k < p.keepers.length) (hs : s.size ≤ maxLen)
    (y : Kpr) (hy : kprAt p k = y) (hi : i < y.owns.length) (hix : ixOpt (clsIs s) y.owns = some (i : Int)) :
    ∃ Af cf Am cm, ClsC (fun b => b = bl) w [.string y.owns[i].name, .string y.owns[i].super, .slice Af y.owns[i].fields.length cf, .slice Am y.owns[i].methods.length cm] y.owns[i] ∧
      ∀ W, Fr No w W → Calls Tryz.prog 48 #[.pointer (some ⟨l, 0, none⟩), .agg #[.int .i64 k, .string s]] W (Gives (.agg #[.string y.owns[i].name, .string y.owns[i].super, .slice Af y.owns[i].fields.length cf, .slice Am y.owns[i].methods.length cm]) W) := by
  obtain ⟨hp, A, cap, bo, ba, hB, _, _, _, hP, hO, _, _⟩ := h
  have h3 := lodB_len hp
  have hkl := hk
  have hix : ownF p (k : Int) s = some (i : Int) := by rw [ownF_at hk, hy]; exact hix
  have wk : (Lit.int .i64 (k : Int)).wf = true := wf_small (by omega) (by omega)
  have hlook := fun W (h : Fr No w W) => (hO.keep h).look wk hs
  rw [hix] at hlook
  simp only [Option.getD_some] at hlook
  rw [kprAt_nat hk] at hy
  obtain ⟨b, off, Ao, co, Aa, ca, rfl, hX, c0, c1, hown, _, hoc, hom, _, _⟩ := hP.kpr hk
  rw [hy] at c0 c1 hown hoc hom
  clear hy
  obtain ⟨b2, off2, Af, cf, Am, cm, rfl, hX2, d0, d1, d2, d3, hz0, hz1, hcf, hcm, _, _, _, _⟩ := hown.cls hi
  have hR : ClsC (fun b => b = bl) w [.string y.owns[i].name, .string y.owns[i].super, .slice Af y.owns[i].fields.length cf, .slice Am y.owns[i].methods.length cm] y.owns[i] := ⟨_, _, rfl, hz0, hz1, hcf, hcm⟩
  clear hP hown hcf hcm hO hix hp
  unfold maxLen at hom
  generalize y.owns[i] = c at *
  refine ⟨Af, cf, Am, cm, hR, fun W hW => ?_⟩
  replace hB := hB.keep hW
  replace c0 := hW.keep0 c0
  replace c1 := hW.keep0 c1
  replace d0 := hW.keep0 d0
  replace d1 := hW.keep0 d1
  replace d2 := hW.keep0 d2
  replace d3 := hW.keep0 d3
  replace hlook := fun W' (h : Fr No W W') => hlook W' (hW.trans0 h)
  clear hR hW
  clear hX hX2 hz0 hz1
  generalize hwW : W = w at *
  clear hwW
  obtain ⟨e0, e1, e2, e3⟩ := hB.c4
  have hl := hB.lt
  have hbl := lt_of_cell c0
  have hbl2 := lt_of_cell d0
  have hkk : (k : Int).toNat = k := by omega
  have hii : (i : Int).toNat = i := by omega
  have hfA : Fr No w ((w.alloc (.cells #[.int .i64 k, .string s] 27)).alloc (.cells #[.string ⟨#[]⟩, .string ⟨#[]⟩, .slice none 0 0, .slice none 0 0] 114)) := ((Fr.refl No w).alloc _).alloc _
  have hBA := hB.keep hfA
  have hKA : Bx ((w.alloc (.cells #[.int .i64 k, .string s] 27)).alloc (.cells #[.string ⟨#[]⟩, .string ⟨#[]⟩, .slice none 0 0, .slice none 0 0] 114)) w.heap.size 27 #[.int .i64 k, .string s] := (Bx.new_ rfl).alloc _
  have hRA : Bx ((w.alloc (.cells #[.int .i64 k, .string s] 27)).alloc (.cells #[.string ⟨#[]⟩, .string ⟨#[]⟩, .slice none 0 0, .slice none 0 0] 114)) (w.heap.size + 1) 114 #[.string ⟨#[]⟩, .string ⟨#[]⟩, .slice none 0 0, .slice none 0 0] := Bx.new_ (by simp)
  have hlk := hlook (World.drew ((w.alloc (.cells #[.int .i64 k, .string s] 27)).alloc (.cells #[.string ⟨#[]⟩, .string ⟨#[]⟩, .slice none 0 0, .slice none 0 0] 114))) hfA.drew
  replace c0 := hfA.keep0 c0
  replace c1 := hfA.keep0 c1
  replace d0 := hfA.keep0 d0
  replace d1 := hfA.keep0 d1
  replace d2 := hfA.keep0 d2
  replace d3 := hfA.keep0 d3
  clear hlook hB e0 e1 e2 e3
  go_enter Tryz.func48, Tryz.ntmps48
  go_wp2
  generalize ((w.alloc (.cells #[.int .i64 k, .string s] 27)).alloc (.cells #[.string ⟨#[]⟩, .string ⟨#[]⟩, .slice none 0 0, .slice none 0 0] 114)) = wA at *
  have hdr : Fr No wA wA.drew := (Fr.refl No wA).drew
  replace hBA := hBA.keep hdr
  replace hKA := hKA.keep hdr
  replace hRA := hRA.keep hdr
  replace c0 := hdr.keep0 c0
  replace c1 := hdr.keep0 c1
  replace d0 := hdr.keep0 d0
  replace d1 := hdr.keep0 d1
  replace d2 := hdr.keep0 d2
  replace d3 := hdr.keep0 d3
  replace hfA := hfA.trans0 hdr
  clear hdr
  (refine wp_region_still_tail 17 (by kernel_rfl) (by kernel_rfl) ?_); (change wpStill _ _ (World.drew _) (fun a' => wpList _ _ _ _ a' (World.drew _)) _ _)
  generalize wA.drew = wD at *
  obtain ⟨e0, e1, e2, e3⟩ := hBA.c4
  obtain ⟨k0, k1⟩ := hKA.c2
  obtain ⟨r0, r1, r2, r3⟩ := hRA.c4
  have fr := fun j => hRA.frozen j
  have hl1 := hBA.lt
  have hl2 := hKA.lt
  have hl3 := hRA.lt
  have hb1 := lt_of_cell c0
  have hb2 := lt_of_cell d0
  (simp only [List.take_succ_cons, List.take_zero, List.drop_succ_cons, List.drop_zero]); (repeat still_step); (try refine wpStill_nil ?_)
  go_wp2
  refine bodyPost_ret (v := .agg #[.string c.name, .string c.super, .slice Af c.fields.length cf, .slice Am c.methods.length cm]) (by simp [results, Tryz.results48, go_sem, *]) rfl ?_
  exact .mk0 (by exact frc)

theorem class_ok (l bl n : Nat) (p : Plan) (g : Int → Str → Option Int) (k : Nat) (s : Str) (i : Nat) (w : World) (h : Lodge w l bl n p g) (hk : k < p.keepers.length) (hs : s.size ≤ maxLen)
    (y : Kpr) (hy : kprAt p k = y) (hi : i < y.owns.length) (hix : ixOpt (clsIs s) y.owns = some (i : Int)) :
    Calls Tryz.prog 48 #[.pointer (some ⟨l, 0, none⟩), .agg #[.int .i64 k, .string s]] w (ClsPost (fun b => b = bl) y.owns[i] w) := by
  obtain ⟨Af, cf, Am, cm, hR, hC⟩ := class_val l bl n p g k s i w h hk hs y hy hi hix
  exact (hC w (Fr.refl _ w)).mono fun e w' ⟨he, hf⟩ => ⟨Af, cf, Am, cm, he, hR.keep hf (fun _ h => h.elim), hf⟩
end Go.Proofs.YtghmnkafpnkojaaGreatDoor
