/- The reference's class that is there. -/
import Derived.Test.YtghmnkafpnkojaaGreatDoorSlc
import Derived.Test.YtghmnkafpnkojaaGreatDoorLdg4
import Derived.Deep.RegionHeld3
namespace Go.Proofs.YtghmnkafpnkojaaGreatDoor
open Go.RowKit

set_option maxRecDepth 100000 in
set_option maxHeartbeats 4000000 in
theorem s_class (X : Nat → Prop) (p : Plan) (v : Value) (k : Nat) (s : Str) (i : Nat) (w : World) (h : Sl X w 2 (KprC X w) v p.keepers) (hh : Here p ⟨k, s⟩ k i) (hs : s.size ≤ maxLen) :
    ∃ Af cf Am cm, ClsC X w [.string (clsAt p ⟨k, s⟩).name, .string (clsAt p ⟨k, s⟩).super, .slice Af (clsAt p ⟨k, s⟩).fields.length cf, .slice Am (clsAt p ⟨k, s⟩).methods.length cm] (clsAt p ⟨k, s⟩) ∧
      ∀ W, Fr No w W → Calls Tryz.prog 57 #[.agg #[v], .agg #[.int .i64 k, .string s]] W (Gives (.agg #[.string (clsAt p ⟨k, s⟩).name, .string (clsAt p ⟨k, s⟩).super, .slice Af (clsAt p ⟨k, s⟩).fields.length cf, .slice Am (clsAt p ⟨k, s⟩).methods.length cm]) W) := by
  obtain ⟨A, cap, rfl, hcap, hlen⟩ := h.form
  have hlen' := hlen
  unfold maxLen at hlen'
  obtain ⟨_, hk, hi, hix⟩ := hh
  have hcl : clsAt p ⟨k, s⟩ = (kprAt p k).owns[i] := Here.cls ⟨rfl, hk, hi, hix⟩
  rw [hcl]
  clear hcl
  obtain ⟨b, off, Ao, co, Aa, ca, rfl, hX, c0, c1, hown, hask, hoc, hom, _, _⟩ := h.kpr hk
  have hix' : ixOf (clsIs s) (kprAt p k).owns = (i : Int) := (ixOpt_nat hix).choose_spec.2.2
  have hy : kprAt p (k : Int) = p.keepers[k] := kprAt_nat hk
  rw [← hy] at c0 c1 hown hask hoc hom
  clear hix hy
  obtain ⟨b2, off2, Af, cf, Am, cm, rfl, hX2, d0, d1, d2, d3, hz0, hz1, hcf, hcm, _, _, _, _⟩ := hown.cls hi
  have hR : ClsC X w [.string (kprAt p k).owns[i].name, .string (kprAt p k).owns[i].super, .slice Af (kprAt p k).owns[i].fields.length cf, .slice Am (kprAt p k).owns[i].methods.length cm] (kprAt p k).owns[i] := ⟨_, _, rfl, hz0, hz1, hcf, hcm⟩
  have HO := fun W (h : Fr No w W) => s_own X _ (.slice Aa (kprAt p k).asks.length ca) (kprAt p k).owns s W (hown.keep h (fun _ h => h.elim) (fun _ _ _ h9 => h9.keep h (fun _ h => h.elim))) hs
  rw [hix'] at HO
  clear h hown hask hcf hcm hix'
  unfold maxLen at hom
  generalize (kprAt p k) = y at *
  generalize y.owns[i] = c at *
  refine ⟨Af, cf, Am, cm, hR, fun W hW => ?_⟩
  clear hR
  replace c0 := hW.keep0 c0
  replace c1 := hW.keep0 c1
  replace d0 := hW.keep0 d0
  replace d1 := hW.keep0 d1
  replace d2 := hW.keep0 d2
  replace d3 := hW.keep0 d3
  replace HO := fun W' (h : Fr No W W') => HO W' (hW.trans0 h)
  clear hX hX2 hz0 hz1 hW
  clear w
  generalize hW0 : W = W0 at *
  clear hW0
  have hlb := lt_of_cell c0
  have hlb2 := lt_of_cell d0
  have n1 : ¬ (b = W0.heap.size + 1 + 1) := by omega
  have n2 : ¬ (W0.heap.size + 1 + 1 = b) := by omega
  have n3 : ¬ (b2 = W0.heap.size + 1 + 1) := by omega
  have n4 : ¬ (W0.heap.size + 1 + 1 = b2) := by omega
  have n5 : ¬ (W0.heap.size = W0.heap.size + 1 + 1) := by omega
  have n6 : ¬ (W0.heap.size + 1 + 1 = W0.heap.size) := by omega
  clear hlb hlb2
  have hkk : (k : Int).toNat = k := by omega
  have hii : (i : Int).toNat = i := by omega
  have hB := ((Bx.new W0 34 #[.slice (some ⟨b, off, none⟩) p.keepers.length cap]).alloc (.cells #[.int .i64 k, .string s] 27)).alloc (.cells #[.string ⟨#[]⟩, .string ⟨#[]⟩, .slice none 0 0, .slice none 0 0] 114)
  have hK : Bx (((W0.alloc (.cells #[.slice (some ⟨b, off, none⟩) p.keepers.length cap] 34)).alloc (.cells #[.int .i64 k, .string s] 27)).alloc (.cells #[.string ⟨#[]⟩, .string ⟨#[]⟩, .slice none 0 0, .slice none 0 0] 114)) (W0.heap.size + 1) 27 #[.int .i64 k, .string s] := (Bx.new_ (by simp)).alloc _
  have hZ : Bx (((W0.alloc (.cells #[.slice (some ⟨b, off, none⟩) p.keepers.length cap] 34)).alloc (.cells #[.int .i64 k, .string s] 27)).alloc (.cells #[.string ⟨#[]⟩, .string ⟨#[]⟩, .slice none 0 0, .slice none 0 0] 114)) (W0.heap.size + 1 + 1) 114 #[.string ⟨#[]⟩, .string ⟨#[]⟩, .slice none 0 0, .slice none 0 0] := Bx.new_ (by simp)
  have hfA : Fr No W0 (((W0.alloc (.cells #[.slice (some ⟨b, off, none⟩) p.keepers.length cap] 34)).alloc (.cells #[.int .i64 k, .string s] 27)).alloc (.cells #[.string ⟨#[]⟩, .string ⟨#[]⟩, .slice none 0 0, .slice none 0 0] 114)) := (((Fr.refl No W0).alloc _).alloc _).alloc _
  replace c0 := hfA.keep0 c0
  replace c1 := hfA.keep0 c1
  replace d0 := hfA.keep0 d0
  replace d1 := hfA.keep0 d1
  replace d2 := hfA.keep0 d2
  replace d3 := hfA.keep0 d3
  go_enter Tryz.func57, Tryz.ntmps57
  go_wp2_with fail
  generalize (((W0.alloc (.cells #[.slice (some ⟨b, off, none⟩) p.keepers.length cap] 34)).alloc (.cells #[.int .i64 k, .string s] 27)).alloc (.cells #[.string ⟨#[]⟩, .string ⟨#[]⟩, .slice none 0 0, .slice none 0 0] 114)) = wA at *
  have b0 := hB.c1
  obtain ⟨k0, k1⟩ := hK.c2
  obtain ⟨r0, r1, r2, r3⟩ := hZ.c4
  have fr := fun j => hZ.frozen j
  have hl1 := hB.lt
  have hl2 := hK.lt
  have hl3 := hZ.lt
  have hb1 := lt_of_cell c0
  have hb2 := lt_of_cell d0
  go_region_held3 (fun W => W.cell? ⟨b, off + k * 2, none⟩ = some (.slice (some ⟨b2, off2, none⟩) y.owns.length co) ∧ W.cell? ⟨b, off + k * 2 + 1, none⟩ = some (.slice Aa y.asks.length ca) ∧ W.cell? ⟨W0.heap.size, 0, none⟩ = some (.slice (some ⟨b, off, none⟩) p.keepers.length cap) ∧ W.cell? ⟨W0.heap.size + 1, 0, none⟩ = some (.int .i64 k) ∧ W.cell? ⟨W0.heap.size + 1, 1, none⟩ = some (.string s) ∧
      W.cell? ⟨b2, off2 + i * 4, none⟩ = some (.string c.name) ∧ W.cell? ⟨b2, off2 + i * 4 + 1, none⟩ = some (.string c.super) ∧ W.cell? ⟨b2, off2 + i * 4 + 2, none⟩ = some (.slice Af c.fields.length cf) ∧ W.cell? ⟨b2, off2 + i * 4 + 3, none⟩ = some (.slice Am c.methods.length cm)) (go_keep)
    (first | (go_at_call 53; refine (HO _ (hfA.trans0 (by exact frc))).mono ?_; rintro e w2 ⟨rfl, hf2⟩; have hf2 : Fr No wA w2 := (Fr.refl No wA).drew.trans0 hf2; have c0' := hf2.keep0 c0; have c1' := hf2.keep0 c1; have d0' := hf2.keep0 d0; have d1' := hf2.keep0 d1; have d2' := hf2.keep0 d2; have d3' := hf2.keep0 d3; have b0' := (hB.keep hf2).c1; have hK2 := hK.keep hf2; obtain ⟨k0', k1'⟩ := hK2.c2; have hZ2 := hZ.keep hf2; obtain ⟨r0', r1', r2', r3'⟩ := hZ2.c4; have fr' := (fun j => hZ2.frozen j); have hl1' := (hB.keep hf2).lt; have hl2' := hK2.lt; have hl3' := hZ2.lt))
  all_goals go_wp2
  all_goals refine bodyPost_ret (v := .agg #[.string c.name, .string c.super, .slice Af c.fields.length cf, .slice Am c.methods.length cm]) (by simp [results, Tryz.results57, go_sem, *]) rfl ?_
  all_goals exact .mk0 (by have hz := hfA.trans0 hf2; exact frc)
end Go.Proofs.YtghmnkafpnkojaaGreatDoor
