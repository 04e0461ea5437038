/- The reference's layout: all fields of a class, those from above first. -/
import Derived.Test.YthdibgikjekneaaGreatScl
import Derived.Test.YthdibgikjekneaaGreatLys
import Derived.Test.YthdibgikjekneaaGreatGet
namespace Go.Proofs.YthdibgikjekneaaGreat
open Go.RowKit

theorem ownsRow_keepO {w w' : World} {X : Nat → Prop} {base sz n : Nat} {e : TypeId} {v : Value} {xs : List Value} (h : w.ownsRow base e sz v n xs) (hf : Fr X w w') (hX : ∀ q, v.ownBlock = some q → ¬ X q) : w'.ownsRow base e sz v n xs := by
  obtain ⟨hl, h | ⟨g, cap, cur, rfl, hg, hb, h1, h2, h3, h4⟩⟩ := h
  · exact ⟨hl, .inl h⟩
  · have hb' : Bx w g e cur := hb
    exact ⟨hl, .inr ⟨g, cap, cur, rfl, hg, hb'.keepX hf (hX g rfl), h1, h2, h3, h4⟩⟩
theorem Fr.fill4 {X : Nat → Prop} {a w : World} {g : Nat} {c0 c1 c2 c3 : Value} (h : Fr X a w) (hg : X g) : Fr X a ((((w.setCell ⟨g, 0, none⟩ c0).setCell ⟨g, 1, none⟩ c1).setCell ⟨g, 2, none⟩ c2).setCell ⟨g, 3, none⟩ c3) :=
  (((h.setCellX (p := ⟨g, 0, none⟩) hg c0).setCellX (p := ⟨g, 1, none⟩) hg c1).setCellX (p := ⟨g, 2, none⟩) hg c2).setCellX (p := ⟨g, 3, none⟩) hg c3
theorem Fr.fill4n {X : Nat → Prop} {a w : World} {g : Nat} {c0 c1 c2 c3 : Value} (h : Fr X a w) (hg : a.heap.size ≤ g) : Fr X a ((((w.setCell ⟨g, 0, none⟩ c0).setCell ⟨g, 1, none⟩ c1).setCell ⟨g, 2, none⟩ c2).setCell ⟨g, 3, none⟩ c3) :=
  (((h.setCell (p := ⟨g, 0, none⟩) hg c0).setCell (p := ⟨g, 1, none⟩) hg c1).setCell (p := ⟨g, 2, none⟩) hg c2).setCell (p := ⟨g, 3, none⟩) hg c3
def SLayPost (L : List LFld) (w : World) (e : Ending) (w' : World) : Prop := ∃ v, e = .returned v ∧ Sl No w' 5 LFldC v L ∧ Fr No w w'
set_option maxRecDepth 100000 in
set_option maxHeartbeats 8000000 in
theorem s_layout (X : Nat → Prop) (p : Plan) (v : Value) (k0 : Nat) (s0 : Str) (i0 : Nat) (rs : List Ref) (w : World) (hp : lodB p = true) (h : Sl X w 2 (KprC X w) v p.keepers) (hh : Here p ⟨k0, s0⟩ k0 i0) (hs : s0.size ≤ maxLen) (hch : chainOf p ⟨k0, s0⟩ = some rs) :
    Calls Tryz.prog 104 #[.agg #[v], .agg #[.int .i64 k0, .string s0]] w (SLayPost (layL p rs) w) := by
  obtain ⟨A, cap, rfl, hcap, hlen⟩ := h.form
  have hkw := fun W (hW : Fr No w W) => h.keep (R' := KprC X W) hW (fun _ h => h.elim) (fun _ _ _ h => h.keep hW (fun _ h => h.elim))
  have HC := fun W (hW : Fr No w W) => s_chain X p _ k0 s0 i0 W hp (hkw W hW) hh hs
  have hB := (Bx.new w 32 #[.slice A p.keepers.length cap]).alloc (.cells #[.int .i64 k0, .string s0] 34)
  have hall : AllHere p rs := chain_here hp hh hch
  have hl6 : rs.length ≤ 6 := chainOf_len hch
  unfold SChainPost at HC
  rw [hch] at HC
  dsimp only [Option.getD_some, Option.isSome_some] at HC
  obtain ⟨i0', hi, hz0, hz1, hz2⟩ := info_parts info_lf
  replace hi := Lib.hid hi
  replace hz0 := Lib.hid hz0
  replace hz1 := Lib.hid hz1
  replace hz2 := Lib.hid hz2
  clear h hch hh
  go_enter Tryz.func104, Tryz.ntmps104
  go_wp2_with (go_at_call 125; refine (HC _ frc).mono ?_; rintro e w2 ⟨v2, rfl, hsl, hf2⟩; obtain ⟨A2, c2, rfl, _, _⟩ := hsl.form)
  have q2 : Fr No w w2 := frc
  have hBk := hB.keep (show Fr No _ w2 from hf2)
  have hrow0 : (w2.alloc (.cells #[] 232)).ownsRow w2.heap.size 232 5 (.slice (some ⟨w2.heap.size, 0, none⟩) 0 0) (accJ p rs 0).length ((accJ p rs 0).flatMap lfCells) := by
    rw [accJ_zero]
    exact ⟨rfl, .inr ⟨w2.heap.size, 0, #[], rfl, Nat.le_refl _, World.alloc_heap_new w2 _, Nat.le_refl _, Nat.zero_le _, rfl, rfl⟩⟩
  clear hf2 hB HC
  go_loopw [7, 8] (fun u i wr => ∃ j : Nat, j ≤ rs.length ∧ i = .int .i64 ((rs.length : Int) - 1 - j) ∧ wr.ownsRow w2.heap.size 232 5 u (accJ p rs j).length ((accJ p rs j).flatMap lfCells) ∧ Fr No w2 wr) (fun _ i _ => (intOf i + 1).toNat)
  case atStart => exact ⟨0, Nat.zero_le _, by simp, hrow0, (Fr.refl _ _).alloc _⟩
  case round =>
    clear hrow0
    obtain ⟨j, hj, rfl, hrow, hwr⟩ := hrel
    by_cases hlt : j < rs.length
    · have hk : rs.length - 1 - j < rs.length := by omega
      have hO : bwOK rs j (0, rs[rs.length - 1 - j]) ∨ True := .inr trivial
      have hst : accJ p rs (j + 1) = layAdd rs[rs.length - 1 - j] (accJ p rs j) (clsAt p rs[rs.length - 1 - j]).fields := accJ_step p (x := ((rs.length : Int) - 1 - j, rs[rs.length - 1 - j])) ⟨hlt, rfl, List.getElem?_eq_getElem hk⟩
      obtain ⟨hrn, kq, iq, hhq⟩ := hall _ (List.getElem_mem hk)
      have hl3 := accJ_len hp hall (j + 1)
      obtain ⟨b, off, rfl, _, c0, c1, _⟩ := hsl.ref hk
      generalize rs[rs.length - 1 - j] = r at *
      obtain ⟨qk, qn⟩ := r
      obtain rfl : qk = (kq : Int) := hhq.1
      dsimp only at c0 c1 hrn
      obtain ⟨Af, cf, Am, cm, hCR, HC2⟩ := s_class X p _ kq qn iq w2 (hkw w2 q2) hhq hrn
      have hfl := (show Sl X w2 3 FldC (.slice Af (clsAt p ⟨kq, qn⟩).fields.length cf) (clsAt p ⟨kq, qn⟩).fields by obtain ⟨_, _, he, _, _, h, _⟩ := hCR; cases he; exact h)
      have HCl := fun W (hW : Fr No wr W) => HC2 W (hwr.trans0 hW)
      have KB := (hBk.keep hwr).r1
      have K0 := fun W (hW : Fr No wr W) => (hwr.trans0 hW).keep0 c0
      have K1 := fun W (hW : Fr No wr W) => (hwr.trans0 hW).keep0 c1
      have hidx : ((rs.length : Int) - 1 - j).toNat = rs.length - 1 - j := by omega
      rw [hst] at hl3
      replace hst := Lib.hid hst
      generalize clsAt p ⟨kq, qn⟩ = cl at *
      have cl0 := lt_of_cell c0
      obtain ⟨Av, cv, rfl⟩ := ownsRow_len2 hrow
      clear hCR hO
      go_wp2_with fail
      refine wp_region_monL 7 [isV (.agg #[.slice A p.keepers.length cap]), isV (.slice (some ⟨b, off, none⟩) rs.length c2), isV (.int .i64 ((rs.length : Int) - 1 - j)), isV (.pointer (some ⟨b, off + (rs.length - 1 - j) * 2, none⟩)), isV (.agg #[.int .i64 kq, .string qn]), isV (.agg #[.string cl.name, .string cl.super, .slice Af cl.fields.length cf, .slice Am cl.methods.length cm]), atB 79 #[.string ⟨#[]⟩, .string ⟨#[]⟩, .slice none 0 0, .slice none 0 0] wr.heap.size] [false, false, false, false, false, false, true] [false, false, false, false, false, false, false] ?_ (by kernel_rfl) (by kernel_rfl) ?_ ?_ ?_ ?_
      · intro x hx hb v W h
        simp only [List.zip_cons_cons, List.zip_nil_left, List.mem_cons, List.not_mem_nil, or_false] at hx
        rcases hx with rfl | rfl | rfl | rfl | rfl | rfl | rfl <;> first | (cases hb; done) | exact atB_bk h
      · intro o ho d hd; simp only [List.take_succ_cons, List.take_zero, List.mem_cons, List.not_mem_nil, or_false] at ho; rcases ho with rfl | rfl | rfl | rfl | rfl | rfl | rfl <;> (cases hd; simp)
      · intro x hx
        simp only [List.mem_cons, List.not_mem_nil, or_false] at hx
        rcases hx with rfl | rfl | rfl | rfl | rfl | rfl | rfl
        · exact isV_mono _
        · exact isV_mono _
        · exact isV_mono _
        · exact isV_mono _
        · exact isV_mono _
        · exact isV_mono _
        · exact atB_mono _ _ _
      · intro k o ho a' W hW hoff hdep
        have hbs := hW.size
        have H2 := hoff 2 (by simp)
        have H5 := hoff 5 (by simp)
        have H8 := hoff 8 (by simp)
        simp only [Act.eval] at H2 H5 H8
        simp only [List.take_succ_cons, List.take_zero] at ho hdep
        rcases k with _ | _ | _ | _ | _ | _ | _ | k
        all_goals (first | (simp at ho; done) | skip)
        all_goals simp only [List.getElem?_cons_zero, List.getElem?_cons_succ, Option.some.injEq] at ho
        all_goals subst ho
        · refine ⟨fun h => absurd h (by decide), fun _ => ?_⟩
          unfold opGives
          simp [execOp, Act.eval, go_sem, givesUpon, *]
          exact ⟨Fr.refl _ _, rfl⟩
        · refine ⟨fun h => absurd h (by decide), fun _ => ?_⟩
          unfold opGives
          simp [execOp, Act.eval, H5, go_sem, givesUpon]
          exact ⟨Fr.refl _ _, rfl⟩
        · refine ⟨fun h => absurd h (by decide), fun _ => ?_⟩
          unfold opGives
          simp [execOp, Act.eval, H8, go_sem, givesUpon]
          exact ⟨Fr.refl _ _, rfl⟩
        · have D26 : a'.eval (.tmp 26) = .slice (some ⟨b, off, none⟩) rs.length c2 := hdep ⟨1, .data⟩ (by simp) rfl _ 26 rfl rfl
          have D27 : a'.eval (.tmp 27) = .int .i64 ((rs.length : Int) - 1 - j) := hdep ⟨2, .data⟩ (by simp) rfl _ 27 rfl rfl
          simp only [Act.eval] at D26 D27
          refine ⟨fun h => absurd h (by decide), fun _ => ?_⟩
          unfold opGives
          simp [execOp, Act.eval, go_sem, givesUpon, ↓IntWalk.iteOmega, *]
          exact ⟨Fr.refl _ _, rfl⟩
        · have D28 : a'.eval (.tmp 28) = .pointer (some ⟨b, off + (rs.length - 1 - j) * 2, none⟩) := hdep ⟨3, .data⟩ (by simp) rfl _ 28 rfl rfl
          simp only [Act.eval] at D28
          refine ⟨fun h => absurd h (by decide), fun _ => ?_⟩
          unfold opGives
          simp [execOp, Act.eval, go_sem, givesUpon, *]
          exact ⟨Fr.refl _ _, rfl⟩
        · have D25 : a'.eval (.tmp 25) = .agg #[.slice A p.keepers.length cap] := hdep ⟨0, .data⟩ (by simp) rfl _ 25 rfl rfl
          have D29 : a'.eval (.tmp 29) = .agg #[.int .i64 kq, .string qn] := hdep ⟨4, .data⟩ (by simp) rfl _ 29 rfl rfl
          simp only [Act.eval] at D25 D29
          refine ⟨fun h => absurd h (by decide), fun _ => ?_⟩
          unfold opGives
          simp [Act.eval, D25, D29, go_sem, givesUpon]
          exact (HCl _ hW).mono fun e w' h => ⟨_, h.1, h.2, rfl⟩
        · refine ⟨fun h => absurd h (by decide), fun _ => ?_⟩
          unfold opGives
          simp [execOp, go_sem, givesUpon]
          exact ⟨(Fr.refl _ _).alloc _, ⟨_, rfl, Bx.new_ rfl, hbs⟩, Nat.le_refl _⟩
      intro vs WR hWR hv hne
      have e0 : vs 0 = _ := hv 0 (by omega)
      have e1 : vs 1 = _ := hv 1 (by omega)
      have e2 : vs 2 = _ := hv 2 (by omega)
      have e3 : vs 3 = _ := hv 3 (by omega)
      have e4 : vs 4 = _ := hv 4 (by omega)
      have e5 : vs 5 = _ := hv 5 (by omega)
      obtain ⟨b6, e6, hb6, hl6⟩ := hv 6 (by omega)
      simp only [List.take_succ_cons, List.take_zero, List.drop_succ_cons, List.drop_zero, putsL, if_true, Nat.zero_add, Nat.reduceAdd, e0, e1, e2, e3, e4, e5, e6]
      simp only [Act.put, List.setIfInBounds_toArray, List.set_cons_zero, List.set_cons_succ]
      clear e0 e1 e2 e3 e4 e5 e6 hv
      clear K0 K1 KB HCl HC2
      have hrowR := ownsRow_keepX hrow hWR (fun _ h => h.elim)
      have hz6 := hb6
      obtain ⟨z0, z1, z2, z3⟩ := hz6.c4
      have zf := fun j => hz6.frozen j
      have zl := hz6.lt
      go_wp2_with fail
      refine wp_world (fun W => Bx W b6 79 #[.string cl.name, .string cl.super, .slice Af cl.fields.length cf, .slice Am cl.methods.length cm] ∧ W.ownsRow w2.heap.size 232 5 (.slice Av (accJ p rs j).length cv) (accJ p rs j).length ((accJ p rs j).flatMap lfCells) ∧ Fr No wr W) ?_ ?_
      · exact ⟨hb6.fill4, ownsRow_keepO hrowR ((Fr.refl (fun x => x = b6) _).fill4 rfl) (fun q e => own_ty_ne hrowR hb6 (by decide) q e), hWR.fill4n hl6⟩
      rintro W7 ⟨hB7, hrow7, hf7⟩
      have hw7 : Fr No w2 W7 := hwr.trans0 hf7
      have hb6n : w2.heap.size ≤ b6 := Nat.le_trans hwr.size hl6
      clear hrowR hz6 z0 z1 z2 z3 zf zl hb6 hrow hf7 hwr hWR
      clear hl6
      go_loopw [7, 10] (fun u i wq => ∃ (i' : Nat) (xs : List LFld), i' ≤ cl.fields.length ∧ i = .int .i64 i' ∧ Hid (layAdd ⟨kq, qn⟩ (accJ p rs j) cl.fields = layAdd ⟨kq, qn⟩ xs (cl.fields.drop i')) ∧ xs.length = (accJ p rs j).length + i' ∧ Bx wq b6 79 #[.string cl.name, .string cl.super, .slice Af cl.fields.length cf, .slice Am cl.methods.length cm] ∧
        wq.ownsRow w2.heap.size 232 5 u xs.length (xs.flatMap lfCells) ∧ Fr No w2 wq) (fun _ i _ => cl.fields.length - (intOf i).toNat)
      case atStart => exact ⟨0, accJ p rs j, Nat.zero_le _, rfl, rfl, rfl, hB7, hrow7, hw7⟩
      case round =>
        clear hrow7 hB7 hw7
        obtain ⟨i, xs, hi2, rfl, hd, hxl, hBq, hrowq, hwq⟩ := hrel
        obtain ⟨Au, cu, rfl⟩ := ownsRow_len2 hrowq
        obtain ⟨z0, z1, z2, z3⟩ := hBq.c4
        have zl := hBq.lt
        by_cases hi3 : i < cl.fields.length
        · obtain ⟨bf, of, rfl, _, g0, g1, g2, _, hfz⟩ := (hfl.keep (R' := FldC) hwq (fun _ h => h.elim) (fun _ _ _ h => h)).fld hi3
          rw [List.drop_eq_getElem_cons hi3, layAdd_cons] at hd
          have hd := Lib.hid hd
          have gl := lt_of_cell g0
          generalize cl.fields[i] = f at *
          have KB := hBq.r4
          have K0 := fun W (hW : Fr No wr W) => (hwq.trans0 hW).keep0 c0
          have K1 := fun W (hW : Fr No wr W) => (hwq.trans0 hW).keep0 c1
          have KG1 := fun W (hW : Fr No wr W) => hW.keep0 g1
          have KG2 := fun W (hW : Fr No wr W) => hW.keep0 g2
          have hxm : xs.length ≤ 1000 := by unfold layAdd at hl3; simp [layGo_len] at hl3; omega
          have hws := hwq.size
          have hfm : cl.fields.length ≤ 1000 := by unfold layAdd at hl3; simp [layGo_len] at hl3; omega
          replace hxl := Lib.hid hxl
          go_wp2_with fail
          refine wp_region_monL 15 [isV (.slice Au xs.length cu), isV (.slice (some ⟨b, off, none⟩) rs.length c2), isV (.int .i64 ((rs.length : Int) - 1 - j)), isV (.pointer (some ⟨b, off + (rs.length - 1 - j) * 2, none⟩)), isV (.agg #[.int .i64 kq, .string qn]), isV (.slice Au xs.length cu), isV (.int .i64 xs.length), isV (.pointer (some ⟨b6, 2, none⟩)), isV (.slice (some ⟨bf, of, none⟩) cl.fields.length cf), isV (.int .i64 i), isV (.pointer (some ⟨bf, of + i * 3, none⟩)), isV (.pointer (some ⟨bf, of + i * 3 + 1, none⟩)), isV (.agg #[.int .i64 f.kind.kind, .string f.kind.name]), isV (.agg #[.int .i64 kq, .string qn, .int .i64 xs.length, .int .i64 f.kind.kind, .string f.kind.name]), slB 232 #[.int .i64 kq, .string qn, .int .i64 xs.length, .int .i64 f.kind.kind, .string f.kind.name] 1 wr.heap.size] [false, false, false, false, false, false, false, false, false, false, false, false, false, false, true] [false, false, false, false, false, false, false, false, false, false, false, false, false, false, false] ?_ (by kernel_rfl) (by kernel_rfl) ?_ ?_ ?_ ?_
          · intro x hx hb v W h
            simp only [List.zip_cons_cons, List.zip_nil_left, List.mem_cons, List.not_mem_nil, or_false] at hx
            rcases hx with rfl | rfl | rfl | rfl | rfl | rfl | rfl | rfl | rfl | rfl | rfl | rfl | rfl | rfl | rfl <;> first | (cases hb; done) | exact atB_bk h | exact slB_bk h
          · intro o ho d hd; simp only [List.take_succ_cons, List.take_zero, List.mem_cons, List.not_mem_nil, or_false] at ho; rcases ho with rfl | rfl | rfl | rfl | rfl | rfl | rfl | rfl | rfl | rfl | rfl | rfl | rfl | rfl | rfl <;> (cases hd; simp)
          · intro x hx
            simp only [List.mem_cons, List.not_mem_nil, or_false] at hx
            rcases hx with rfl | rfl | rfl | rfl | rfl | rfl | rfl | rfl | rfl | rfl | rfl | rfl | rfl | rfl | rfl
            · exact isV_mono _
            · exact isV_mono _
            · exact isV_mono _
            · exact isV_mono _
            · exact isV_mono _
            · exact isV_mono _
            · exact isV_mono _
            · exact isV_mono _
            · exact isV_mono _
            · exact isV_mono _
            · exact isV_mono _
            · exact isV_mono _
            · exact isV_mono _
            · exact isV_mono _
            · exact slB_mono _ _ _ _
          · intro k o ho a' W hW hoff hdep
            have hbs := hW.size
            have H7 := hoff 7 (by simp)
            have H5 := hoff 5 (by simp)
            have H8 := hoff 8 (by simp)
            have H9 := hoff 9 (by simp)
            have H10 := hoff 10 (by simp)
            simp only [Act.eval] at H7 H5 H8 H9 H10
            simp only [List.take_succ_cons, List.take_zero] at ho hdep
            rcases k with _ | _ | _ | _ | _ | _ | _ | _ | _ | _ | _ | _ | _ | _ | _ | k
            all_goals (first | (simp at ho; done) | skip)
            all_goals simp only [List.getElem?_cons_zero, List.getElem?_cons_succ, Option.some.injEq] at ho
            all_goals subst ho
            · refine ⟨fun h => absurd h (by decide), fun _ => ?_⟩
              unfold opGives
              simp [execOp, Act.eval, H7, go_sem, givesUpon]
              exact ⟨Fr.refl _ _, rfl⟩
            · refine ⟨fun h => absurd h (by decide), fun _ => ?_⟩
              unfold opGives
              simp [execOp, Act.eval, H5, go_sem, givesUpon]
              exact ⟨Fr.refl _ _, rfl⟩
            · refine ⟨fun h => absurd h (by decide), fun _ => ?_⟩
              unfold opGives
              simp [execOp, Act.eval, H8, go_sem, givesUpon]
              exact ⟨Fr.refl _ _, rfl⟩
            · have D39 : a'.eval (.tmp 39) = .slice (some ⟨b, off, none⟩) rs.length c2 := hdep ⟨1, .data⟩ (by simp) rfl _ 39 rfl rfl
              have D40 : a'.eval (.tmp 40) = .int .i64 ((rs.length : Int) - 1 - j) := hdep ⟨2, .data⟩ (by simp) rfl _ 40 rfl rfl
              simp only [Act.eval] at D39 D40
              refine ⟨fun h => absurd h (by decide), fun _ => ?_⟩
              unfold opGives
              simp [execOp, Act.eval, go_sem, givesUpon, ↓IntWalk.iteOmega, *]
              exact ⟨Fr.refl _ _, rfl⟩
            · have D41 : a'.eval (.tmp 41) = .pointer (some ⟨b, off + (rs.length - 1 - j) * 2, none⟩) := hdep ⟨3, .data⟩ (by simp) rfl _ 41 rfl rfl
              simp only [Act.eval] at D41
              refine ⟨fun h => absurd h (by decide), fun _ => ?_⟩
              unfold opGives
              simp [execOp, Act.eval, go_sem, givesUpon, *]
              exact ⟨Fr.refl _ _, rfl⟩
            · refine ⟨fun h => absurd h (by decide), fun _ => ?_⟩
              unfold opGives
              simp [execOp, Act.eval, H7, go_sem, givesUpon]
              exact ⟨Fr.refl _ _, rfl⟩
            · have D43 : a'.eval (.tmp 43) = .slice Au xs.length cu := hdep ⟨5, .data⟩ (by simp) rfl _ 43 rfl rfl
              simp only [Act.eval] at D43
              refine ⟨fun h => absurd h (by decide), fun _ => ?_⟩
              unfold opGives
              simp [Act.eval, D43, go_sem, givesUpon]
              exact ⟨Fr.refl _ _, rfl⟩
            · refine ⟨fun h => absurd h (by decide), fun _ => ?_⟩
              unfold opGives
              simp [execOp, Act.eval, H9, go_sem, givesUpon]
              exact ⟨Fr.refl _ _, rfl⟩
            · have D45 : a'.eval (.tmp 45) = .pointer (some ⟨b6, 2, none⟩) := hdep ⟨7, .data⟩ (by simp) rfl _ 45 rfl rfl
              simp only [Act.eval] at D45
              refine ⟨fun h => absurd h (by decide), fun _ => ?_⟩
              unfold opGives
              simp [execOp, Act.eval, go_sem, givesUpon, *]
              exact ⟨Fr.refl _ _, rfl⟩
            · refine ⟨fun h => absurd h (by decide), fun _ => ?_⟩
              unfold opGives
              simp [execOp, Act.eval, H10, go_sem, givesUpon]
              exact ⟨Fr.refl _ _, rfl⟩
            · have D46 : a'.eval (.tmp 46) = .slice (some ⟨bf, of, none⟩) cl.fields.length cf := hdep ⟨8, .data⟩ (by simp) rfl _ 46 rfl rfl
              have D47 : a'.eval (.tmp 47) = .int .i64 i := hdep ⟨9, .data⟩ (by simp) rfl _ 47 rfl rfl
              simp only [Act.eval] at D46 D47
              refine ⟨fun h => absurd h (by decide), fun _ => ?_⟩
              unfold opGives
              simp [execOp, Act.eval, go_sem, givesUpon, *]
              exact ⟨Fr.refl _ _, rfl⟩
            · have D48 : a'.eval (.tmp 48) = .pointer (some ⟨bf, of + i * 3, none⟩) := hdep ⟨10, .data⟩ (by simp) rfl _ 48 rfl rfl
              simp only [Act.eval] at D48
              refine ⟨fun h => absurd h (by decide), fun _ => ?_⟩
              unfold opGives
              simp [execOp, Act.eval, D48, go_sem, givesUpon]
              exact ⟨Fr.refl _ _, rfl⟩
            · have D49 : a'.eval (.tmp 49) = .pointer (some ⟨bf, of + i * 3 + 1, none⟩) := hdep ⟨11, .data⟩ (by simp) rfl _ 49 rfl rfl
              simp only [Act.eval] at D49
              refine ⟨fun h => absurd h (by decide), fun _ => ?_⟩
              unfold opGives
              simp [execOp, Act.eval, go_sem, givesUpon, *]
              exact ⟨Fr.refl _ _, rfl⟩
            · have D42 : a'.eval (.tmp 42) = .agg #[.int .i64 kq, .string qn] := hdep ⟨4, .data⟩ (by simp) rfl _ 42 rfl rfl
              have D44 : a'.eval (.tmp 44) = .int .i64 xs.length := hdep ⟨6, .data⟩ (by simp) rfl _ 44 rfl rfl
              have D50 : a'.eval (.tmp 50) = .agg #[.int .i64 f.kind.kind, .string f.kind.name] := hdep ⟨12, .data⟩ (by simp) rfl _ 50 rfl rfl
              simp [Act.eval] at D42 D44 D50
              refine ⟨fun h => absurd h (by decide), fun _ => ?_⟩
              unfold opGives
              simp [execOp, Act.eval, D42, D44, D50, go_sem, givesUpon]
              exact ⟨Fr.refl _ _, rfl⟩
            · have D51 : a'.eval (.tmp 51) = .agg #[.int .i64 kq, .string qn, .int .i64 xs.length, .int .i64 f.kind.kind, .string f.kind.name] := hdep ⟨13, .data⟩ (by simp) rfl _ 51 rfl rfl
              simp [Act.eval] at D51
              refine ⟨fun h => absurd h (by decide), fun _ => ?_⟩
              unfold opGives
              simp [execOp, Act.eval, D51, go_sem, givesUpon]
              exact ⟨(Fr.refl _ _).alloc _, ⟨_, rfl, Bx.new_ rfl, hbs⟩, Nat.le_refl _⟩
          intro vs WR hWR hv hne
          have e0 : vs 0 = _ := hv 0 (by omega)
          have e1 : vs 1 = _ := hv 1 (by omega)
          have e2 : vs 2 = _ := hv 2 (by omega)
          have e3 : vs 3 = _ := hv 3 (by omega)
          have e4 : vs 4 = _ := hv 4 (by omega)
          have e5 : vs 5 = _ := hv 5 (by omega)
          have e6 : vs 6 = _ := hv 6 (by omega)
          have e7 : vs 7 = _ := hv 7 (by omega)
          have e8 : vs 8 = _ := hv 8 (by omega)
          have e9 : vs 9 = _ := hv 9 (by omega)
          have e10 : vs 10 = _ := hv 10 (by omega)
          have e11 : vs 11 = _ := hv 11 (by omega)
          have e12 : vs 12 = _ := hv 12 (by omega)
          have e13 : vs 13 = _ := hv 13 (by omega)
          obtain ⟨b14, e14, hb14, hl14⟩ := hv 14 (by omega)
          simp only [List.take_succ_cons, List.take_zero, List.drop_succ_cons, List.drop_zero, putsL, if_true, Nat.zero_add, Nat.reduceAdd, e0, e1, e2, e3, e4, e5, e6, e7, e8, e9, e10, e11, e12, e13, e14]
          simp only [Act.put, List.setIfInBounds_toArray, List.set_cons_zero, List.set_cons_succ]
          clear e0 e1 e2 e3 e4 e5 e6 e7 e8 e9 e10 e11 e12 e13 e14 hv
          clear hne K0 K1 KG1 KG2 KB z0 z1 z2 z3 zl g0 g1 g2
          have hrowR := ownsRow_keepX hrowq hWR (fun _ h => h.elim)
          have hBR := hBq.keep hWR
          have hown := own_ty_ne hrowR hBR (by decide)
          replace hown := Lib.hid hown
          have hrl := hrowR.lt
          replace hrl := Lib.hid hrl
          have hsR := hWR.size
          have hsrc : Hid (∀ (j : Nat) (u : Value), (lfCells ⟨⟨(kq : Int), qn⟩, xs.length, f.kind⟩)[j]? = some u → WR.cell? ((⟨b14, 0, none⟩ : Addr).add j) = some u) := fun j u h => by
            rw [show ((⟨b14, 0, none⟩ : Addr).add j) = ⟨b14, j, none⟩ by simp [Addr.add]; omega]
            rw [hb14.cell]
            simpa [lfCells] using h
          clear hrowq hBq
          go_wp2_with (at_builtin; refine wpList_append_own _ rfl _ _ 180 rfl w2.heap.size 232 i0' (.agg #[.int .i64 0, .string ⟨#[]⟩, .int .i64 0, .int .i64 0, .string ⟨#[]⟩]) 5 56 Tryz.underlying180 hi.out hz0.out hz1.out hz2.out rfl (by decide) _ _ _ rfl hrowR ⟨b14, 0, none⟩ 1 1 (lfCells ⟨⟨kq, qn⟩, xs.length, f.kind⟩) rfl rfl hsrc.out (by simp [lfCells, Value.oneCell']) (by unfold maxLen; omega) (by omega) (by omega) ?_; intro v' w1 hown' hgrow hnil; obtain ⟨g', cap', rfl⟩ := ownsRow_succ hown'; have hfo : Fr (fun x => (Value.slice Au xs.length cu).ownBlock = some x) WR w1 := (Fr.refl _ WR).grown hgrow (fun k e => .inr e))
          have hfw : Fr No w2 w1 := (hwq.trans0 hWR).trans hfo (fun x hx (hy : (Value.slice Au xs.length cu).ownBlock = some x) => by have := (hrl.out x hy).1; omega)
          have hr1 : w1.ownsRow w2.heap.size 232 5 (.slice (some ⟨g', 0, none⟩) (xs.length + 1) cap') (xs ++ [(⟨⟨kq, qn⟩, xs.length, f.kind⟩ : LFld)]).length ((xs ++ [(⟨⟨kq, qn⟩, xs.length, f.kind⟩ : LFld)]).flatMap lfCells) := by
            rw [List.flatMap_append, List.length_append]
            simpa using hown'
          go_roundw
          case rel => exact ⟨i + 1, xs ++ [⟨⟨kq, qn⟩, xs.length, f.kind⟩], by omega, by go_num, hd.out, by have := hxl.out; simp; omega, hBR.keepX hfo (fun e => hown.out _ e rfl), hr1, hfw⟩
          case measure => simp [intOf]; omega
        · have HS : Hid (layAdd ⟨kq, qn⟩ (accJ p rs j) cl.fields = xs) := by have := hd.out; rwa [List.drop_eq_nil_of_le (by omega), layAdd_nil] at this
          have hacc : accJ p rs (j + 1) = xs := hst.out.trans HS.out
          go_wp2
          go_roundw
          case rel => exact ⟨j + 1, by omega, by congr 1; omega, by rw [hacc]; exact hrowq, hwq⟩
          case measure => simp [intOf]; omega
    · obtain rfl : j = rs.length := by omega
      have e0 : (rs.length : Int) - 1 - (rs.length : Int) = -1 := by omega
      rw [e0]
      rw [accJ_all] at hrow
      clear e0
      obtain ⟨Av, cv, rfl⟩ := ownsRow_len2 hrow
      have hsm := lay_small hp (show AllHere p rs.reverse from fun x hx => hall x (by simpa using hx)) 0
      go_wp2
      go_ret
      exact ⟨_, rfl, (flds_sl hrow hsm).weaken (fun _ h => h.elim) (fun _ _ _ h => h), q2.trans0 hwr⟩
end Go.Proofs.YthdibgikjekneaaGreat

/- The name of a field of a layout (the reference's l4Name). -/
namespace Go.Proofs.YthdibgikjekneaaGreat
open Go.RowKit

def cntF (F : List (Ref × Fld)) (q : Ref) (k : Nat) : Nat := ((F.take k).filter (fun x => refIs x.1 q)).length
theorem cntF_step {F : List (Ref × Fld)} {q : Ref} {k : Nat} (hk : k < F.length) : cntF F q (k + 1) = cntF F q k + if refIs F[k].1 q then 1 else 0 := by
  unfold cntF
  rw [List.take_succ_eq_append_getElem hk, List.filter_append, List.length_append]
  congr 1
  cases h : refIs F[k].1 q <;> simp [h]
theorem cntF_le (F : List (Ref × Fld)) (q : Ref) (k : Nat) : cntF F q k ≤ k := by
  unfold cntF
  exact Nat.le_trans (List.length_filter_le _ _) (by simp; omega)
set_option maxRecDepth 100000 in
set_option maxHeartbeats 8000000 in
theorem s_name (X Y : Nat → Prop) (p : Plan) (v u : Value) (F : List (Ref × Fld)) (i kq iq : Nat) (qn : Str) (f : Fld) (w : World) (h : Sl X w 2 (KprC X w) v p.keepers) (hu : Sl Y w 5 LFldC u (layGo 0 F)) (hi : i < F.length) (hF : F.length ≤ 100) (hq : F[i] = (⟨kq, qn⟩, f))
    (hh : Here p ⟨kq, qn⟩ kq iq) (hqn : qn.size ≤ maxLen) (hd : (clsAt p ⟨kq, qn⟩).fields[cntF F ⟨kq, qn⟩ i]? = some f) :
    Calls Tryz.prog 217 #[.agg #[v], u, .int .i64 i] w (Gives (.string f.name) w) := by
  obtain ⟨A, cap, rfl, hcap, hlen⟩ := h.form
  have hll := layGo_len F 0
  obtain ⟨A2, c2, rfl, _, _⟩ := hu.form
  obtain ⟨b, off, rfl, _, t0, t1, _, _, _, _, _⟩ := hu.lfld (k := i) (by omega)
  rw [layGo_get _ _ _ hi, hq] at t0 t1
  dsimp only at t0 t1
  have hrow : ∀ k (hk : k < F.length), w.cell? ⟨b, off + k * 5, none⟩ = some (.int .i64 F[k].1.keeper) ∧ w.cell? ⟨b, off + k * 5 + 1, none⟩ = some (.string F[k].1.name) := fun k hk => by
    obtain ⟨b', off', he, _, q0, q1, _⟩ := hu.lfld (k := k) (by omega)
    simp only [Option.some.injEq, Addr.mk.injEq, and_true] at he
    obtain ⟨rfl, rfl⟩ := he
    rw [layGo_get _ _ _ hk] at q0 q1
    exact ⟨q0, q1⟩
  have hB := Bx.new w 32 #[.slice A p.keepers.length cap]
  replace hrow := Lib.hid hrow
  obtain ⟨Af, cf, Am, cm, hCR, HC⟩ := s_class X p _ kq qn iq w h hh hqn
  have hfl := (show Sl X w 3 FldC (.slice Af (clsAt p ⟨kq, qn⟩).fields.length cf) (clsAt p ⟨kq, qn⟩).fields by obtain ⟨_, _, he, _, _, h, _⟩ := hCR; cases he; exact h)
  obtain ⟨hd1, hd2⟩ := List.getElem?_eq_some_iff.1 hd
  obtain ⟨bf, of, rfl, _, g0, _, _, hgn, _⟩ := hfl.fld hd1
  rw [hd2] at g0 hgn
  rw [hll]
  replace hll := Lib.hid hll
  replace hu := Lib.hid hu
  have hb1 := lt_of_cell t0
  have hb2 := lt_of_cell g0
  have hci : cntF F ⟨kq, qn⟩ 0 = 0 := by simp [cntF]
  clear h hd hd2 hfl hCR
  go_enter Tryz.func217, Tryz.ntmps217
  go_wp2
  go_loopw [7, 8] (fun n j wr => ∃ k : Nat, k ≤ i ∧ n = .int .i64 (cntF F ⟨kq, qn⟩ k) ∧ j = .int .i64 k ∧ Fr No (w.alloc (.cells #[.slice A p.keepers.length cap] 32)) wr) (fun _ j _ => i - (intOf j).toNat)
  case atStart => exact ⟨0, Nat.zero_le _, by rw [hci]; rfl, rfl, Fr.refl _ _⟩
  case round =>
    clear hci
    obtain ⟨k, hk, rfl, rfl, hwr⟩ := hrel
    have hw2 : Fr No w wr := ((Fr.refl No w).alloc _).trans0 hwr
    have hkl := cntF_le F ⟨kq, qn⟩ k
    by_cases hlt : k < i
    · have hkF : k < F.length := by omega
      obtain ⟨q0, q1⟩ := hrow.out k hkF
      have hst := cntF_step (q := ⟨kq, qn⟩) hkF
      generalize F[k] = x at *
      obtain ⟨⟨xk, xn⟩, xf⟩ := x
      dsimp only at q0 q1 hst
      have K0 := fun W (hW : Fr No wr W) => (hw2.trans0 hW).keep0 q0
      have K1 := fun W (hW : Fr No wr W) => (hw2.trans0 hW).keep0 q1
      have K2 := fun W (hW : Fr No wr W) => (hw2.trans0 hW).keep0 t0
      have K3 := fun W (hW : Fr No wr W) => (hw2.trans0 hW).keep0 t1
      generalize hcn : cntF F ⟨kq, qn⟩ k = n at *
      have hcase : (refIs ⟨xk, xn⟩ ⟨kq, qn⟩ = false ∧ ¬ xk = (kq : Int)) ∨ (refIs ⟨xk, xn⟩ ⟨kq, qn⟩ = false ∧ xk = (kq : Int) ∧ ¬ xn.toList = qn.toList) ∨ (refIs ⟨xk, xn⟩ ⟨kq, qn⟩ = true ∧ xk = (kq : Int) ∧ xn = qn) := by
        cases hr : refIs ⟨xk, xn⟩ ⟨kq, qn⟩
        · by_cases h1 : xk = (kq : Int)
          · exact .inr (.inl ⟨rfl, h1, by unfold refIs at hr; simpa [h1] using hr⟩)
          · exact .inl ⟨rfl, h1⟩
        · have := refIs_iff.1 hr
          rw [Ref.mk.injEq] at this
          exact .inr (.inr ⟨rfl, this⟩)
      go_wp2_with fail
      refine wp_region_monL 10 [isV (.slice (some ⟨b, off, none⟩) F.length c2), isV (.int .i64 k), isV (.pointer (some ⟨b, off + k * 5, none⟩)), isV (.pointer (some ⟨b, off + k * 5, none⟩)), isV (.agg #[.int .i64 xk, .string xn]), isV (.slice (some ⟨b, off, none⟩) F.length c2), isV (.int .i64 i), isV (.pointer (some ⟨b, off + i * 5, none⟩)), isV (.pointer (some ⟨b, off + i * 5, none⟩)), isV (.agg #[.int .i64 kq, .string qn])] [false, false, false, false, false, false, false, false, false, false] [false, false, false, false, false, false, false, false, false, false] ?_ (by kernel_rfl) (by kernel_rfl) ?_ ?_ ?_ ?_
      · intro x hx hb v W h
        simp only [List.zip_cons_cons, List.zip_nil_left, List.mem_cons, List.not_mem_nil, or_false] at hx
        rcases hx with rfl | rfl | rfl | rfl | rfl | rfl | rfl | rfl | rfl | rfl <;> first | (cases hb; done) | exact atB_bk h
      · intro o ho d hd; simp only [List.take_succ_cons, List.take_zero, List.mem_cons, List.not_mem_nil, or_false] at ho; rcases ho with rfl | rfl | rfl | rfl | rfl | rfl | rfl | rfl | rfl | rfl <;> (cases hd; simp)
      · intro x hx
        simp only [List.mem_cons, List.not_mem_nil, or_false] at hx
        rcases hx with rfl | rfl | rfl | rfl | rfl | rfl | rfl | rfl | rfl | rfl
        · exact isV_mono _
        · exact isV_mono _
        · exact isV_mono _
        · exact isV_mono _
        · exact isV_mono _
        · exact isV_mono _
        · exact isV_mono _
        · exact isV_mono _
        · exact isV_mono _
        · exact isV_mono _
      · intro k o ho a' W hW hoff hdep
        have hbs := hW.size
        have H1 := hoff 1 (by simp)
        have H8 := hoff 8 (by simp)
        have H2 := hoff 2 (by simp)
        simp only [Act.eval] at H1 H8 H2
        simp only [List.take_succ_cons, List.take_zero] at ho hdep
        rcases k with _ | _ | _ | _ | _ | _ | _ | _ | _ | _ | k
        all_goals (first | (simp at ho; done) | skip)
        all_goals simp only [List.getElem?_cons_zero, List.getElem?_cons_succ, Option.some.injEq] at ho
        all_goals subst ho
        · refine ⟨fun h => absurd h (by decide), fun _ => ?_⟩
          unfold opGives
          simp [execOp, Act.eval, H1, go_sem, givesUpon]
          exact ⟨Fr.refl _ _, rfl⟩
        · refine ⟨fun h => absurd h (by decide), fun _ => ?_⟩
          unfold opGives
          simp [execOp, Act.eval, H8, go_sem, givesUpon]
          exact ⟨Fr.refl _ _, rfl⟩
        · have D14 : a'.eval (.tmp 14) = .slice (some ⟨b, off, none⟩) F.length c2 := hdep ⟨0, .data⟩ (by simp) rfl _ 14 rfl rfl
          have D15 : a'.eval (.tmp 15) = .int .i64 k := hdep ⟨1, .data⟩ (by simp) rfl _ 15 rfl rfl
          simp only [Act.eval] at D14 D15
          refine ⟨fun h => absurd h (by decide), fun _ => ?_⟩
          unfold opGives
          simp [execOp, Act.eval, go_sem, givesUpon, *]
          exact ⟨Fr.refl _ _, rfl⟩
        · have D16 : a'.eval (.tmp 16) = .pointer (some ⟨b, off + k * 5, none⟩) := hdep ⟨2, .data⟩ (by simp) rfl _ 16 rfl rfl
          simp only [Act.eval] at D16
          refine ⟨fun h => absurd h (by decide), fun _ => ?_⟩
          unfold opGives
          simp [execOp, Act.eval, D16, go_sem, givesUpon]
          exact ⟨Fr.refl _ _, rfl⟩
        · have D17 : a'.eval (.tmp 17) = .pointer (some ⟨b, off + k * 5, none⟩) := hdep ⟨3, .data⟩ (by simp) rfl _ 17 rfl rfl
          simp only [Act.eval] at D17
          refine ⟨fun h => absurd h (by decide), fun _ => ?_⟩
          unfold opGives
          simp [execOp, Act.eval, go_sem, givesUpon, *]
          exact ⟨Fr.refl _ _, rfl⟩
        · refine ⟨fun h => absurd h (by decide), fun _ => ?_⟩
          unfold opGives
          simp [execOp, Act.eval, H1, go_sem, givesUpon]
          exact ⟨Fr.refl _ _, rfl⟩
        · refine ⟨fun h => absurd h (by decide), fun _ => ?_⟩
          unfold opGives
          simp [execOp, Act.eval, H2, go_sem, givesUpon]
          exact ⟨Fr.refl _ _, rfl⟩
        · have D19 : a'.eval (.tmp 19) = .slice (some ⟨b, off, none⟩) F.length c2 := hdep ⟨5, .data⟩ (by simp) rfl _ 19 rfl rfl
          have D20 : a'.eval (.tmp 20) = .int .i64 i := hdep ⟨6, .data⟩ (by simp) rfl _ 20 rfl rfl
          simp only [Act.eval] at D19 D20
          refine ⟨fun h => absurd h (by decide), fun _ => ?_⟩
          unfold opGives
          simp [execOp, Act.eval, go_sem, givesUpon, *]
          exact ⟨Fr.refl _ _, rfl⟩
        · have D21 : a'.eval (.tmp 21) = .pointer (some ⟨b, off + i * 5, none⟩) := hdep ⟨7, .data⟩ (by simp) rfl _ 21 rfl rfl
          simp only [Act.eval] at D21
          refine ⟨fun h => absurd h (by decide), fun _ => ?_⟩
          unfold opGives
          simp [execOp, Act.eval, D21, go_sem, givesUpon]
          exact ⟨Fr.refl _ _, rfl⟩
        · have D22 : a'.eval (.tmp 22) = .pointer (some ⟨b, off + i * 5, none⟩) := hdep ⟨8, .data⟩ (by simp) rfl _ 22 rfl rfl
          simp only [Act.eval] at D22
          refine ⟨fun h => absurd h (by decide), fun _ => ?_⟩
          unfold opGives
          simp [execOp, Act.eval, go_sem, givesUpon, *]
          exact ⟨Fr.refl _ _, rfl⟩
      intro vs WR hWR hv hne
      have e0 : vs 0 = _ := hv 0 (by omega)
      have e1 : vs 1 = _ := hv 1 (by omega)
      have e2 : vs 2 = _ := hv 2 (by omega)
      have e3 : vs 3 = _ := hv 3 (by omega)
      have e4 : vs 4 = _ := hv 4 (by omega)
      have e5 : vs 5 = _ := hv 5 (by omega)
      have e6 : vs 6 = _ := hv 6 (by omega)
      have e7 : vs 7 = _ := hv 7 (by omega)
      have e8 : vs 8 = _ := hv 8 (by omega)
      have e9 : vs 9 = _ := hv 9 (by omega)
      simp only [List.take_succ_cons, List.take_zero, List.drop_succ_cons, List.drop_zero, putsL, if_true, Nat.zero_add, Nat.reduceAdd, e0, e1, e2, e3, e4, e5, e6, e7, e8, e9]
      simp only [Act.put, List.setIfInBounds_toArray, List.set_cons_zero, List.set_cons_succ]
      clear e0 e1 e2 e3 e4 e5 e6 e7 e8 e9 hv
      clear K0 K1 K2 K3
      have hwR := hwr.trans0 hWR
      rcases hcase with ⟨hr, h1⟩ | ⟨hr, rfl, h2⟩ | ⟨hr, rfl, rfl⟩
      · rw [hr] at hst
        replace hst := Lib.hid hst
        clear hr
        go_wp2
        go_roundw
        case rel => exact ⟨k + 1, by omega, by rw [hst.out]; rfl, by go_num, hwR⟩
        case measure => simp [intOf]; omega
      · rw [hr] at hst
        replace hst := Lib.hid hst
        clear hr
        go_wp2
        go_roundw
        case rel => exact ⟨k + 1, by omega, by rw [hst.out]; rfl, by go_num, hwR⟩
        case measure => simp [intOf]; omega
      · rw [hr] at hst
        replace hst := Lib.hid hst
        clear hr
        go_wp2
        go_roundw
        case rel => exact ⟨k + 1, by omega, by rw [hst.out]; go_num, by go_num, hwR⟩
        case measure => simp [intOf]; omega
    · obtain rfl : k = i := by omega
      have HCl := fun W (hW : Fr No wr W) => HC W (hw2.trans0 hW)
      have KB := (hB.keep hwr).r1
      have K2 := fun W (hW : Fr No wr W) => (hw2.trans0 hW).keep0 t0
      have K3 := fun W (hW : Fr No wr W) => (hw2.trans0 hW).keep0 t1
      have KG := fun W (hW : Fr No wr W) => (hw2.trans0 hW).keep0 g0
      have hws := hw2.size
      generalize cntF F ⟨kq, qn⟩ k = d at *
      go_wp2_with fail
      refine wp_region_monL 12 [isV (.agg #[.slice A p.keepers.length cap]), isV (.slice (some ⟨b, off, none⟩) F.length c2), isV (.int .i64 k), isV (.pointer (some ⟨b, off + k * 5, none⟩)), isV (.pointer (some ⟨b, off + k * 5, none⟩)), isV (.agg #[.int .i64 kq, .string qn]), isV (.agg #[.string (clsAt p ⟨kq, qn⟩).name, .string (clsAt p ⟨kq, qn⟩).super, .slice (some ⟨bf, of, none⟩) (clsAt p ⟨kq, qn⟩).fields.length cf, .slice Am (clsAt p ⟨kq, qn⟩).methods.length cm]), isV (.slice (some ⟨bf, of, none⟩) (clsAt p ⟨kq, qn⟩).fields.length cf), isV (.int .i64 d), isV (.pointer (some ⟨bf, of + d * 3, none⟩)), isV (.pointer (some ⟨bf, of + d * 3, none⟩)), isV (.string f.name)] [false, false, false, false, false, false, false, false, false, false, false, false] [false, false, false, false, false, false, false, false, false, false, false, false] ?_ (by kernel_rfl) (by kernel_rfl) ?_ ?_ ?_ ?_
      · intro x hx hb v W h
        simp only [List.zip_cons_cons, List.zip_nil_left, List.mem_cons, List.not_mem_nil, or_false] at hx
        rcases hx with rfl | rfl | rfl | rfl | rfl | rfl | rfl | rfl | rfl | rfl | rfl | rfl <;> first | (cases hb; done) | exact atB_bk h
      · intro o ho d hd; simp only [List.take_succ_cons, List.take_zero, List.mem_cons, List.not_mem_nil, or_false] at ho; rcases ho with rfl | rfl | rfl | rfl | rfl | rfl | rfl | rfl | rfl | rfl | rfl | rfl <;> (cases hd; simp)
      · intro x hx
        simp only [List.mem_cons, List.not_mem_nil, or_false] at hx
        rcases hx with rfl | rfl | rfl | rfl | rfl | rfl | rfl | rfl | rfl | rfl | rfl | rfl
        · exact isV_mono _
        · exact isV_mono _
        · exact isV_mono _
        · exact isV_mono _
        · exact isV_mono _
        · exact isV_mono _
        · exact isV_mono _
        · exact isV_mono _
        · exact isV_mono _
        · exact isV_mono _
        · exact isV_mono _
        · exact isV_mono _
      · intro k o ho a' W hW hoff hdep
        have hbs := hW.size
        have H3 := hoff 3 (by simp)
        have H1 := hoff 1 (by simp)
        have H2 := hoff 2 (by simp)
        have H7 := hoff 7 (by simp)
        simp only [Act.eval] at H3 H1 H2 H7
        simp only [List.take_succ_cons, List.take_zero] at ho hdep
        rcases k with _ | _ | _ | _ | _ | _ | _ | _ | _ | _ | _ | _ | k
        all_goals (first | (simp at ho; done) | skip)
        all_goals simp only [List.getElem?_cons_zero, List.getElem?_cons_succ, Option.some.injEq] at ho
        all_goals subst ho
        · refine ⟨fun h => absurd h (by decide), fun _ => ?_⟩
          unfold opGives
          simp [execOp, Act.eval, go_sem, givesUpon, *]
          exact ⟨Fr.refl _ _, rfl⟩
        · refine ⟨fun h => absurd h (by decide), fun _ => ?_⟩
          unfold opGives
          simp [execOp, Act.eval, H1, go_sem, givesUpon]
          exact ⟨Fr.refl _ _, rfl⟩
        · refine ⟨fun h => absurd h (by decide), fun _ => ?_⟩
          unfold opGives
          simp [execOp, Act.eval, H2, go_sem, givesUpon]
          exact ⟨Fr.refl _ _, rfl⟩
        · have D28 : a'.eval (.tmp 28) = .slice (some ⟨b, off, none⟩) F.length c2 := hdep ⟨1, .data⟩ (by simp) rfl _ 28 rfl rfl
          have D29 : a'.eval (.tmp 29) = .int .i64 k := hdep ⟨2, .data⟩ (by simp) rfl _ 29 rfl rfl
          simp only [Act.eval] at D28 D29
          refine ⟨fun h => absurd h (by decide), fun _ => ?_⟩
          unfold opGives
          simp [execOp, Act.eval, go_sem, givesUpon, *]
          exact ⟨Fr.refl _ _, rfl⟩
        · have D30 : a'.eval (.tmp 30) = .pointer (some ⟨b, off + k * 5, none⟩) := hdep ⟨3, .data⟩ (by simp) rfl _ 30 rfl rfl
          simp only [Act.eval] at D30
          refine ⟨fun h => absurd h (by decide), fun _ => ?_⟩
          unfold opGives
          simp [execOp, Act.eval, D30, go_sem, givesUpon]
          exact ⟨Fr.refl _ _, rfl⟩
        · have D31 : a'.eval (.tmp 31) = .pointer (some ⟨b, off + k * 5, none⟩) := hdep ⟨4, .data⟩ (by simp) rfl _ 31 rfl rfl
          simp only [Act.eval] at D31
          refine ⟨fun h => absurd h (by decide), fun _ => ?_⟩
          unfold opGives
          simp [execOp, Act.eval, go_sem, givesUpon, *]
          exact ⟨Fr.refl _ _, rfl⟩
        · have D27 : a'.eval (.tmp 27) = .agg #[.slice A p.keepers.length cap] := hdep ⟨0, .data⟩ (by simp) rfl _ 27 rfl rfl
          have D32 : a'.eval (.tmp 32) = .agg #[.int .i64 kq, .string qn] := hdep ⟨5, .data⟩ (by simp) rfl _ 32 rfl rfl
          simp only [Act.eval] at D27 D32
          refine ⟨fun h => absurd h (by decide), fun _ => ?_⟩
          unfold opGives
          simp [Act.eval, D27, D32, go_sem, givesUpon]
          exact (HCl _ hW).mono fun e w' h => ⟨_, h.1, h.2, rfl⟩
        · have D33 : a'.eval (.tmp 33) = .agg #[.string (clsAt p ⟨kq, qn⟩).name, .string (clsAt p ⟨kq, qn⟩).super, .slice (some ⟨bf, of, none⟩) (clsAt p ⟨kq, qn⟩).fields.length cf, .slice Am (clsAt p ⟨kq, qn⟩).methods.length cm] := hdep ⟨6, .data⟩ (by simp) rfl _ 33 rfl rfl
          simp only [Act.eval] at D33
          refine ⟨fun h => absurd h (by decide), fun _ => ?_⟩
          unfold opGives
          simp [execOp, Act.eval, D33, go_sem, givesUpon]
          exact ⟨Fr.refl _ _, rfl⟩
        · refine ⟨fun h => absurd h (by decide), fun _ => ?_⟩
          unfold opGives
          simp [execOp, Act.eval, H7, go_sem, givesUpon]
          exact ⟨Fr.refl _ _, rfl⟩
        · have D34 : a'.eval (.tmp 34) = .slice (some ⟨bf, of, none⟩) (clsAt p ⟨kq, qn⟩).fields.length cf := hdep ⟨7, .data⟩ (by simp) rfl _ 34 rfl rfl
          have D35 : a'.eval (.tmp 35) = .int .i64 d := hdep ⟨8, .data⟩ (by simp) rfl _ 35 rfl rfl
          simp only [Act.eval] at D34 D35
          refine ⟨fun h => absurd h (by decide), fun _ => ?_⟩
          unfold opGives
          simp [execOp, Act.eval, go_sem, givesUpon, *]
          exact ⟨Fr.refl _ _, rfl⟩
        · have D36 : a'.eval (.tmp 36) = .pointer (some ⟨bf, of + d * 3, none⟩) := hdep ⟨9, .data⟩ (by simp) rfl _ 36 rfl rfl
          simp only [Act.eval] at D36
          refine ⟨fun h => absurd h (by decide), fun _ => ?_⟩
          unfold opGives
          simp [execOp, Act.eval, D36, go_sem, givesUpon]
          exact ⟨Fr.refl _ _, rfl⟩
        · have D37 : a'.eval (.tmp 37) = .pointer (some ⟨bf, of + d * 3, none⟩) := hdep ⟨10, .data⟩ (by simp) rfl _ 37 rfl rfl
          simp only [Act.eval] at D37
          refine ⟨fun h => absurd h (by decide), fun _ => ?_⟩
          unfold opGives
          simp [execOp, Act.eval, go_sem, givesUpon, *]
          exact ⟨Fr.refl _ _, rfl⟩
      intro vs WR hWR hv hne
      have e0 : vs 0 = _ := hv 0 (by omega)
      have e1 : vs 1 = _ := hv 1 (by omega)
      have e2 : vs 2 = _ := hv 2 (by omega)
      have e3 : vs 3 = _ := hv 3 (by omega)
      have e4 : vs 4 = _ := hv 4 (by omega)
      have e5 : vs 5 = _ := hv 5 (by omega)
      have e6 : vs 6 = _ := hv 6 (by omega)
      have e7 : vs 7 = _ := hv 7 (by omega)
      have e8 : vs 8 = _ := hv 8 (by omega)
      have e9 : vs 9 = _ := hv 9 (by omega)
      have e10 : vs 10 = _ := hv 10 (by omega)
      have e11 : vs 11 = _ := hv 11 (by omega)
      simp only [List.take_succ_cons, List.take_zero, List.drop_succ_cons, List.drop_zero, putsL, if_true, Nat.zero_add, Nat.reduceAdd, e0, e1, e2, e3, e4, e5, e6, e7, e8, e9, e10, e11]
      simp only [Act.put, List.setIfInBounds_toArray, List.set_cons_zero, List.set_cons_succ]
      clear e0 e1 e2 e3 e4 e5 e6 e7 e8 e9 e10 e11 hv
      clear K2 K3 KG KB
      go_wp2
      go_ret
      exact .mk rfl (hw2.trans0 hWR)
end Go.Proofs.YthdibgikjekneaaGreat
