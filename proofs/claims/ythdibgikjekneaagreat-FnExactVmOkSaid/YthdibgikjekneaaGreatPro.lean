/- The law FnExactVmOk holds: for all keepers and each run, the program's VmOk returns what the reference's returns, and leaves its arguments as they were; no condition. -/
import Derived.Test.YthdibgikjekneaaGreatOpV
import Derived.Test.YthdibgikjekneaaGreatLwo
import Derived.Test.YthdibgikjekneaaGreatFco
import Derived.ProofKit
import Derived.Below
import Derived.ChangeSame
import Derived.LaidMore
import Derived.Carry
import Derived.OpenShut
namespace Go.Proofs.YthdibgikjekneaaGreat
open Go.RowKit

section
variable {H : Type} {enc : TypeId × Value → H} {W : World} {sp : Nat → Bool} {held : Bool}
theorem openOut {fuel : Nat} {cs : List Value} {x : DataW H × List MemPlace} (h : DataW.trod enc Tryz.prog W 0 sp held fuel 3 cs = some x) : ∃ k : Int, OutC cs k := by
  have hl : ∃ c, cs = [c] := by
    obtain ⟨n, e0, _⟩ := DataW.trod_int Tryz.underlying3 h
    exact ⟨_, e0⟩
  obtain ⟨n, e0, _, _⟩ := DataW.trod_int Tryz.underlying3 h
  exact ⟨n, e0⟩
set_option maxHeartbeats 1000000 in
theorem openSt {fuel : Nat} {cs : List Value} {x : DataW H × List MemPlace} (h : DataW.trod enc Tryz.prog W 0 sp held fuel 66 cs = some x) : ∃ k : St, StC No W cs k ∧ (∀ o ∈ k.heap, (Lit.int .i64 o.of_.keeper).wf = true) ∧ ∀ f ∈ k.frames, (Lit.int .i64 f.of_.of_.keeper).wf = true := by
  obtain ⟨xs, m, rfl, rfl, hl, hxl, hi⟩ := DataW.trod_struct Tryz.underlying66 h
  obtain ⟨c0, c1, c2, c3, c4, c5, rfl⟩ := lst6 (hl.trans (show Tryz.prog.cellsOf 66 = 6 by kernel_rfl))
  clear hl h
  obtain ⟨y0, hy0⟩ : ∃ y, xs[0]? = some y := ⟨xs[0]'(by rw [hxl]; decide), List.getElem?_eq_getElem _⟩
  have h0 : DataW.trod enc Tryz.prog W 0 sp held m 3 [c0] = some y0 := by
    have h9 : DataW.trod enc Tryz.prog W 0 sp held m 3 (([c0, c1, c2, c3, c4, c5].drop 0).take (Tryz.prog.cellsOf 3)) = xs[0]? := hi 0 _ rfl
    rw [show Tryz.prog.cellsOf 3 = 1 by kernel_rfl, hy0] at h9
    exact h9
  obtain ⟨y1, hy1⟩ : ∃ y, xs[1]? = some y := ⟨xs[1]'(by rw [hxl]; decide), List.getElem?_eq_getElem _⟩
  have h1 : DataW.trod enc Tryz.prog W 0 sp held m 63 [c1] = some y1 := by
    have h9 : DataW.trod enc Tryz.prog W 0 sp held m 63 (([c0, c1, c2, c3, c4, c5].drop 1).take (Tryz.prog.cellsOf 63)) = xs[1]? := hi 1 _ rfl
    rw [show Tryz.prog.cellsOf 63 = 1 by kernel_rfl, hy1] at h9
    exact h9
  obtain ⟨y2, hy2⟩ : ∃ y, xs[2]? = some y := ⟨xs[2]'(by rw [hxl]; decide), List.getElem?_eq_getElem _⟩
  have h2 : DataW.trod enc Tryz.prog W 0 sp held m 47 [c2] = some y2 := by
    have h9 : DataW.trod enc Tryz.prog W 0 sp held m 47 (([c0, c1, c2, c3, c4, c5].drop 2).take (Tryz.prog.cellsOf 47)) = xs[2]? := hi 2 _ rfl
    rw [show Tryz.prog.cellsOf 47 = 1 by kernel_rfl, hy2] at h9
    exact h9
  obtain ⟨y3, hy3⟩ : ∃ y, xs[3]? = some y := ⟨xs[3]'(by rw [hxl]; decide), List.getElem?_eq_getElem _⟩
  have h3 : DataW.trod enc Tryz.prog W 0 sp held m 64 [c3] = some y3 := by
    have h9 : DataW.trod enc Tryz.prog W 0 sp held m 64 (([c0, c1, c2, c3, c4, c5].drop 3).take (Tryz.prog.cellsOf 64)) = xs[3]? := hi 3 _ rfl
    rw [show Tryz.prog.cellsOf 64 = 1 by kernel_rfl, hy3] at h9
    exact h9
  obtain ⟨y4, hy4⟩ : ∃ y, xs[4]? = some y := ⟨xs[4]'(by rw [hxl]; decide), List.getElem?_eq_getElem _⟩
  have h4 : DataW.trod enc Tryz.prog W 0 sp held m 49 [c4, c5] = some y4 := by
    have h9 : DataW.trod enc Tryz.prog W 0 sp held m 49 (([c0, c1, c2, c3, c4, c5].drop 4).take (Tryz.prog.cellsOf 49)) = xs[4]? := hi 4 _ rfl
    rw [show Tryz.prog.cellsOf 49 = 2 by kernel_rfl, hy4] at h9
    exact h9
  obtain ⟨a0, e0, _, _⟩ := DataW.trod_int Tryz.underlying3 h0
  obtain rfl := (List.cons.inj e0).1
  obtain ⟨a1, s1⟩ := openSl (R := FrmW No W) Tryz.underlying63 (show Tryz.prog.cellsOf 196 = 6 by kernel_rfl) (by decide) (fun _ _ _ h => openFrm h) h1
  obtain ⟨a2, s2⟩ := openSl (R := ObjW No W) Tryz.underlying47 (show Tryz.prog.cellsOf 110 = 3 by kernel_rfl) (by decide) (fun _ _ _ h => openObj h) h2
  obtain ⟨a3, s3⟩ := openSl (R := OutC) Tryz.underlying64 (show Tryz.prog.cellsOf 3 = 1 by kernel_rfl) (by decide) (fun _ _ _ h => openOut h) h3
  obtain ⟨a4, hk4⟩ := openVal h4
  have e4 : [c4, c5] = [.int .i64 a4.kind, .int .i64 a4.n] := hk4
  simp only [List.cons.injEq, and_true] at e4
  obtain ⟨rfl, rfl⟩ := e4
  exact ⟨⟨a0, a1, a2, a3, a4⟩, ⟨_, _, _, rfl, s1.weaken (fun _ h => h) (fun _ _ _ h => h.1), s2.weaken (fun _ h => h) (fun _ _ _ h => h.1), s3⟩, fun o ho => let ⟨_, hc⟩ := s2.mem o ho; hc.2, fun f hf => let ⟨_, hc⟩ := s1.mem f hf; hc.2⟩

end
end Go.Proofs.YthdibgikjekneaaGreat

/- The row. -/
namespace Go.Proofs.YthdibgikjekneaaGreat
open Go.ChangeShapes Go.WideShapes Go.ChangeAt Go.RowKit

theorem own : ownKnob Tryz.prog.godebug = none := by kernel_rfl
theorem laidOut : laidOutB Tryz.prog = true := by kernel_rfl

section
variable {H : Type} {enc : TypeId × Value → H} {P : Program}
theorem post_of_below {f : Func} {s : ChangeSpec} {apart fresh handsOn again : Bool} {W W' : World} {args : Array Value} {v : Value} {ds gs : List (DataW H)} {before pa pv : List MemPlace}
    (hW : DataW.Whole enc P f.params.toList s.vars apart W args.toList ds gs before)
    (hres : ∀ (b : Nat) (sp : Nat → Bool) (hd : Bool), DataW.TrodAll enc P W' b sp hd f.resultTypes.toList (v.resultList f.resultTypes.size) (s.fn H (ds ++ gs)).results [])
    (hargs : ∀ sp : Nat → Bool, (∀ p ∈ before, sp p.block = true) → DataW.TrodAll enc P W' 0 sp true f.params.toList args.toList (s.fn H (ds ++ gs)).args pa)
    (hvars : ∀ sp : Nat → Bool, (∀ p ∈ before, sp p.block = true) → DataW.TrodVars enc P W' sp s.vars (s.fn H (ds ++ gs)).vars pv)
    (hps : before = pa ++ pv) (hb : Below W.heap.size W W')
    (hok : ∀ (j : Nat) (t : TypeId) (r : Value), f.resultTypes[j]? = some t → (v.resultList f.resultTypes.size)[j]? = some r → Value.okWide P W' .any 0 t r) :
    s.post enc P f apart fresh handsOn again W args v W' := by
  have hlt : ∀ p ∈ before, p.block < W.heap.size := fun p hp => hW.lt p hp
  have hold : ∀ p ∈ before, (fun b => decide (b < W.heap.size)) p.block = true := fun p hp => by simpa using hlt p hp
  refine ⟨ds, gs, before, [], pa, pv, hW, hres _ _ _, hargs _ hold, hvars _ hold, World.keptBut_mono (fun p hp => ⟨hp, ?_⟩) (hb.frame (· ∈ before)), fun _ => ?_⟩
  · rw [hps, List.mem_append] at hp
    exact Or.inr hp
  · obtain ⟨_, _, _, _, _, hz, hn⟩ := hW
    refine ⟨hok, _, _, ([] ++ pa) ++ pv, ⟨[] ++ pa, pv, trodAll_append (hargs _ (fun _ _ => rfl)) (hres _ _ _), hvars _ (fun _ _ => rfl), rfl, ?_, ?_⟩, ?_⟩
    · intro b off hp
      have hin : MemPlace.cell b off ∈ before := by rw [hps]; simpa using hp
      rw [hb.frozen (hlt _ hin)]
      exact hz b off hin
    · intro ha
      have := hn ha
      rw [hps] at this
      simpa using this
    · intro p hp _
      rw [hps]
      simpa using hp
end


set_option maxRecDepth 100000 in
theorem lifted (os : Os) (started : os.Started) (H : Type) (enc : TypeId × Value → H) :
    ReturnsInHanded {} Tryz.checked os 7 .any (Rows.fnExactVmOkSpec.pre6 enc Tryz.prog Tryz.f7 [] false)
      (Rows.fnExactVmOkSpec.post enc Tryz.prog Tryz.f7 false true false false) := by
  refine returnsInHanded_of_change (C := Tryz.checked) own started (by kernel_rfl) Tryz.func7
    (ChangeSpec.witness6 (enc := enc) (C := Tryz.checked) (os := os) false ⟨#[], #[.agg #[.slice none 0 0], .agg #[.int .i64 0, .slice none 0 0, .slice none 0 0, .slice none 0 0, .int .i64 0, .int .i64 0]], []⟩ 8 (by kernel_rfl) (by kernel_rfl) (by kernel_rfl) (by kernel_rfl)) ?_
  intro W base args ds gs before hval0 hW _ _
  have hval : ∀ (j : Nat) t v, Tryz.f7.params[j]? = some t → args[j]? = some v → Value.okWide Tryz.prog W .any base t v := hval0
  have hW' := hW
  obtain ⟨p, q, hA0, hV, rfl, hfz, hnd⟩ := hW
  have hA : DataW.TrodAll enc Tryz.prog W 0 (fun _ => true) true Tryz.f7.params.toList args.toList ds p := hA0
  rw [Tryz.params7] at hA hval
  obtain ⟨v0, v1, d0, d1, p0, p1, rfl, rfl, rfl, h0, h1⟩ := trodAll_two hA
  obtain ⟨rfl, rfl⟩ := trodVars_none hV
  obtain ⟨arr0, rfl, _⟩ := okWide_struct Tryz.underlying24 (hval 0 _ v0 rfl rfl)
  obtain ⟨arr1, rfl, _⟩ := okWide_struct Tryz.underlying66 (hval 1 _ v1 rfl rfl)
  have g0 := h0
  have g1 := h1
  obtain ⟨fuel0, hf0⟩ := h0
  obtain ⟨fuel1, hf1⟩ := h1
  obtain ⟨c, hc⟩ := openPlan hf0
  obtain ⟨s, hs1, hs2, hs3⟩ := openSt hf1
  clear hA0 hval0
  have hlt : ∀ x ∈ p0 ++ p1 ++ [], x.block < W.heap.size := fun x hx => hW'.lt x hx
  refine (law_vmOk c s arr0.toList arr1.toList W hc hs1 hs2 hs3).mono fun e W' ⟨he, hw⟩ => ?_
  subst he
  exact ⟨_, rfl, post_of_below (pa := p0 ++ p1) (pv := []) hW' (fun _ _ _ => trodAll_mk1 (shut_bool Tryz.underlying4 true))
    (fun sp hsp => trodAll_mk2
      (WideElems.Trod_stays laidOut (by kernel_rfl) (of_decide_eq_true (by kernel_rfl)) g0 (fun x hx => hw.below.same (hlt x (by simp [hx]))) (fun x hx => hsp x (by simp [hx])))
      (WideElems.Trod_stays laidOut (by kernel_rfl) (of_decide_eq_true (by kernel_rfl)) g1 (fun x hx => hw.below.same (hlt x (by simp [hx]))) (fun x hx => hsp x (by simp [hx]))))
    (fun _ _ => rfl) (by simp) hw.below (ok_one (by kernel_rfl) rfl (okWide_bool_mk Tryz.underlying4 true))⟩

/-- The row's closed facts, put together. -/
theorem closed : joinedFacts Tryz.pinned.checked.prog 7 Tryz.f7 Rows.fnExactVmOkSpec Rows.fnExactVmOkRow = true := by
  unfold joinedFacts
  refine and_t (and_t (and_t (and_t (and_t (and_t (and_t (and_t (and_t (and_t (and_t (and_t (and_t (and_t (and_t (and_t (and_t (and_t (and_t (and_t (and_t (and_t (and_t (and_t (and_t (and_t (and_t (and_t (and_t (and_t (and_t ?_ fct_laid) fct_rowed) ?_) ?_) ?_) ?_) ?_) ?_) fct_inp) fct_unf) fct_rec) fct_named) ?_) ?_) ?_) ?_) ?_) ?_) ?_) ?_) ?_) ?_) ?_) fct_heard) fct_enter) fct_lifted) fct_make) ?_) ?_) ?_) ?_
  all_goals kernel_rfl

theorem exactVmOk_holds : Rows.FnExactVmOkSaid :=
  OpenClaim.holds_of_wide 7 Tryz.f7 rfl rfl rfl rfl rfl rfl rfl ⟨rfl, rfl, rfl, rfl, rfl⟩ rfl rfl rfl rfl rfl (by kernel_rfl) Tryz.func7 closed
    (of_decide_eq_true (by kernel_rfl)) (by unfold Func.isWrapper; first | (rw [if_pos (by decide +kernel)]; kernel_rfl) | (rw [if_neg (by decide +kernel)]; exact ⟨rfl, rfl⟩))
    (fun os started H enc _ => lifted os started H enc)
#print axioms exactVmOk_holds
end Go.Proofs.YthdibgikjekneaaGreat
