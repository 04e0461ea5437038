/- The program's under and may: is a class under another; is what is known enough. -/
import Derived.Test.YtbalicnnlfennaaGreatG25
import Derived.WalkLawsBesides
namespace Go.Proofs.YtbalicnnlfennaaGreat
open Go.RowKit

set_option maxRecDepth 100000 in
set_option maxHeartbeats 2000000 in
theorem under_ok (l bl n : Nat) (p : Plan) (g : Int → Str → Option Int) (low top : Ref) (w : World) (h : Lodge w l bl n p g) (hs : low.name.size ≤ maxLen) :
    Calls Tryz.prog 91 #[.pointer (some ⟨l, 0, none⟩), .agg #[.int .i64 low.keeper, .string low.name], .agg #[.int .i64 top.keeper, .string top.name]] w (BoolFr (underK p low top) w) := by
  obtain ⟨wA, hwA⟩ : ∃ wA, wA = ((w.alloc (.cells #[.int .i64 low.keeper, .string low.name] 54)).alloc (.cells #[.int .i64 top.keeper, .string top.name] 54)) := ⟨_, rfl⟩
  have hfA : Fr No w wA := hwA ▸ frc
  have K1 := (hwA ▸ bxc : Bx wA (w.heap.size + 1) 54 #[.int .i64 top.keeper, .string top.name]).r2
  have HC := chain_ok l bl n p g low wA (h.keep hfA) hs
  have hU : underK p low top = (chainK p low).any (fun r => refIs r top) := rfl
  generalize underK p low top = V at *
  generalize chainK p low = xs at *
  obtain ⟨rk, rn⟩ := low
  obtain ⟨tk, tn⟩ := top
  replace hU := Lib.hid hU
  dsimp only at *
  clear h
  go_enter Tryz.func91, Tryz.ntmps91
  go_wp2_with fail
  rw [← hwA]
  replace hwA := Lib.hid hwA
  refine HC.mono ?_
  rintro e w1 ⟨v, rfl, hsl, hf1⟩
  obtain ⟨A, cap, rfl, _, hlen⟩ := hsl.form
  unfold maxLen at hlen
  clear HC
  go_wp2
  go_loopw [13] (fun i wr => ∃ j : Nat, j ≤ xs.length ∧ i = .int .i64 j ∧ Hid (∀ x ∈ xs.take j, refIs x ⟨tk, tn⟩ = false) ∧ Fr No w1 wr) (fun i _ => xs.length - (intOf i).toNat)
  case atStart => exact ⟨0, Nat.zero_le _, rfl, by simp [Hid], Fr.refl _ _⟩
  case round =>
    obtain ⟨j, hj, rfl, hn, hf⟩ := hrel
    have q : Fr No wA wr := hf1.trans0 hf
    by_cases hlt : j < xs.length
    · obtain ⟨b, bf, rfl, _, c0, c1, z⟩ := (hsl.keep (R' := RefC) hf (fun _ h => h.elim) (fun _ _ _ h => h)).ref hlt
      have K2 := K1 wr q
      clear hsl
      by_cases hm : refIs xs[j] ⟨tk, tn⟩ = true
      · have hV : V = true := by rw [hU.out, List.any_eq_true]; exact ⟨_, List.getElem_mem hlt, hm⟩
        rw [refIs_iff] at hm
        rw [hm] at c0 c1
        dsimp only at c0 c1
        clear hm hU hn
        go_wp2
        go_ret
        exact .mk hV.symm frc
      · have hV : Hid (∀ x ∈ xs.take (j + 1), refIs x ⟨tk, tn⟩ = false) := by
          intro x hx
          rw [List.take_add_one, List.mem_append] at hx
          rcases hx with hx | hx
          · exact hn.out x hx
          · rw [List.getElem?_eq_getElem hlt] at hx
            simp only [Option.toList_some, List.mem_singleton] at hx
            rw [hx]; simpa using hm
        generalize hxj : xs[j] = x at *
        obtain ⟨xk, xn⟩ := x
        have hx : (xk == tk && xn.toList == tn.toList) = false := by
          have h9 : refIs ⟨xk, xn⟩ ⟨tk, tn⟩ = false := by simpa using hm
          unfold refIs at h9
          simpa using h9
        dsimp only at c0 c1
        clear hm hU hn
        go_wp2
        · rename_i h1 h2
          rw [h1, h2] at hx
          simp at hx
        all_goals refine ⟨⟨j + 1, by omega, by go_num, hV, by exact frc⟩, ?_⟩
        all_goals simp [intOf]
        all_goals omega
    · clear hsl
      have hV : V = false := by
        rw [hU.out, List.any_eq_false]
        intro x hx
        have := hn.out x (by rwa [List.take_of_length_le (by omega)])
        simpa using this
      clear hU hn
      go_wp2
      go_ret
      exact .mk hV.symm frc

set_option maxRecDepth 100000 in
set_option maxHeartbeats 2000000 in
theorem may_ok (l bl n : Nat) (p : Plan) (g : Int → Str → Option Int) (k : Int) (a b : Tag) (w : World) (h : Lodge w l bl n p g) (ha : a.name.size ≤ maxLen) (hb : b.name.size ≤ maxLen) :
    Calls Tryz.prog 140 #[.pointer (some ⟨l, 0, none⟩), .int .i64 k, .agg #[.int .i64 a.kind, .string a.name], .agg #[.int .i64 b.kind, .string b.name]] w (BoolFr (mayK p k a b) w) := by
  have HA := fun W (hW : Fr No w W) => find_ok l bl n p g k a.name W (h.keep hW) ha
  have HB := fun W (hW : Fr No w W) => find_ok l bl n p g k b.name W (h.keep hW) hb
  have HU := fun (h1 : (findK p k a.name).2 = 1) W (hW : Fr No w W) => under_ok l bl n p g (findK p k a.name).1 (findK p k b.name).1 W (h.keep hW) (by obtain ⟨k1, i1, _, e1, _⟩ := findK_here h.1 h1; rw [e1]; exact ha)
  obtain ⟨V, hV⟩ : ∃ V, V = mayK p k a b := ⟨_, rfl⟩
  rw [← hV]
  unfold mayK at hV
  unfold refV at HA HB
  generalize underK p (findK p k a.name).1 (findK p k b.name).1 = U at *
  generalize findK p k a.name = qa at *
  generalize findK p k b.name = qb at *
  obtain ⟨⟨ka, na⟩, ca⟩ := qa
  obtain ⟨⟨kb, nb⟩, cb⟩ := qb
  obtain ⟨ak, an⟩ := a
  obtain ⟨bk, bn⟩ := b
  dsimp only at *
  clear h
  by_cases h0 : bk = 0
  · subst h0
    rw [if_pos rfl] at hV
    clear HA HB HU
    go_enter Tryz.func140, Tryz.ntmps140
    go_wp2
    go_ret
    exact .mk hV.symm frc
  rw [if_neg h0] at hV
  by_cases ht : tagEq ⟨ak, an⟩ ⟨bk, bn⟩ = true
  · rw [if_pos ht] at hV
    rw [tagEq_iff] at ht
    cases ht
    clear HA HB HU
    go_enter Tryz.func140, Tryz.ntmps140
    go_wp2
    go_ret
    exact .mk hV.symm frc
  rw [if_neg ht] at hV
  have hx : ¬ (ak = bk ∧ an.toList = bn.toList) := fun hx => ht (by unfold tagEq; simp [hx.1, hx.2])
  clear ht
  by_cases h2 : bk = 2
  · subst h2
    rw [if_neg (by simp)] at hV
    by_cases h3 : ak = 3
    · subst h3
      rw [if_pos rfl] at hV
      clear HA HB HU hx
      go_enter Tryz.func140, Tryz.ntmps140
      go_wp2
      go_ret
      exact .mk hV.symm frc
    rw [if_neg h3] at hV
    by_cases h4 : ak = 2
    · subst h4
      rw [if_neg (by simp)] at hV
      obtain ⟨wA, hwA⟩ : ∃ wA, wA = ((w.alloc (.cells #[.int .i64 2, .string an] 24)).alloc (.cells #[.int .i64 2, .string bn] 24)) := ⟨_, rfl⟩
      have hfA : Fr No w wA := hwA ▸ frc
      have K1 := (hwA ▸ bxc : Bx wA (w.heap.size + 1) 24 #[.int .i64 2, .string bn]).r2
      have hn : ¬ an.toList = bn.toList := fun h => hx ⟨rfl, h⟩
      clear hx h0
      have hcase : (ca = 1 ∧ cb = 1) ∨ (ca = 1 ∧ ¬ cb = 1) ∨ ¬ ca = 1 := by
        by_cases h1 : ca = 1 <;> by_cases h2 : cb = 1 <;> simp [h1, h2]
      replace hV := Lib.hid hV
      rcases hcase with ⟨rfl, rfl⟩ | ⟨rfl, hc2⟩ | hc1
      · have hE : V = U := by rw [hV.out]; simp
        have HU' := HU rfl
        clear HU hV
        go_enter Tryz.func140, Tryz.ntmps140
        go_wp2_with fail
        rw [← hwA]
        replace hwA := Lib.hid hwA
        refine (HA _ hfA).mono ?_
        rintro e w1 ⟨rfl, hf1⟩
        have z1 := K1 w1 hf1
        have R1 := (Bx.new w1 54 #[.int .i64 ka, .string na])
        go_wp2_with fail
        refine (HB _ (by exact frc)).mono ?_
        rintro e w2 ⟨rfl, hf2⟩
        have R2 := R1.keep hf2
        obtain ⟨y0, y1⟩ := R2.c2
        have yl := R2.lt
        clear z1 R1
        go_wp2_with fail
        refine (HU' _ (by exact frc)).mono ?_
        rintro e w3 ⟨rfl, hf3⟩
        clear y0 y1 yl R2
        go_wp2
        go_ret
        exact .mk hE.symm (by exact frc)
      · have hE : V = false := by rw [hV.out]; simp [hc2]
        clear HU hV
        go_enter Tryz.func140, Tryz.ntmps140
        go_wp2_with fail
        rw [← hwA]
        replace hwA := Lib.hid hwA
        refine (HA _ hfA).mono ?_
        rintro e w1 ⟨rfl, hf1⟩
        have z1 := K1 w1 hf1
        go_wp2_with fail
        refine (HB _ (by exact frc)).mono ?_
        rintro e w2 ⟨rfl, hf2⟩
        clear z1
        go_wp2
        go_ret
        exact .mk hE.symm (by exact frc)
      · have hE : V = false := by rw [hV.out]; simp [hc1]
        clear HU hV
        go_enter Tryz.func140, Tryz.ntmps140
        go_wp2_with fail
        rw [← hwA]
        replace hwA := Lib.hid hwA
        refine (HA _ hfA).mono ?_
        rintro e w1 ⟨rfl, hf1⟩
        have z1 := K1 w1 hf1
        go_wp2_with fail
        refine (HB _ (by exact frc)).mono ?_
        rintro e w2 ⟨rfl, hf2⟩
        clear z1
        go_wp2
        go_ret
        exact .mk hE.symm (by exact frc)
    · rw [if_pos h4] at hV
      clear HA HB HU hx
      go_enter Tryz.func140, Tryz.ntmps140
      go_wp2
      go_ret
      exact .mk hV.symm frc
  · rw [if_pos h2] at hV
    clear HA HB HU
    go_enter Tryz.func140, Tryz.ntmps140
    go_wp2
    all_goals first
      | (go_ret; exact .mk hV.symm frc)
      | (exact absurd ⟨by assumption, by assumption⟩ hx)
end Go.Proofs.YtbalicnnlfennaaGreat

/- The program's own machine: its topmost method, to the next instruction, to another one. -/
namespace Go.Proofs.YtbalicnnlfennaaGreat
open Go.RowKit

section
variable {K : McP} {n : Nat} {s : St} {fs : List Cal} {f : Cal} {m : MLay} {ks : List KC} {k : KC} {w : World}
/-- The machine's cells, as rules for every later world. -/
theorem McS.cells (h : McS K n s m w) : ∀ W, Fr No w W → W.cell? ⟨K.mb, 0, none⟩ = some (.pointer (some ⟨K.l, 0, none⟩)) ∧ W.cell? ⟨K.mb, 1, none⟩ = some (.bool K.look) ∧ W.cell? ⟨K.mb, 2, none⟩ = some (.int .i64 s.status) ∧ W.cell? ⟨K.mb, 3, none⟩ = some m.vc ∧
    W.cell? ⟨K.mb, 4, none⟩ = some m.vh ∧ W.cell? ⟨K.mb, 5, none⟩ = some m.vo ∧ W.cell? ⟨K.mb, 6, none⟩ = some (.int .i64 s.back.kind) ∧ W.cell? ⟨K.mb, 7, none⟩ = some (.int .i64 s.back.n) ∧ (∀ i, W.frozen? ⟨K.mb, i, none⟩ = false) ∧ K.mb < W.heap.size := fun W hW => by
  have hb := h.box.keep hW
  exact ⟨hb.cell 0, hb.cell 1, hb.cell 2, hb.cell 3, hb.cell 4, hb.cell 5, hb.cell 6, hb.cell 7, fun i => hb.frozen i, hb.lt⟩
theorem McT.crow (h : McT K n s fs f m ks k w) : ∃ g c, m.vc = .slice (some ⟨g, 0, none⟩) (fs.length + 1) c ∧ fs.length + 1 ≤ c ∧ c ≤ maxLen ∧ ∀ W, Fr No w W → W.cell? ⟨g, fs.length, none⟩ = some (.pointer (some ⟨k.c, 0, none⟩)) ∧ g < W.heap.size := by
  have hr := h.st.crow
  have hl := h.st.cels.length
  rw [h.fr, h.kc] at hr hl
  have el : (fs ++ [f]).length = fs.length + 1 := by simp
  have ek : ks.length = fs.length := by simpa using hl
  rw [el] at hr
  obtain ⟨g, c, cur, hv, h1, h2, hb, h3, h4, hq⟩ := hr.at_ (by omega)
  refine ⟨g, c, hv, h1, h2, fun W hW => ?_⟩
  have hc := hr.cell hv (j := fs.length) (by omega)
  have he : ((ks ++ [k]).flatMap (calL K).C)[fs.length]? = some (.pointer (some ⟨k.c, 0, none⟩)) := by
    have := flatW_get (calL K).len (ks ++ [k]) ks.length (by simp) 0 (show 0 < (calL K).sz from Nat.one_pos)
    simp only [Nat.add_zero, List.getElem_concat_length] at this
    have e1 : (calL K).sz = 1 := rfl
    rw [e1, Nat.mul_one, ek] at this
    rw [this]
    rfl
  rw [he] at hc
  exact ⟨hW.keep0 hc, (hb.keep hW).lt⟩
theorem McT.ccells (h : McT K n s fs f m ks k w) : ∀ W, Fr No w W → W.cell? ⟨k.c, 0, none⟩ = some (.int .i64 f.of_.of_.keeper) ∧ W.cell? ⟨k.c, 1, none⟩ = some (.string f.of_.of_.name) ∧ W.cell? ⟨k.c, 2, none⟩ = some (.int .i64 f.of_.at_) ∧
    W.cell? ⟨k.c, 5, none⟩ = some (.int .i64 (mthOf K.p f.of_).ret.kind) ∧ W.cell? ⟨k.c, 6, none⟩ = some (.string (mthOf K.p f.of_).ret.name) ∧ W.cell? ⟨k.c, 9, none⟩ = some k.vc ∧ W.cell? ⟨k.c, 11, none⟩ = some (.int .i64 f.pc) ∧
    W.cell? ⟨k.c, 12, none⟩ = some k.vl ∧ W.cell? ⟨k.c, 13, none⟩ = some k.vs ∧ W.cell? ⟨k.c, 14, none⟩ = some (.int .i64 (mthOf K.p f.of_).stack) ∧ (∀ i, W.frozen? ⟨k.c, i, none⟩ = false) ∧ k.c < W.heap.size := fun W hW => by
  have hb := h.box.keep hW
  exact ⟨hb.cell 0, hb.cell 1, hb.cell 2, hb.cell 5, hb.cell 6, hb.cell 9, hb.cell 11, hb.cell 12, hb.cell 13, hb.cell 14, fun i => hb.frozen i, hb.lt⟩
/-- The topmost method's own code. -/
theorem McT.code (h : McT K n s fs f m ks k w) : ∃ A c, k.vc = .slice A (mthOf K.p f.of_).code.length c ∧ (mthOf K.p f.of_).code.length ≤ maxLen := by
  obtain ⟨A, c, h1, _, h2⟩ := h.cal.2.2.2.1.form
  exact ⟨A, c, h1, h2⟩
end

set_option maxRecDepth 100000 in
set_option maxHeartbeats 2000000 in
theorem top_ok (K : McP) (n : Nat) (s : St) (fs : List Cal) (f : Cal) (m : MLay) (ks : List KC) (k : KC) (w : World) (h : McT K n s fs f m ks k w) :
    Calls Tryz.prog 62 #[.pointer (some ⟨K.mb, 0, none⟩)] w (Gives (.pointer (some ⟨k.c, 0, none⟩)) w) := by
  obtain ⟨g, c, hvc, hc1, hc2, KR⟩ := h.crow
  have KC := h.st.cells
  rw [hvc] at KC
  unfold maxLen at hc2
  have hsub : IntKind.i64.wrap (fs.length : Int) = (fs.length : Int) := by rw [IntWalk.i64_in _ (by omega)]
  clear h hvc
  go_enter Tryz.func62, Tryz.ntmps62
  go_wp2_with fail
  (refine wp_region_fr (X := No) (by kernel_rfl) (by kernel_rfl) ?_)
  (repeat (first | (go_big_quiet_skip; (try simp only [Act.put, List.setIfInBounds_toArray, List.set_cons_zero, List.set_cons_succ])) | (go_big_quiet_want; (apply Exists.intro; refine ⟨fun W hW => ?_, ?_⟩); (focus (go_simp; (try simp only [↓IntWalk.iteOmega]); (try simp only [reduceIte]); first | done | exact rfl | exact ⟨trivial, rfl⟩ | exact ⟨rfl, rfl⟩ | fail)); go_big_quiet_on; (try simp only [Act.put, List.setIfInBounds_toArray, List.set_cons_zero, List.set_cons_succ])))); refine wpQuiet_nil ?_
  intro w1 hf1
  go_wp2
  go_ret
  exact ⟨rfl, hf1⟩

set_option maxRecDepth 100000 in
set_option maxHeartbeats 2000000 in
theorem ckeeper_ok (K : McP) (n : Nat) (s : St) (fs : List Cal) (f : Cal) (m : MLay) (ks : List KC) (k : KC) (w : World) (h : McT K n s fs f m ks k w) :
    Calls Tryz.prog 87 #[.pointer (some ⟨k.c, 0, none⟩)] w (Gives (.int .i64 f.of_.of_.keeper) w) := by
  obtain ⟨e0, _, _, _, _, _, _, _, _, _, _, el⟩ := h.ccells w (Fr.refl _ _)
  clear h
  go_enter Tryz.func87, Tryz.ntmps87
  go_wp2
  go_ret
  exact ⟨rfl, frc⟩

set_option maxRecDepth 100000 in
set_option maxHeartbeats 2000000 in
theorem jump_ok (K : McP) (E : McE K) (n : Nat) (s : St) (fs : List Cal) (f : Cal) (m : MLay) (ks : List KC) (k : KC) (w : World) (h : McT K n s fs f m ks k w) (to : Int) :
    Calls Tryz.prog 89 #[.pointer (some ⟨K.mb, 0, none⟩), .int .i64 to] w (OpPost K n (jumpM K.p s fs f to) m w) := by
  have HT := fun W (hW : Fr No w W) => top_ok K n s fs f m ks k W (h.keep E hW)
  obtain ⟨A, c, hvc, hcl⟩ := h.code
  have hE := fun W (hW : Fr No w W) => (h.keep E hW).ends 10 (by decide) (Fr.refl No W)
  have hS := fun W (hW : Fr No w W) => ((h.keep E hW).setPc E to).goes
  have KK := h.ccells
  rw [hvc] at KK
  unfold maxLen at hcl
  unfold jumpM
  generalize (mthOf K.p f.of_).code.length = len at *
  clear h hvc
  by_cases hl : (len : Int) ≤ to
  · rw [if_pos hl]
    clear hS
    go_enter Tryz.func89, Tryz.ntmps89
    go_wp2_with (go_at_call 62; refine (HT _ frc).mono ?_; rintro e w1 ⟨rfl, hf1⟩; obtain ⟨_, _, _, _, _, e9, _, _, _, _, _, el⟩ := KK w1 hf1)
    go_ret
    exact ⟨rfl, (hE _ hf1).from hf1⟩
  · rw [if_neg hl]
    clear hE
    go_enter Tryz.func89, Tryz.ntmps89
    go_wp2_with (go_at_call 62; refine (HT _ frc).mono ?_; rintro e w1 ⟨rfl, hf1⟩; obtain ⟨_, _, _, _, _, e9, e11, _, _, _, ef, el⟩ := KK w1 hf1)
    go_ret
    exact ⟨rfl, (hS _ hf1).from hf1⟩

set_option maxRecDepth 100000 in
set_option maxHeartbeats 2000000 in
theorem next_ok (K : McP) (E : McE K) (n : Nat) (s : St) (fs : List Cal) (f : Cal) (m : MLay) (ks : List KC) (k : KC) (w : World) (h : McT K n s fs f m ks k w) (h0 : 0 ≤ f.pc) (h1 : f.pc < 1000) :
    Calls Tryz.prog 83 #[.pointer (some ⟨K.mb, 0, none⟩)] w (OpPost K n (nextM K.p s fs f) m w) := by
  have HT := fun W (hW : Fr No w W) => top_ok K n s fs f m ks k W (h.keep E hW)
  have HJ := fun W (hW : Fr No w W) => jump_ok K E n s fs f m ks k W (h.keep E hW) (f.pc + 1)
  have KK := h.ccells
  have hadd : IntKind.i64.wrap (f.pc + 1) = f.pc + 1 := IntWalk.i64_in _ (by omega)
  unfold nextM
  generalize jumpM K.p s fs f (f.pc + 1) = s' at *
  clear h
  go_enter Tryz.func83, Tryz.ntmps83
  go_wp2_with (first
    | (go_at_call 62; refine (HT _ frc).mono ?_; rintro e w1 ⟨rfl, hf1⟩; obtain ⟨_, _, _, _, _, _, e11, _, _, _, ef, el⟩ := KK w1 hf1)
    | (go_at_call 89; refine (HJ _ hf1).mono ?_; rintro e w2 ⟨rfl, hO⟩))
  go_ret
  exact ⟨rfl, hO.from hf1⟩

/-- What push gives back. -/
def PushPost (K : McP) (n : Nat) (s : St) (fs : List Cal) (f : Cal) (m : MLay) (c : Nat) (v : Val) (w : World) (e : Ending) (w' : World) : Prop :=
  if (mthOf K.p f.of_).stack ≤ f.stack.length then e = .returned (.bool false) ∧ Fr No w w' else e = .returned (.bool true) ∧ McOk K n c s fs ⟨f.of_, f.pc, f.locals, f.stack ++ [v]⟩ m w w'

set_option maxRecDepth 100000 in
set_option maxHeartbeats 4000000 in
theorem push_ok (K : McP) (E : McE K) (n : Nat) (s : St) (fs : List Cal) (f : Cal) (m : MLay) (ks : List KC) (k : KC) (w : World) (h : McT K n s fs f m ks k w) (hst : f.stack.length ≤ 100) (v : Val) :
    Calls Tryz.prog 119 #[.pointer (some ⟨k.c, 13, none⟩), .agg #[.int .i64 v.kind, .int .i64 v.n]] w (PushPost K n s fs f m k.c v w) := by
  obtain ⟨wA, hwA⟩ : ∃ wA, wA = (w.alloc (.cells #[.int .i64 v.kind, .int .i64 v.n] 40)) := ⟨_, rfl⟩
  have hfA : Fr No w wA := hwA ▸ frc
  have B0 := (hwA ▸ bxc : Bx wA w.heap.size 40 #[.int .i64 v.kind, .int .i64 v.n])
  have hA := h.keep E hfA
  obtain ⟨A, c, hvs, hc1, hc2⟩ := RowV.form hA.cal.2.2.1
  unfold maxLen at hc2
  have KK := hA.ccells
  rw [hvs] at KK
  have K0 := B0.r2
  unfold PushPost
  have hdec : Hid (∀ x : Mth, x = mthOf K.p f.of_ → x.stack = (mthOf K.p f.of_).stack) := fun _ h => by rw [h]
  generalize hmost : (mthOf K.p f.of_).stack = most at *
  by_cases hp : most ≤ (f.stack.length : Int)
  · simp only [if_pos hp]
    clear h hA
    go_enter Tryz.func119, Tryz.ntmps119
    go_wp2_with fail
    rw [← hwA]
    replace hwA := Lib.hid hwA
    (refine wp_region_fr (X := No) (by kernel_rfl) (by kernel_rfl) ?_)
    (repeat (first | (go_big_quiet_skip; (try simp only [Act.put, List.setIfInBounds_toArray, List.set_cons_zero, List.set_cons_succ])) | (go_big_quiet_want; (apply Exists.intro; refine ⟨fun W hW => ?_, ?_⟩); (focus (go_simp; (try simp only [↓IntWalk.iteOmega]); (try simp only [reduceIte]); first | done | exact rfl | exact ⟨trivial, rfl⟩ | exact ⟨rfl, rfl⟩ | fail)); go_big_quiet_on; (try simp only [Act.put, List.setIfInBounds_toArray, List.set_cons_zero, List.set_cons_succ])))); refine wpQuiet_nil ?_
    intro w1 hf1
    clear KK K0
    go_wp2_with fail
    go_ret
    exact ⟨rfl, hfA.trans0 hf1⟩
  · simp only [if_neg hp]
    obtain ⟨i0, hi, hz0, hz1, hz2⟩ := info_parts info_val
    replace hi := Lib.hid hi
    replace hz0 := Lib.hid hz0
    replace hz1 := Lib.hid hz1
    replace hz2 := Lib.hid hz2
    replace h := Lib.hid h
    replace hA := Lib.hid hA
    replace hvs := Lib.hid hvs
    go_enter Tryz.func119, Tryz.ntmps119
    go_wp2_with fail
    rw [← hwA]
    replace hwA := Lib.hid hwA
    (refine wp_region_fr (X := No) (by kernel_rfl) (by kernel_rfl) ?_)
    (repeat (first | (go_big_quiet_skip; (try simp only [Act.put, List.setIfInBounds_toArray, List.set_cons_zero, List.set_cons_succ])) | (go_big_quiet_want; (apply Exists.intro; refine ⟨fun W hW => ?_, ?_⟩); (focus (go_simp; (try simp only [↓IntWalk.iteOmega]); (try simp only [reduceIte]); first | done | exact rfl | exact ⟨trivial, rfl⟩ | exact ⟨rfl, rfl⟩ | fail)); go_big_quiet_on; (try simp only [Act.put, List.setIfInBounds_toArray, List.set_cons_zero, List.set_cons_succ])))); refine wpQuiet_nil ?_
    intro w1 hf1
    have hA1 := hA.out.keep E hf1
    have KK1 := hA1.ccells
    rw [hvs.out, hmost] at KK1
    have K1 := (B0.keep hf1).r2
    replace hA1 := Lib.hid hA1
    clear KK K0
    go_wp2_with fail
    refine wp_region_monR 7 22 [mE (mV (.pointer (some ⟨k.c, 13, none⟩))), mV (.pointer (some ⟨k.c, 13, none⟩)), mV (.pointer (some ⟨k.c, 13, none⟩)), mV (.pointer (some ⟨k.c, 13, none⟩)), mV (.slice A f.stack.length c), mV (.agg #[.int .i64 v.kind, .int .i64 v.n]), mS 40 (#[.int .i64 v.kind, .int .i64 v.n]) 1 w1.heap.size] (by kernel_rfl) (by kernel_rfl) (by simp) ?_ ?_
    · refine hopC ?_ <| hopC ?_ <| hopC ?_ <| hopC ?_ <| hopC ?_ <| hopC ?_ <| hopC ?_ <| hopZ
      all_goals (intro a' W hW hoff hdep; have hbs := hW.size; have H0 := hoff 0 rfl; have H3 := hoff 3 rfl)
      · exact yE rfl ⟨.pointer (some ⟨k.c, 13, none⟩), fun W => by simp [execOp, Act.eval, H0, go_sem], rfl, rfl⟩
      · refine nE rfl ?_; simp [execOp, Act.eval, H0, go_sem, givesUpon]; exact fr1 rfl
      · have D16 : _ = _ := hdep 1 16 rfl; refine nE rfl ?_; simp [execOp, Act.eval, D16, go_sem, givesUpon]; exact fr1 rfl
      · have D17 : _ = _ := hdep 2 17 rfl; refine nE rfl ?_; simp [execOp, Act.eval, D17, go_sem, givesUpon]; exact fr1 rfl
      · have D18 : _ = _ := hdep 3 18 rfl; refine nE rfl ?_; clear hoff hdep; simp [execOp, Act.eval, go_sem, givesUpon, *]; exact fr1 rfl
      · refine nE rfl ?_; clear hoff hdep; simp [execOp, Act.eval, go_sem, givesUpon, *]; exact fr1 rfl
      · have D20 : _ = _ := hdep 5 20 rfl; simp at D20; refine nE rfl ?_; simp [execOp, Act.eval, D20, go_sem, givesUpon]; exact ⟨(Fr.refl _ _).alloc _, ⟨_, rfl, Bx.new_ rfl, hbs⟩, Nat.le_refl _⟩
    intro vs WR hWR hv hne
    obtain ⟨b6, e6, hb6, hl6⟩ := hv 6 (by omega)
    simp only [List.drop_succ_cons, List.drop_zero, putsR_EV, putsR_S, putsR_V, putsR_0, Nat.zero_add, Nat.reduceAdd, e6]
    simp only [Act.put, List.setIfInBounds_toArray, List.set_cons_zero, List.set_cons_succ]
    clear e6 hv
    have hR := hA1.out.keep E hWR
    have hrowR : RowV WR tVal 2 (.slice A f.stack.length c) f.stack.length (f.stack.flatMap valCells) := by
      have := hR.cal.2.2.1
      rw [hvs.out] at this
      exact this
    have hsrc := Lib.hid (Bx.news (cs := valCells v) hb6)
    have hboxR := hR.box
    have hne : ∀ q, rowBlk (.slice A f.stack.length c) = some q → q ≠ k.c := by
      have := (KC.nodup_iff.1 hR.nodup).2.1
      rw [hvs.out] at this
      exact this
    have hfin := fun {g' cap' : Nat} {w2 : World} (hrow : RowV w2 tVal 2 (.slice (some ⟨g', 0, none⟩) (f.stack.length + 1) cap') (f.stack.length + 1) (f.stack.flatMap valCells ++ valCells v)) (hgf : Fr (fun b => rowBlk (.slice A f.stack.length c) = some b) WR w2) (hor : rowBlk (.slice A f.stack.length c) = some g' ∨ g' = WR.heap.size) (hcap : f.stack.length + 1 ≤ cap') =>
      hR.push E hrow (by rw [hvs.out]; exact hgf) (by rw [hvs.out]; exact hor) hcap
    clear KK1 K1
    replace hR := Lib.hid hR
    go_wp2_with (at_builtin; refine wpList_append_row _ rfl _ _ 102 rfl 40 i0 (.agg #[.int .i64 0, .int .i64 0]) 2 16 Tryz.underlying102 hi.out hz0.out hz1.out hz2.out rfl (by decide) (.slice A f.stack.length c) f.stack.length (f.stack.flatMap valCells) rfl hrowR ⟨b6, 0, none⟩ 1 1 (valCells v) rfl rfl hsrc.out (by simp [valCells, Value.oneCell']) (by decide) (by unfold maxLen; omega) (by omega) ?_; intro g' cap' w2 hrow hcap hgf hor; have hbx := hboxR.keepX hgf (fun e => hne _ e rfl); have z13 : w2.cell? ⟨k.c, 13, none⟩ = some k.vs := hbx.cell 13; have zf := (fun i => hbx.frozen i); have zl := hbx.lt)
    go_ret
    exact ⟨rfl, (((hfin hrow hgf hor hcap).from hWR).from hf1).from hfA⟩
end Go.Proofs.YtbalicnnlfennaaGreat
