/- A region that draws its order, told whole: each operation by its law; several of them may write, one behind the other; some may stand behind a guard. -/
import Derived.Test.YtbalicnnlfennaaGreatCG12
import Derived.Test.YtbalicnnlfennaaGreatCG7
namespace Go.Proofs.YtbalicnnlfennaaGreat
open Go.RowKit

def yb : Value → Option Bool
 | .bool b => some b
 | _ => none
def allDepB (ops : Array Oper) : Bool := (List.range ops.size).all fun k => match ops[k]? with
 | some o => o.after.all (fun e => !Region.binds .any e || decide (e.on < k)) &&
   (match o.guard with | none => true | some (g, _) => o.after.any (fun e => Region.binds .any e && e.on == g) && ((ops[g]?).bind (·.dst)).isSome)
 | none => false
theorem putsL_size : ∀ (l : List Oper) (vs : Nat → Value) (on : Nat → Bool) (k : Nat) (a : Act), (putsL l vs on k a).tmps.size = a.tmps.size
 | [], _, _, _, _ => rfl
 | o :: rest, vs, on, k, a => by
  unfold putsL
  rw [putsL_size rest]
  cases on k
  ·rfl
  ·exact put_size _ _ _
theorem yielded_eval {ops : Array Oper} {a : Act} {g d : Nat} {p : Oper} (hp : ops[g]? = some p) (hd : p.dst = some d) (hs : d < a.tmps.size) : yielded ops a.tmps g = yb (a.eval (.tmp d)) := by
 unfold yielded
 rw [hp, Option.bind_some, hd, Option.bind_some, Array.getElem?_eq_getElem hs]
 have : a.eval (.tmp d) = a.tmps[d] := by simp [Act.eval, hs]
 rw [this]
 cases a.tmps[d] <;> rfl
theorem countP_le_and (p q : Nat → Bool) : ∀ n, (List.range n).countP (fun i => p i && q i) ≤ (List.range n).countP p := fun n =>
 List.countP_mono_left fun i _ h => by simp only [Bool.and_eq_true] at h; exact h.1

section
variable {P : Program} {l : List Oper} {Q : Exit → Act → World → Prop} {a : Act} {w : World} {Φ : Nat → Value → World → Prop}
theorem all_go (U G : Nat → Bool) (C : Nat → World → Prop) (S : World → World → Prop) (tot : Nat) (htot : (List.range l.length).countP U = tot)
  (hdist : distB l = true) (hdep : allDepB l.toArray = true) (hsz : ∀ o ∈ l, ∀ d, o.dst = some d → d < a.tmps.size)
  (hΦ : ∀ k v W W', Φ k v W → Fr No W W' → Φ k v W') (hS : ∀ k v W W', Φ k v W → S W W' → Φ k v W') (hC : ∀ j W W', C j W → Fr No W W' → C j W')
  (hG0 : ∀ k o, l[k]? = some o → o.guard = none → G k = true) (hG : ∀ k o g b, l[k]? = some o → o.guard = some (g, b) → ∀ v W, Φ g v W → (yb v == some b) = G k)
  (hUG : ∀ k, U k = true → G k = true) (hun : ∀ k W, G k = false → Φ k undef W)
  (hop : ∀ k o, l[k]? = some o → U k = false → G k = true → ∀ a' W j, j ≤ tot → C j W → (∀ t, (∀ p ∈ l, p.dst ≠ some t) → a'.eval (.tmp t) = a.eval (.tmp t)) → (∀ e ∈ o.after, Region.binds .any e = true → ∀ p d, l[e.on]? = some p → p.dst = some d → Φ e.on (a'.eval (.tmp d)) W) →
   opGives P o a' W (fun v W' => Fr No W W' ∧ Φ k v W'))
  (hopu : ∀ k o, l[k]? = some o → U k = true → ∀ a' W j, j < tot → C j W → (∀ t, (∀ p ∈ l, p.dst ≠ some t) → a'.eval (.tmp t) = a.eval (.tmp t)) → (∀ e ∈ o.after, Region.binds .any e = true → ∀ p d, l[e.on]? = some p → p.dst = some d → Φ e.on (a'.eval (.tmp d)) W) →
   opGives P o a' W (fun v W' => C (j + 1) W' ∧ S W W' ∧ Φ k v W'))
  (hend : ∀ vs W, C tot W → (∀ k, k < l.length → Φ k (vs k) W) → Q .normal (putsL l vs (fun _ => true) 0 a) W) :
  ∀ (f : Nat) (listed : Array Bool) (W : World), f = (List.range l.length).countP (fun i => !listed.getD i true) → listed.size = l.length → ∀ vs, C ((List.range l.length).countP (fun i => U i && listed.getD i false)) W → (∀ k, k < l.length → listed.getD k false = true → Φ k (vs k) W) →
   wpAny P .any l.toArray Q f listed (putsL l vs (fun i => listed.getD i false) 0 a) W := by
 intro f
 induction f with
 | zero =>
  intro listed W hf hls vs hw hv
  have hall : ∀ i, i < l.length → listed.getD i false = true := fun i hi => by
   cases h : listed.getD i false
   ·have h2 := getD_in (by omega) h
    have : 0 < (List.range l.length).countP (fun i => !listed.getD i true) := List.countP_pos_iff.2 ⟨i, List.mem_range.2 hi, by simp [h2]⟩
    omega
   ·rfl
  refine ⟨?_, ?_⟩
  ·cases hr : Region.ready .any l.toArray listed with
   | nil => rfl
   | cons i r =>
    exfalso
    have hi : i ∈ Region.ready .any l.toArray listed := by rw [hr]; simp
    obtain ⟨hun', o, ho, _⟩ := mem_ready.1 hi
    have hil : i < l.length := by simpa using (Array.getElem?_eq_some_iff.1 ho).1
    have := hall i hil
    rw [getD_both hun'] at this
    cases this
  ·rw [putsL_congr l vs vs (fun i => listed.getD i false) (fun _ => true) 0 a (fun j _ hj => ⟨rfl, hall j (by omega)⟩)]
   refine hend vs W ?_ (fun k hk => hv k hk (hall k hk))
   have : (List.range l.length).countP (fun i => U i && listed.getD i false) = tot := by
    rw [← htot]
    exact List.countP_congr fun i hi => by rw [hall i (List.mem_range.1 hi)]; simp
   rwa [this] at hw
 | succ f ih =>
  intro listed W hf hls vs hw hv
  have hstep : ∀ i, i ∈ Region.ready .any l.toArray listed → ∀ o, l.toArray[i]? = some o → ∀ v W', C ((List.range l.length).countP (fun i => U i && listed.getD i false) + (if U i then 1 else 0)) W' → (∀ k v, Φ k v W → Φ k v W') → Φ i v W' →
    wpAny P .any l.toArray Q f (listed.setIfInBounds i true) ((putsL l vs (fun i => listed.getD i false) 0 a).put o.dst v) W' := by
   intro i hi o ho v W' hC' hkeep hΦv
   obtain ⟨hun', _⟩ := mem_ready.1 hi
   have hoff : listed.getD i false = false := getD_both hun'
   have hot : l[i]? = some o := by simpa using ho
   have hil : i < l.length := (List.getElem?_eq_some_iff.1 hot).1
   have his : i < listed.size := by omega
   have hsetL : (fun j => (listed.setIfInBounds i true).getD j false) = updF (fun j => listed.getD j false) i true := by
    funext j
    unfold updF
    by_cases hj : j = i
    ·subst hj; simp [his]
    ·rw [if_neg hj, getD_set_ne false (Ne.symm hj)]
   have hcnt : (List.range l.length).countP (fun j => U j && (listed.setIfInBounds i true).getD j false) = (List.range l.length).countP (fun j => U j && listed.getD j false) + (if U i then 1 else 0) := by
    cases hU : U i
    ·simp only [Bool.false_eq_true, if_false, Nat.add_zero]
     refine List.countP_congr fun j _ => ?_
     by_cases hj : j = i
     ·subst hj; rw [hU]; simp
     ·rw [getD_set_ne false (Ne.symm hj)]
    ·rw [if_pos rfl]
     exact countP_upd (p := fun j => U j && (listed.setIfInBounds i true).getD j false) (p' := fun j => U j && listed.getD j false) (i := i) (by simp [hU, his]) (by simp [hoff]) (fun j hj => by
      show (U j && (listed.setIfInBounds i true).getD j false) = (U j && listed.getD j false)
      rw [getD_set_ne false (Ne.symm hj)]) l.length hil
   have := ih (listed.setIfInBounds i true) W' (by
     have := countP_upd (p := fun j => !listed.getD j true) (p' := fun j => !(listed.setIfInBounds i true).getD j true) (i := i) (by simp [hun']) (by simp [his]) (fun j hj => by
      show (!listed.getD j true) = !(listed.setIfInBounds i true).getD j true
      rw [getD_set_ne true (Ne.symm hj)]) l.length hil
     omega) (by simp [hls]) (updF vs i v) (by rw [hcnt]; exact hC') (fun k hk hl => by
     by_cases hki : k = i
     ·subst hki; rw [show updF vs k v k = v by simp [updF]]; exact hΦv
     ·rw [show updF vs i v k = vs k by simp only [updF]; rw [if_neg hki]]
      rw [getD_set_ne false (Ne.symm hki)] at hl
      exact hkeep _ _ (hv k hk hl))
   rw [hsetL, putsL_set l vs _ 0 a i o v hdist (Nat.zero_le _) (by simpa using hot) hoff] at this
   exact this
  refine ⟨fun h0 => ?_, fun i hi => ?_⟩
  ·exfalso
   obtain ⟨i0, hi0, hu0⟩ := countP_pos (p := fun i => !listed.getD i true) (n := l.length) (by omega)
   obtain ⟨k, hk, hk1, hk2⟩ := least (p := fun i => !listed.getD i true) i0 hu0
   have hkn : k < l.length := by omega
   have h1 := List.all_eq_true.1 hdep k (List.mem_range.2 (by simpa using hkn))
   have hok : l.toArray[k]? = some l[k] := by simp [hkn]
   rw [hok] at h1
   simp only [Bool.and_eq_true] at h1
   have : k ∈ Region.ready .any l.toArray listed := mem_ready.2 ⟨by simpa using hk1, _, hok, fun e he hbd => by
    have h2 := Array.all_eq_true_iff_forall_mem.1 h1.1 e he
    have h3 : e.on < k := by simpa [hbd] using h2
    have h4 := hk2 e.on h3
    have h5 : listed.getD e.on true = true := by simpa using h4
    have h6 : e.on < listed.size := by omega
    simpa [h6] using h5⟩
   rw [h0] at this
   cases this
  ·obtain ⟨hun', o, ho, hdeps⟩ := mem_ready.1 hi
   have hot : l[i]? = some o := by simpa using ho
   have hil : i < l.length := (List.getElem?_eq_some_iff.1 hot).1
   have hoff : listed.getD i false = false := getD_both hun'
   have hdd : ∀ e ∈ o.after, Region.binds .any e = true → ∀ p d, l[e.on]? = some p → p.dst = some d → Φ e.on ((putsL l vs (fun i => listed.getD i false) 0 a).eval (.tmp d)) W := fun e he hbd p d hp hd => by
    have hlis := hdeps e he hbd
    have hen : e.on < l.length := (List.getElem?_eq_some_iff.1 hp).1
    rw [eval_putsL_on l vs _ 0 a e.on p d hdist (Nat.zero_le _) (by simpa using hp) hlis hd (hsz p (List.mem_of_getElem? hp) d hd)]
    exact hv e.on hen hlis
   have hwant : Region.wanted o (yielded l.toArray (putsL l vs (fun i => listed.getD i false) 0 a).tmps) = G i := by
    unfold Region.wanted
    cases hg : o.guard with
    | none => exact (hG0 i o hot hg).symm
    | some gb =>
     obtain ⟨g, b⟩ := gb
     have h1 := List.all_eq_true.1 hdep i (List.mem_range.2 (by simpa using hil))
     rw [ho] at h1
     simp only [Bool.and_eq_true, hg] at h1
     obtain ⟨e, he, hbe⟩ := Array.any_eq_true'.1 h1.2.1
     simp only [Bool.and_eq_true, beq_iff_eq] at hbe
     obtain ⟨hb1, rfl⟩ := hbe
     obtain ⟨d, hd0⟩ := Option.isSome_iff_exists.1 h1.2.2
     rw [Option.bind_eq_some_iff] at hd0
     obtain ⟨p, hp, hd⟩ := hd0
     have hp' : l[e.on]? = some p := by simpa using hp
     show (yielded _ _ e.on == some b) = G i
     rw [yielded_eval hp hd (by rw [putsL_size]; exact hsz p (List.mem_of_getElem? hp') d hd)]
     exact hG i o e.on b hot hg _ W (hdd e he hb1 p d hp' hd)
   have hoffs : ∀ t, (∀ p ∈ l, p.dst ≠ some t) → (putsL l vs (fun i => listed.getD i false) 0 a).eval (.tmp t) = a.eval (.tmp t) := fun t ht => eval_putsL_off _ _ _ _ _ t ht
   unfold wpOp
   simp only [ho]
   rw [hwant]
   cases hGi : G i
   ·simp only [Bool.false_eq_true, if_false]
    have hU : U i = false := by
     cases h : U i
     ·rfl
     ·have := hUG i h; rw [hGi] at this; cases this
    exact hstep i hi o ho undef W (by rw [hU]; exact hw) (fun _ _ h => h) (hun i W hGi)
   ·rw [if_pos rfl]
    cases hU : U i
    ·refine .inl (wp_of_gives (hop i o hot hU hGi _ W _ ?_ hw hoffs hdd) ?_)
     ·rw [← htot]; exact countP_le_and _ _ _
     ·rintro v W' ⟨hf', hΦv⟩
      exact hstep i hi o ho v W' (by rw [hU]; exact hC _ _ _ hw hf') (fun k v h => hΦ _ _ _ _ h hf') hΦv
    ·refine .inl (wp_of_gives (hopu i o hot hU _ W _ ?_ hw hoffs hdd) ?_)
     ·have his : i < listed.size := by omega
      have h1 := countP_upd (p := fun j => U j && (listed.setIfInBounds i true).getD j false) (p' := fun j => U j && listed.getD j false) (i := i) (by simp [hU, his]) (by simp [hoff]) (fun j hj => by
       show (U j && (listed.setIfInBounds i true).getD j false) = (U j && listed.getD j false)
       rw [getD_set_ne false (Ne.symm hj)]) l.length hil
      have h2 := countP_le_and U (fun j => (listed.setIfInBounds i true).getD j false) l.length
      omega
     ·rintro v W' ⟨hC', hs', hΦv⟩
      exact hstep i hi o ho v W' (by rw [hU]; exact hC') (fun k v h => hS _ _ _ _ h hs') hΦv
end
theorem wp_region_allL {P : Program} {l : List Oper} {Q : Exit → Act → World → Prop} {a : Act} {w : World} {id : Nat} (L : List (Value → World → Prop)) (UL GL : List Bool) (tot : Nat) (C : Nat → World → Prop) (S : World → World → Prop)
  (hf : P.follows .mixedOrders = true) (hm : (distB l && allDepB l.toArray && decide (L.length = l.length) && decide ((List.range l.length).countP (fun k => UL.getD k false) = tot)) = true)
  (hsz : ∀ o ∈ l, ∀ d, o.dst = some d → d < a.tmps.size) (hL : ∀ φ ∈ L, MonP φ) (hS : ∀ φ ∈ L, ∀ v W W', φ v W → S W W' → φ v W') (hC : ∀ j W W', C j W → Fr No W W' → C j W')
  (hgd : ∀ k o, l[k]? = some o → (o.guard = none → GL.getD k true = true) ∧ ∀ g b, o.guard = some (g, b) → ∀ v W, L.getD g (fun _ _ => True) v W → (yb v == some b) = GL.getD k true)
  (hug : ∀ k, k < UL.length → UL.getD k false = true → GL.getD k true = true) (hun : ∀ k, k < GL.length → GL.getD k true = false → ∀ W, L.getD k (fun _ _ => True) undef W)
  (h0 : C 0 w.drew)
  (hop : ∀ k o, l[k]? = some o → UL.getD k false = false → GL.getD k true = true → ∀ a' W j, j ≤ tot → C j W → (∀ t, (∀ p ∈ l, p.dst ≠ some t) → a'.eval (.tmp t) = a.eval (.tmp t)) → (∀ e ∈ o.after, Region.binds .any e = true → ∀ p d, l[e.on]? = some p → p.dst = some d → L.getD e.on (fun _ _ => True) (a'.eval (.tmp d)) W) →
   opGives P o a' W (fun v W' => Fr No W W' ∧ L.getD k (fun _ _ => True) v W'))
  (hopu : ∀ k o, l[k]? = some o → UL.getD k false = true → ∀ a' W j, j < tot → C j W → (∀ t, (∀ p ∈ l, p.dst ≠ some t) → a'.eval (.tmp t) = a.eval (.tmp t)) → (∀ e ∈ o.after, Region.binds .any e = true → ∀ p d, l[e.on]? = some p → p.dst = some d → L.getD e.on (fun _ _ => True) (a'.eval (.tmp d)) W) →
   opGives P o a' W (fun v W' => C (j + 1) W' ∧ S W W' ∧ L.getD k (fun _ _ => True) v W'))
  (hend : ∀ vs W, C tot W → (∀ k, k < l.length → L.getD k (fun _ _ => True) (vs k) W) → Q .normal (putsL l vs (fun _ => true) 0 a) W) : (Code.region id l.toArray true).wp P Q a w := by
 simp only [Bool.and_eq_true, decide_eq_true_eq] at hm
 obtain ⟨⟨⟨hd, hdep⟩, hlen⟩, htot⟩ := hm
 refine wp_region_any hf ?_
 have hget : ∀ k, (∀ φ ∈ L, ∀ v W, φ v W → φ v W) → (k < L.length ∧ L.getD k (fun _ _ => True) ∈ L) ∨ L.getD k (fun _ _ => True) = fun _ _ => True := fun k _ => by
  rcases Nat.lt_or_ge k L.length with h1 | h1
  ·exact .inl ⟨h1, by
    have e1 : L.getD k (fun _ _ => True) = L[k] := by simp [List.getD, List.getElem?_eq_getElem h1]
    rw [e1]; exact List.getElem_mem h1⟩
  ·exact .inr (by simp [List.getD, List.getElem?_eq_none h1])
 have h := all_go (P := P) (l := l) (Q := Q) (a := a) (Φ := fun k => L.getD k (fun _ _ => True)) (fun k => UL.getD k false) (fun k => GL.getD k true) C S tot htot hd hdep hsz
  (fun k v W W' h hf => by
   rcases hget k (fun _ _ _ _ h => h) with ⟨_, h1⟩ | h1
   ·exact hL _ h1 v W W' h hf
   ·rw [h1]; trivial)
  (fun k v W W' h hf => by
   rcases hget k (fun _ _ _ _ h => h) with ⟨_, h1⟩ | h1
   ·exact hS _ h1 v W W' h hf
   ·rw [h1]; trivial)
  hC (fun k o ho hg => (hgd k o ho).1 hg) (fun k o g b ho hg => (hgd k o ho).2 g b hg)
  (fun k hk => by
   rcases Nat.lt_or_ge k UL.length with h1 | h1
   ·exact hug k h1 hk
   ·simp [List.getD, List.getElem?_eq_none h1] at hk)
  (fun k W hk => by
   rcases Nat.lt_or_ge k GL.length with h1 | h1
   ·exact hun k h1 hk W
   ·simp [List.getD, List.getElem?_eq_none h1] at hk)
  hop hopu hend l.length (Array.replicate l.toArray.size false) { w with drawn := w.drawn + 1 }
  (by
   rw [List.countP_eq_length.2 (fun i hi => by
    have := List.mem_range.1 hi
    simp [this])]
   simp) (by simp) (fun _ => undef) (by
   have : (List.range l.length).countP (fun i => UL.getD i false && (Array.replicate l.toArray.size false).getD i false) = 0 := List.countP_eq_zero.2 fun i _ => by rw [getD_replicate_false]; simp
   rw [this]; exact h0) (fun k _ hl => by rw [getD_replicate_false] at hl; cases hl)
 rw [putsL_congr l (fun _ => undef) (fun _ => undef) (fun i => (Array.replicate l.toArray.size false).getD i false) (fun _ => false) 0 a (fun j _ _ => ⟨rfl, getD_replicate_false _ _⟩)] at h
 have hnone : ∀ (l' : List Oper) (k : Nat) (a : Act), putsL l' (fun _ => undef) (fun _ => false) k a = a := fun l' => by
  induction l' with
  | nil => intro k a; rfl
  | cons o rest ih => intro k a; unfold putsL; simpa using ih (k + 1) a
 rw [hnone, show l.length = l.toArray.size by simp] at h
 simpa using h
end Go.Proofs.YtbalicnnlfennaaGreat

namespace Go.Proofs.YtbalicnnlfennaaGreat
open Go.RowKit Go.Shelf
attribute [local go_sem] Oper.semAt_some

def bwA (x : Int × Ref) : Array Value := #[.int .i64 x.1, .agg #[.int .i64 x.2.keeper, .string x.2.name]]
def bwOK (xs : List Ref) (j : Nat) (x : Int × Ref) : Prop := j < xs.length ∧ x.1 = (xs.length : Int) - 1 - j ∧ xs[xs.length - 1 - j]? = some x.2

set_option maxRecDepth 100000 in
set_option maxHeartbeats 4000000 in
theorem bwd_iter (Y : Nat → Prop) (xs : List Ref) (A : Option Addr) (cap c L n : Nat) (T : Nat → World → Prop) (Tx : World → Prop) (hlen : xs.length ≤ 1000000)
  (hT : ∀ j W, T j W → Bx W c 136 #[.slice A xs.length cap] ∧ Sl Y W 2 RefC (.slice A xs.length cap) xs)
  (Z Zd : World → Prop)
  (hY : ∀ s x W, T s W → Z W → bwOK xs s x → YieldAt Fence.wide n Tryz.prog L (bwA x) W (fun e W' => (e = .returned (.bool true) ∧ T (s + 1) W' ∧ Z W') ∨ (e = .returned (.bool false) ∧ Tx W' ∧ Zd W')))
  (W1 : World) (h1 : T 0 W1) (hz : Z W1) :
  CallsIn Fence.wide (n + 1) Tryz.prog 139 #[.func (.yield L) #[] #[], .pointer (some ⟨c, 0, none⟩)] W1
   (fun e W' => (∃ v, e = .returned v) ∧ ((∃ s, s = xs.length ∧ T s W' ∧ Z W') ∨ (Tx W' ∧ Zd W'))) := by
 refine callsIn_of_wp Tryz.func139 rfl trivial ?_ rfl
 simp only [Tryz.ntmps139, List.size_toArray, List.length_cons, List.length_nil, Nat.reduceAdd, Nat.reduceSub, Array.replicate_succ, Array.replicate_zero, List.push_toArray, List.append_toArray, List.nil_append, List.cons_append]
 have b0 := (hT 0 W1 h1).1.c1
 have bl := (hT 0 W1 h1).1.lt
 gi_wp2
 gi_loopw [3] (fun u wr => ∃ j : Nat, j ≤ xs.length ∧ u = .int .i64 ((xs.length : Int) - 1 - j) ∧ T j wr ∧ Z wr) (fun u _ => (intOf u + 1).toNat)
 case atStart => exact ⟨0, Nat.zero_le _, by simp, h1, hz⟩
 case round =>
  clear h1 hz b0 bl
  obtain ⟨j, hj, rfl, hTj, hzj⟩ := hrel
  obtain ⟨hb, hs⟩ := hT j wr hTj
  have b0 := hb.c1
  have bl := hb.lt
  by_cases hlt : j < xs.length
  ·have hk : xs.length - 1 - j < xs.length := by omega
   have hidx : ((xs.length : Int) - 1 - j).toNat = xs.length - 1 - j := by omega
   obtain ⟨fn, tmps, assign, body, hy, hR⟩ := hY j ((xs.length : Int) - 1 - j, xs[xs.length - 1 - j]) wr hTj hzj ⟨hlt, rfl, List.getElem?_eq_getElem hk⟩
   obtain ⟨b, off, rfl, _, c0, c1, _⟩ := hs.ref hk
   have cl := lt_of_cell c0
   dsimp only [bwA] at hy
   gi_wp2
   refine hR.mono ?_
   rintro e W3 (⟨rfl, hT3, hz3⟩ | ⟨rfl, hX3, hzd3⟩)
   ·clear b0 bl c0 c1 cl hy hR hs hb
    gi_wp2
    go_roundw
    case rel => exact ⟨j + 1, by omega, by congr 1; omega, hT3, hz3⟩
    case measure => simp [intOf]; omega
   ·clear b0 bl c0 c1 cl hy hR hs hb
    gi_wp2
    refine bodyPost_ret (results_none rfl _ _ _) rfl ?_
    exact ⟨⟨_, rfl⟩, .inr ⟨hX3, hzd3⟩⟩
  ·clear hs hb
   obtain rfl : j = xs.length := by omega
   have e0 : (xs.length : Int) - 1 - (xs.length : Int) = -1 := by omega
   rw [e0]
   clear e0
   gi_wp2
   go_end0
   exact ⟨⟨_, rfl⟩, .inl ⟨xs.length, rfl, hTj, hzj⟩⟩

theorem bwd_law {n : Nat} {g : Operand} {ps : Array Tmp} {assign body : Code} {Q : Exit → Act → World → Prop} {a : Act} {w : World} (Y : Nat → Prop) (xs : List Ref) (A : Option Addr) (cap c : Nat) (hlen : xs.length ≤ 1000000)
  (hg : a.eval g = .func (.func 139) #[] #[.pointer (some ⟨c, 0, none⟩)]) (hps : ps.size = 2) (T : Nat → World → Prop) (Tx : World → Prop)
  (hTb : ∀ j W, T j W → Bx W c 136 #[.slice A xs.length cap] ∧ Sl Y W 2 RefC (.slice A xs.length cap) xs)
  (hT : ∀ j W W', T j W → Fr (fun b => b = w.heap.size + 1) W W' → T j W')
  (hTx : ∀ W W', Tx W → Fr (fun b => b = w.heap.size + 1) W W' → Tx W')
  (h0 : ∀ o o', T 0 ((w.alloc o).alloc o')) (hc : c < w.heap.size)
  (hround : ∀ j x W, T j W → bwOK xs j x → w.heap.size + 1 < W.heap.size →
   assign.wpIn (Fence.wide.inRound (w.heap.size + 1)) (n + 2 - 1 - 1) Tryz.prog (Exit.then (fun a1 W1 => (W1.heap[w.heap.size + 1]? = W.heap[w.heap.size + 1]? ∧ W1.heap[w.heap.size]? = W.heap[w.heap.size]?) ∧
    ∀ W2, Fr (fun b => b = w.heap.size + 1) W1 W2 → body.wpIn (Fence.wide.inRound (w.heap.size + 1)) (n + 2 - 1 - 1) Tryz.prog
     (bodyEnds (T (j + 1)) Tx (fun W3 => W3.heap[w.heap.size + 1]? = W2.heap[w.heap.size + 1]? ∧ W3.heap[w.heap.size]? = W2.heap[w.heap.size]?)) a1 W2) (fun _ _ _ => False))
    { tmps := (ps.zip (bwA x)).foldl (fun t (p, v) => t.setIfInBounds p v) a.tmps, defers := [] } W)
  (hdone : ∀ W, T xs.length W → W.heap[w.heap.size]? = some (.deferred (some [])) → Q .normal { a with defers := { target := .collected w.heap.size, args := #[] } :: a.defers } W)
  (hstop : ∀ W, Tx W → W.heap[w.heap.size]? = some (.deferred (some [])) → Code.ret.wpIn Fence.wide (n + 2) Tryz.prog Q { a with defers := { target := .collected w.heap.size, args := #[] } :: a.defers } W) :
  (Code.rangeFunc g ps assign body).wpIn Fence.wide (n + 2) Tryz.prog Q a w :=
 rf_law (F := Fence.wide) rfl (by omega) hg trivial (enters_of Tryz.func139 (by kernel_rfl) rfl)
  bwA (fun _ => hps.symm) T Tx (bwOK xs) (fun j _ => j + 1) 0 (fun s => s = xs.length) c hc hT hTx h0 hround
  (fun Z Zd _ _ hY W1 h1 hz => bwd_iter Y xs A cap c _ _ T Tx hlen hTb Z Zd hY W1 h1 hz)
  (fun s W hs hT => by subst hs; exact hdone W hT) hstop

theorem bwd_lawX (xid : Nat) {n : Nat} {g : Operand} {ps : Array Tmp} {assign body : Code} {Q : Exit → Act → World → Prop} {a : Act} {w : World} (Y : Nat → Prop) (xs : List Ref) (A : Option Addr) (cap c : Nat) (hlen : xs.length ≤ 1000000)
  (hg : a.eval g = .func (.func 139) #[] #[.pointer (some ⟨c, 0, none⟩)]) (hps : ps.size = 2) (T : Nat → World → Prop) (Tx : World → Prop)
  (hTb : ∀ j W, T j W → Bx W c 136 #[.slice A xs.length cap] ∧ Sl Y W 2 RefC (.slice A xs.length cap) xs)
  (hT : ∀ j W W', T j W → Fr (fun b => b = w.heap.size + 1) W W' → T j W')
  (hTx : ∀ W W', Tx W → Fr (fun b => b = w.heap.size + 1) W W' → Tx W')
  (h0 : ∀ o o', T 0 ((w.alloc o).alloc o')) (hc : c < w.heap.size)
  (hround : ∀ j x W, T j W → bwOK xs j x → w.heap.size + 1 < W.heap.size →
   assign.wpIn (Fence.wide.inRound (w.heap.size + 1)) (n + 2 - 1 - 1) Tryz.prog (Exit.then (fun a1 W1 => (W1.heap[w.heap.size + 1]? = W.heap[w.heap.size + 1]? ∧ W1.heap[w.heap.size]? = W.heap[w.heap.size]?) ∧
    ∀ W2, Fr (fun b => b = w.heap.size + 1) W1 W2 → body.wpIn (Fence.wide.inRound (w.heap.size + 1)) (n + 2 - 1 - 1) Tryz.prog
     (bodyEndsX xid (T (j + 1)) Tx (fun W3 => W3.heap[w.heap.size + 1]? = W2.heap[w.heap.size + 1]? ∧ W3.heap[w.heap.size]? = W2.heap[w.heap.size]?)) a1 W2) (fun _ _ _ => False))
    { tmps := (ps.zip (bwA x)).foldl (fun t (p, v) => t.setIfInBounds p v) a.tmps, defers := [] } W)
  (hdone : ∀ W, T xs.length W → W.heap[w.heap.size]? = some (.deferred (some [])) → Q .normal { a with defers := { target := .collected w.heap.size, args := #[] } :: a.defers } W)
  (hstop : ∀ W, Tx W → W.heap[w.heap.size]? = some (.deferred (some [])) → (Code.exit xid).wpIn Fence.wide (n + 2) Tryz.prog Q { a with defers := { target := .collected w.heap.size, args := #[] } :: a.defers } W) :
  (Code.rangeFunc g ps assign body).wpIn Fence.wide (n + 2) Tryz.prog Q a w :=
 rf_lawX xid (F := Fence.wide) rfl (by omega) hg trivial (enters_of Tryz.func139 (by kernel_rfl) rfl)
  bwA (fun _ => hps.symm) T Tx (bwOK xs) (fun j _ => j + 1) 0 (fun s => s = xs.length) c hc hT hTx h0 hround
  (fun Z Zd _ _ hY W1 h1 hz => bwd_iter Y xs A cap c _ _ T Tx hlen hTb Z Zd hY W1 h1 hz)
  (fun s W hs hT => by subst hs; exact hdone W hT) hstop


set_option maxHeartbeats 2000000 in
theorem backward_ok (A : Option Addr) (n c : Nat) (w : World) : Calls Tryz.prog 117 #[.slice A n c] w
  (fun e w' => e = .returned (.func (.func 139) #[] #[.pointer (some ⟨w.heap.size, 0, none⟩)]) ∧ w' = w.alloc (.cells #[.slice A n c] 136)) := by
 have hmf : ∀ (fn : Fn) (first cap : Array Value) (w : World), (Instr.makeFunc fn first cap).run Tryz.prog w = .ok (.func fn first cap) w := fun _ _ _ _ => rfl
 go_enter Tryz.func117, Tryz.ntmps117
 go_wp2
 go_ret
 exact ⟨rfl, rfl⟩
theorem refs_apart {w : World} {v : Value} {rs : List Ref} {b : Nat} {t : TypeId} {A : Option Addr} {n c : Nat} (h : Sl No w 2 RefC v rs) (hb : Bx w b t #[.slice A n c]) : Sl (fun x => x = b ∨ w.heap.size ≤ x) w 2 RefC v rs := by
 obtain ⟨A', cap, rfl, h1, h2, h3⟩ := h
 refine ⟨A', cap, rfl, h1, h2, fun h0 => ?_⟩
 obtain ⟨g, off, rfl, hX, hc⟩ := h3 h0
 refine ⟨g, off, rfl, ?_, hc⟩
 obtain ⟨cs, ⟨rfl, _⟩, _, hcs⟩ := hc 0 h0
 have c0 := hcs 0 (by decide)
 simp only [Nat.zero_mul, Nat.add_zero, List.getElem?_cons_zero] at c0
 have hl := lt_of_cell c0
 rintro (rfl | h)
 ·rw [hb.cell] at c0
  rcases off with _ | off
  ·simp at c0
  ·simp at c0
 ·omega
end Go.Proofs.YtbalicnnlfennaaGreat
