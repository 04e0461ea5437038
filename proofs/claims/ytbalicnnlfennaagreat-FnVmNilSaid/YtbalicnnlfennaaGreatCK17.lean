/- The method that is called: the plain law. -/
import Derived.Test.YtbalicnnlfennaaGreatCG23
import Derived.Laws.CopyOwn
namespace Go.Proofs.YtbalicnnlfennaaGreat
open Go.RowKit

theorem callB_one {p : Plan} (hp : lodB p = true) {k : Int} {s m : Str} (h : (callB p k s m).2 = 1) : (callB p k s m).1.1.name.size ≤ maxLen ∧ ∃ kq ix a : Nat, Here p (callB p k s m).1.1 kq ix ∧ (callB p k s m).1.2 = a ∧ a < (clsAt p (callB p k s m).1.1).methods.length := by
 unfold callB callG at h ⊢
 split at h
 ·rename_i h1
  rw [if_pos h1]
  cases hq : pickB p (linkB p k s m).1 m with
  | none => rw [hq] at h; cases h
  | some q =>
   obtain ⟨q, a⟩ := q
   rw [hq] at h
   dsimp only at h ⊢
   split at h
   ·rename_i h2
    rw [if_pos h2]
    exact pickB_some hp hq
   ·cases h
 ·rename_i h1
  exact absurd h h1
theorem mthAt_ok {p : Plan} (hp : lodB p = true) {q : Ref × Int} {k i a : Nat} (hh : Here p q.1 k i) (hq : q.2 = a) (ha : a < (clsAt p q.1).methods.length) : mthAt p q = (clsAt p q.1).methods[a] ∧ mthB (mthAt p q) = true := by
 have e : mthAt p q = (clsAt p q.1).methods[a] := by
  unfold mthAt
  rw [hq, show ((a : Int)).toNat = a by omega]
  simp [ha]
 exact ⟨e, by rw [e]; exact clsB_mth (Here.clsB hp hh) _ (List.getElem_mem ha)⟩
end Go.Proofs.YtbalicnnlfennaaGreat

namespace Go.Proofs.YtbalicnnlfennaaGreat
open Go.RowKit

theorem run_copy_wide {P : Program} (w : World) (dT sT ty elem : TypeId) (sz : Nat) (g o dLen dCap : Nat) (a : Addr) (sLen sCap : Nat) (cur : Array Value) (t : TypeId) (cs : List Value)
  (hu : P.underlying dT = some (.slice elem)) (hs : (P.info? elem).map (·.size) = some sz)
  (hg : w.heap[g]? = some (.cells cur t (0, 0))) (hn : cs.length = Nat.min sLen dLen * sz)
  (hsrc : ∀ j v, cs[j]? = some v → w.cell? (a.add j) = some v) (hfit : o + cs.length ≤ cur.size) (h1 : ∀ v ∈ cs, v.oneCell' = true) :
  (Builtin.copy_ #[dT, sT] ty #[.slice (some ⟨g, o, none⟩) dLen dCap, .slice (some a) sLen sCap]).run P w =
   .ok (goInt (Nat.min sLen dLen : Nat)) (w.setRow g (cur.toList.take o ++ cs ++ cur.toList.drop (o + cs.length)).toArray) := by
 have hl := run_loadCells_list (P := P) w a cs hsrc
 have hst := run_storeCells_at P g o t cs 0 cur w hg (by simpa using hfit) h1
 cases hq : P.info? elem with
 | none => simp [hq] at hs
 | some i =>
  have hi : i.size = sz := by simpa [hq] using hs
  simp [Builtin.copy_, run_underlying hu, Builtin.lenOf, Builtin.firstCells, sizeOf, typeInfo, hq, hi, ← hn, hl, hst]
theorem wpList_copy_wide {P : Program} {w : World} {ops : Array Oper} {rest : List Oper} {o : Oper} {a : Act} {Q : Exit → Act → World → Prop} (hgd : o.guard = none) (d s : Operand) (dT sT : TypeId)
  (ho : o.op = .call { callee := .builtin .copy, args := #[d, s], argTypes := #[dT, sT] }) (elem : TypeId) (sz : Nat) (hu : P.underlying dT = some (.slice elem)) (hsz : (P.info? elem).map (·.size) = some sz)
  (g dLen dCap : Nat) (ad : Addr) (sLen sCap : Nat) (hd : a.eval d = .slice (some ⟨g, 0, none⟩) dLen dCap) (hs : a.eval s = .slice (some ad) sLen sCap) (hle : sLen ≤ dLen)
  (cur : Array Value) (t : TypeId) (hg : Bx w g t cur) (cs : List Value) (hn : cs.length = sLen * sz)
  (hsrc : ∀ j v, cs[j]? = some v → w.cell? (ad.add j) = some v) (hfit : cs.length ≤ cur.size) (h1 : ∀ v ∈ cs, v.oneCell' = true)
  (h : ∀ w', Bx w' g t (cs ++ cur.toList.drop cs.length).toArray → Fr (fun b => b = g) w w' → wpList P ops Q rest (a.put o.dst (goInt (sLen : Nat))) w') : wpList P ops Q (o :: rest) a w := by
 refine wpList_plain hgd fun K hK => ?_
 have hm : Nat.min sLen dLen = sLen := Nat.min_eq_left hle
 have hrun := run_copy_wide (P := P) w dT sT o.type elem sz g 0 dLen dCap ad sLen sCap cur t cs hu hsz hg (by rw [hm]; exact hn) hsrc (by simpa using hfit) h1
 rw [hm] at hrun
 unfold Oper.wp
 simp [execOp, ho, resolve, invoke, builtin, hd, hs, hrun, Result.andThen]
 refine hK _ _ (h _ ?_ ⟨rfl, rfl, rfl, by simp [World.setRow], fun k hk hn => setRow_other w g k _ (fun e => hn e)⟩)
 have := setRow_heap w g cur (cs ++ cur.toList.drop cs.length).toArray t (0, 0) hg
 unfold Bx
 simpa using this
theorem wpList_store_all {P : Program} {w : World} {ops : Array Oper} {rest : List Oper} {o : Oper} {a : Act} {Q : Exit → Act → World → Prop} (hgd : o.guard = none) (t : TypeId) (x y : Operand) (ho : o.op = .store t x y) (sz : Nat) (hsz : (P.info? t).map (·.size) = some sz)
  (g : Nat) (bt : TypeId) (cs : Array Value) (cs' : List Value) (hp : a.eval x = .pointer (some ⟨g, 0, none⟩)) (hv : a.eval y = .agg cs'.toArray) (hB : Bx w g bt cs) (hl : cs'.length = sz) (hc : cs.size = sz) (h1 : ∀ v ∈ cs', v.oneCell' = true)
  (h : ∀ w', Bx w' g bt cs'.toArray → Fr (fun b => b = g) w w' → wpList P ops Q rest (a.put o.dst undef) w') : wpList P ops Q (o :: rest) a w := by
 refine wpList_plain hgd fun K hK => ?_
 have hst := run_storeCells_at P g 0 bt cs' 0 cs w hB (by omega) h1
 have e : (cs.toList.take (0 + 0) ++ cs' ++ cs.toList.drop (0 + 0 + cs'.length)) = cs' := by
  have : cs.toList.length ≤ 0 + 0 + cs'.length := by simp; omega
  rw [List.drop_of_length_le this]
  simp
 rw [e] at hst
 have hrun : (Instr.storeAt t (.pointer (some ⟨g, 0, none⟩)) (.agg cs'.toArray)).run P w = .ok () (w.setRow g cs'.toArray) := by
  cases hq : P.info? t with
  | none => simp [hq] at hsz
  | some i =>
   have hi : i.size = sz := by simpa [hq] using hsz
   simp [Instr.storeAt, Instr.sureAddr, storeVar, sizeOf, typeInfo, hq, hi, Value.cells, hl, hst]
 unfold Oper.wp
 simp [execOp, ho, hp, hv, hrun]
 refine hK _ _ (h _ ?_ ⟨rfl, rfl, rfl, by simp [World.setRow], fun k hk hn => setRow_other w g k _ (fun e => hn e)⟩)
 exact setRow_heap w g cs cs'.toArray bt (0, 0) hB
end Go.Proofs.YtbalicnnlfennaaGreat

namespace Go.Proofs.YtbalicnnlfennaaGreat
open Go.RowKit

def LodgeX (X : Nat → Prop) (w : World) (l : Nat) (p : Plan) : Prop :=
 lodB p = true ∧ ∃ A cap bo ba bl, Bx w l 89 #[.slice A p.keepers.length cap, .map (some bo), .map (some ba), .map (some bl)] ∧ Sl X w 2 (KprC X w) (.slice A p.keepers.length cap) p.keepers ∧ MapF w bo 15 (ownF p)
theorem LkE.lodge {K : LkP} (E : LkE K) {w : World} (hf : Fr K.late K.w0 w) : LodgeX K.late w K.l K.p := by
 obtain ⟨n, g, ⟨h0, A, cap, bo, ba, k1, k2, k3, k4, k5, k6, k7, k8⟩, _⟩ := E.lg
 have nb : ∀ b, b < K.w0.heap.size → b ≠ K.bl → ¬ K.late b := fun b h1 h2 h => by rcases h with h | h <;> omega
 exact ⟨h0, A, cap, bo, ba, _, k1.keepX hf (nb _ k1.lt k2), k5.late (by decide) hf (fun _ _ _ h => (h.oldX.weaken (Y := K.late) (fun _ h => h)).keep hf (fun _ h => h)), k6.keepX hf (nb bo k6.lt k3)⟩

set_option maxRecDepth 100000 in
set_option maxHeartbeats 4000000 in
theorem class_valX (X : Nat → Prop) (l : Nat) (p : Plan) (k : Nat) (s : Str) (i : Nat) (w : World) (h : LodgeX X w l p) (hk : k < p.keepers.length) (hs : s.size ≤ maxLen)
  (y : Kpr) (hy : kprAt p k = y) (hi : i < y.owns.length) (hix : ixOpt (clsIs s) y.owns = some (i : Int)) :
  ∃ Af cf Am cm, ClsC X w [.string y.owns[i].name, .string y.owns[i].super, .slice Af y.owns[i].fields.length cf, .slice Am y.owns[i].methods.length cm] y.owns[i] ∧
   ∀ W, Fr No w W → Calls Tryz.prog 63 #[.pointer (some ⟨l, 0, none⟩), .agg #[.int .i64 k, .string s]] W (Gives (.agg #[.string y.owns[i].name, .string y.owns[i].super, .slice Af y.owns[i].fields.length cf, .slice Am y.owns[i].methods.length cm]) W) := by
 obtain ⟨hp, A, cap, bo, ba, bl, hB, hP, hO⟩ := h
 have h3 := lodB_len hp
 have hkl := hk
 have hix : ownF p (k : Int) s = some (i : Int) := by rw [ownF_at hk, hy]; exact hix
 have wk : (Lit.int .i64 (k : Int)).wf = true := wf_small (by omega) (by omega)
 have hlook := fun W (h : Fr No w W) => (hO.keep h).look wk hs
 rw [hix] at hlook
 simp only [Option.getD_some] at hlook
 rw [kprAt_nat hk] at hy
 obtain ⟨b, off, Ao, co, Aa, ca, rfl, hX, c0, c1, hown, _, hoc, hom, _, _⟩ := hP.kpr hk
 rw [hy] at c0 c1 hown hoc hom
 clear hy
 obtain ⟨b2, off2, Af, cf, Am, cm, rfl, hX2, d0, d1, d2, d3, hz0, hz1, hcf, hcm, _, _, _, _⟩ := hown.cls hi
 have hR : ClsC X w [.string y.owns[i].name, .string y.owns[i].super, .slice Af y.owns[i].fields.length cf, .slice Am y.owns[i].methods.length cm] y.owns[i] := ⟨_, _, rfl, hz0, hz1, hcf, hcm⟩
 clear hP hown hcf hcm hO hix hp
 unfold maxLen at hom
 generalize y.owns[i] = c at *
 refine ⟨Af, cf, Am, cm, hR, fun W hW => ?_⟩
 replace hB := hB.keep hW
 replace c0 := hW.keep0 c0
 replace c1 := hW.keep0 c1
 replace d0 := hW.keep0 d0
 replace d1 := hW.keep0 d1
 replace d2 := hW.keep0 d2
 replace d3 := hW.keep0 d3
 replace hlook := fun W' (h : Fr No W W') => hlook W' (hW.trans0 h)
 clear hR hW
 clear hX hX2 hz0 hz1
 generalize hwW : W = w at *
 clear hwW
 obtain ⟨e0, e1, e2, e3⟩ := hB.c4
 have hl := hB.lt
 have hbl := lt_of_cell c0
 have hbl2 := lt_of_cell d0
 have hkk : (k : Int).toNat = k := by omega
 have hii : (i : Int).toNat = i := by omega
 have hfA : Fr No w ((w.alloc (.cells #[.int .i64 k, .string s] 54)).alloc (.cells #[.string ⟨#[]⟩, .string ⟨#[]⟩, .slice none 0 0, .slice none 0 0] 62)) := ((Fr.refl No w).alloc _).alloc _
 have hBA := hB.keep hfA
 have hKA : Bx ((w.alloc (.cells #[.int .i64 k, .string s] 54)).alloc (.cells #[.string ⟨#[]⟩, .string ⟨#[]⟩, .slice none 0 0, .slice none 0 0] 62)) w.heap.size 54 #[.int .i64 k, .string s] := (Bx.new_ rfl).alloc _
 have hRA : Bx ((w.alloc (.cells #[.int .i64 k, .string s] 54)).alloc (.cells #[.string ⟨#[]⟩, .string ⟨#[]⟩, .slice none 0 0, .slice none 0 0] 62)) (w.heap.size + 1) 62 #[.string ⟨#[]⟩, .string ⟨#[]⟩, .slice none 0 0, .slice none 0 0] := Bx.new_ (by simp)
 have hlk := hlook (World.drew ((w.alloc (.cells #[.int .i64 k, .string s] 54)).alloc (.cells #[.string ⟨#[]⟩, .string ⟨#[]⟩, .slice none 0 0, .slice none 0 0] 62))) hfA.drew
 replace c0 := hfA.keep0 c0
 replace c1 := hfA.keep0 c1
 replace d0 := hfA.keep0 d0
 replace d1 := hfA.keep0 d1
 replace d2 := hfA.keep0 d2
 replace d3 := hfA.keep0 d3
 clear hlook hB e0 e1 e2 e3
 go_enter Tryz.func63, Tryz.ntmps63
 go_wp2
 generalize ((w.alloc (.cells #[.int .i64 k, .string s] 54)).alloc (.cells #[.string ⟨#[]⟩, .string ⟨#[]⟩, .slice none 0 0, .slice none 0 0] 62)) = wA at *
 have hdr : Fr No wA wA.drew := (Fr.refl No wA).drew
 replace hBA := hBA.keep hdr
 replace hKA := hKA.keep hdr
 replace hRA := hRA.keep hdr
 replace c0 := hdr.keep0 c0
 replace c1 := hdr.keep0 c1
 replace d0 := hdr.keep0 d0
 replace d1 := hdr.keep0 d1
 replace d2 := hdr.keep0 d2
 replace d3 := hdr.keep0 d3
 replace hfA := hfA.trans0 hdr
 clear hdr
 (refine wp_region_still_tail 17 (by kernel_rfl) (by kernel_rfl) ?_); (change wpStill _ _ (World.drew _) (fun a' => wpList _ _ _ _ a' (World.drew _)) _ _)
 generalize wA.drew = wD at *
 obtain ⟨e0, e1, e2, e3⟩ := hBA.c4
 obtain ⟨k0, k1⟩ := hKA.c2
 obtain ⟨r0, r1, r2, r3⟩ := hRA.c4
 have fr := fun j => hRA.frozen j
 have hl1 := hBA.lt
 have hl2 := hKA.lt
 have hl3 := hRA.lt
 have hb1 := lt_of_cell c0
 have hb2 := lt_of_cell d0
 (simp only [List.take_succ_cons, List.take_zero, List.drop_succ_cons, List.drop_zero]); (repeat still_step); (try refine wpStill_nil ?_)
 go_wp2
 refine bodyPost_ret (v := .agg #[.string c.name, .string c.super, .slice Af c.fields.length cf, .slice Am c.methods.length cm]) (by simp [results, Tryz.results63, go_sem, *]) rfl ?_
 exact .mk0 (by exact frc)

theorem here_classX {X : Nat → Prop} {l : Nat} {p : Plan} {k i : Nat} {s : Str} {w : World} (h : LodgeX X w l p) (hh : Here p ⟨k, s⟩ k i) (hs : s.size ≤ maxLen) :
  ∃ Af cf Am cm, ClsC X w [.string (clsAt p ⟨k, s⟩).name, .string (clsAt p ⟨k, s⟩).super, .slice Af (clsAt p ⟨k, s⟩).fields.length cf, .slice Am (clsAt p ⟨k, s⟩).methods.length cm] (clsAt p ⟨k, s⟩) ∧
   ∀ W, Fr No w W → Calls Tryz.prog 63 #[.pointer (some ⟨l, 0, none⟩), .agg #[.int .i64 k, .string s]] W (Gives (.agg #[.string (clsAt p ⟨k, s⟩).name, .string (clsAt p ⟨k, s⟩).super, .slice Af (clsAt p ⟨k, s⟩).fields.length cf, .slice Am (clsAt p ⟨k, s⟩).methods.length cm]) W) := by
 obtain ⟨Af, cf, Am, cm, hR, HC⟩ := class_valX X l p k s i w h hh.2.1 hs (kprAt p k) rfl hh.2.2.1 hh.2.2.2
 rw [← hh.cls] at hR HC
 exact ⟨Af, cf, Am, cm, hR, HC⟩

set_option maxRecDepth 100000 in
set_option maxHeartbeats 4000000 in
theorem method_valX {X : Nat → Prop} {l : Nat} {p : Plan} {k i a : Nat} {s : Str} {w : World} (h : LodgeX X w l p) (hh : Here p ⟨k, s⟩ k i) (hs : s.size ≤ maxLen) (ha : a < (clsAt p ⟨k, s⟩).methods.length) :
  ∃ cs : List Value, MthC X w cs (clsAt p ⟨k, s⟩).methods[a] ∧ ∀ W, Fr No w W → Calls Tryz.prog 36 #[.pointer (some ⟨l, 0, none⟩), .agg #[.int .i64 k, .string s, .int .i64 a]] W (Gives (.agg cs.toArray) W) := by
 obtain ⟨Af, cf, Am, cm, hR, HC⟩ := here_classX h hh hs
 generalize clsAt p ⟨k, s⟩ = c at *
 obtain ⟨vf, vm, he, _, _, _, hm⟩ := hR
 simp only [List.cons.injEq, true_and, and_true] at he
 obtain ⟨rfl, rfl⟩ := he
 have hml := hm.at_.2.2.1
 unfold maxLen at hml
 obtain ⟨bm, om, Aa, ca, Ac, cc, Ax, cx, rfl, _, d0, d1, d2, d3, d4, d5, d6, d7, hr1, hr2, hr3, hr4, hr5, _, _, _, _, _, _⟩ := hm.mth ha
 refine ⟨[.string c.methods[a].name, .slice Aa c.methods[a].args.length ca, .int .i64 c.methods[a].ret.kind, .string c.methods[a].ret.name, .int .i64 c.methods[a].locals, .int .i64 c.methods[a].stack, .slice Ac c.methods[a].code.length cc, .slice Ax c.methods[a].maps.length cx], ⟨_, _, _, rfl, hr1, hr2, hr3, hr4, hr5⟩, fun w0 hW => ?_⟩
 clear hm hr1 hr2 hr3 hr4 hr5
 generalize c.methods[a] = m at *
 replace d0 := hW.keep0 d0
 replace d1 := hW.keep0 d1
 replace d2 := hW.keep0 d2
 replace d3 := hW.keep0 d3
 replace d4 := hW.keep0 d4
 replace d5 := hW.keep0 d5
 replace d6 := hW.keep0 d6
 replace d7 := hW.keep0 d7
 replace HC := fun W' (h : Fr No w0 W') => HC W' (hW.trans0 h)
 have hk0 : (0 : Int) ≤ (a : Int) := by omega
 have hka : (a : Int) < (c.methods.length : Int) := by omega
 clear hW h hh
 obtain ⟨wA, hwA⟩ : ∃ wA, wA = ((w0.alloc (.cells #[.int .i64 k, .string s, .int .i64 a] 84)).alloc (.cells #[.string ⟨#[]⟩, .slice none 0 0, .int .i64 0, .string ⟨#[]⟩, .int .i64 0, .int .i64 0, .slice none 0 0, .slice none 0 0] 67)) := ⟨_, rfl⟩
 have hfA : Fr No w0 wA := hwA ▸ frc
 have B0 : Bx wA w0.heap.size 84 #[.int .i64 k, .string s, .int .i64 a] := hwA ▸ bxc
 have B1 : Bx wA (w0.heap.size + 1) 67 #[.string ⟨#[]⟩, .slice none 0 0, .int .i64 0, .string ⟨#[]⟩, .int .i64 0, .int .i64 0, .slice none 0 0, .slice none 0 0] := hwA ▸ bxc
 replace d0 := cr (hfA.keep0 d0)
 replace d1 := cr (hfA.keep0 d1)
 replace d2 := cr (hfA.keep0 d2)
 replace d3 := cr (hfA.keep0 d3)
 replace d4 := cr (hfA.keep0 d4)
 replace d5 := cr (hfA.keep0 d5)
 replace d6 := cr (hfA.keep0 d6)
 replace d7 := cr (hfA.keep0 d7)
 have K0 := B0.r3
 go_enter Tryz.func36, Tryz.ntmps36
 go_wp2_with fail
 rw [← hwA]
 clear hwA
 refine wp_region_monL 9 [isV (.pointer (some ⟨l, 0, none⟩)), isV (.pointer (some ⟨w0.heap.size, 0, none⟩)), isV (.agg #[.int .i64 k, .string s]), isV (.agg #[.string c.name, .string c.super, .slice Af c.fields.length cf, .slice (some ⟨bm, om, none⟩) c.methods.length cm]), isV (.slice (some ⟨bm, om, none⟩) c.methods.length cm), isV (.pointer (some ⟨w0.heap.size, 2, none⟩)), isV (.int .i64 a), isV (.pointer (some ⟨bm, om + a * 8, none⟩)), isV (.agg #[.string m.name, .slice Aa m.args.length ca, .int .i64 m.ret.kind, .string m.ret.name, .int .i64 m.locals, .int .i64 m.stack, .slice Ac m.code.length cc, .slice Ax m.maps.length cx])] [false, false, false, false, false, false, false, false, false] [false, false, false, false, false, false, false, false, false] ?_ (by kernel_rfl) (by kernel_rfl) ?_ ?_ ?_ ?_
 ·intro x hx hb v W h
  simp only [List.zip_cons_cons, List.zip_nil_left, List.mem_cons, List.not_mem_nil, or_false] at hx
  rcases hx with rfl | rfl | rfl | rfl | rfl | rfl | rfl | rfl | rfl <;> first | (cases hb; done) | exact atB_bk h
 ·intro o ho d hd; simp only [List.take_succ_cons, List.take_zero, List.mem_cons, List.not_mem_nil, or_false] at ho; rcases ho with rfl | rfl | rfl | rfl | rfl | rfl | rfl | rfl | rfl <;> (cases hd; simp)
 ·intro x hx
  simp only [List.mem_cons, List.not_mem_nil, or_false] at hx
  rcases hx with rfl | rfl | rfl | rfl | rfl | rfl | rfl | rfl | rfl
  ·exact isV_mono _
  ·exact isV_mono _
  ·exact isV_mono _
  ·exact isV_mono _
  ·exact isV_mono _
  ·exact isV_mono _
  ·exact isV_mono _
  ·exact isV_mono _
  ·exact isV_mono _
 ·intro k o ho a' W hW hoff hdep
  have hbs := hW.size
  have H0 := hoff 0 (by simp)
  have H3 := hoff 3 (by simp)
  simp only [Act.eval] at H0 H3
  simp only [List.take_succ_cons, List.take_zero] at ho hdep
  rcases k with _ | _ | _ | _ | _ | _ | _ | _ | _ | k
  all_goals (first | (simp at ho; done) | skip)
  all_goals simp only [List.getElem?_cons_zero, List.getElem?_cons_succ, Option.some.injEq] at ho
  all_goals subst ho
  ·refine ⟨fun h => absurd h (by decide), fun _ => ?_⟩
   unfold opGives
   simp [execOp, Act.eval, H0, go_sem, givesUpon]
   exact ⟨Fr.refl _ _, rfl⟩
  ·refine ⟨fun h => absurd h (by decide), fun _ => ?_⟩
   unfold opGives
   simp [execOp, Act.eval, H3, go_sem, givesUpon]
   exact ⟨Fr.refl _ _, rfl⟩
  ·have D6 : a'.eval (.tmp 6) = .pointer (some ⟨w0.heap.size, 0, none⟩) := hdep ⟨1, .data⟩ (by simp) rfl _ 6 rfl rfl
   simp only [Act.eval] at D6
   refine ⟨fun h => absurd h (by decide), fun _ => ?_⟩
   unfold opGives
   simp [execOp, Act.eval, go_sem, givesUpon, *]
   exact ⟨Fr.refl _ _, rfl⟩
  ·have D5 : a'.eval (.tmp 5) = .pointer (some ⟨l, 0, none⟩) := hdep ⟨0, .data⟩ (by simp) rfl _ 5 rfl rfl
   have D7 : a'.eval (.tmp 7) = .agg #[.int .i64 k, .string s] := hdep ⟨2, .data⟩ (by simp) rfl _ 7 rfl rfl
   simp only [Act.eval] at D5 D7
   refine ⟨fun h => absurd h (by decide), fun _ => ?_⟩
   unfold opGives
   simp [Act.eval, D5, D7, go_sem, givesUpon]
   exact (HC _ (hfA.trans0 hW)).mono fun e w'' h => ⟨_, h.1, h.2, rfl⟩
  ·have D8 : a'.eval (.tmp 8) = .agg #[.string c.name, .string c.super, .slice Af c.fields.length cf, .slice (some ⟨bm, om, none⟩) c.methods.length cm] := hdep ⟨3, .data⟩ (by simp) rfl _ 8 rfl rfl
   simp only [Act.eval] at D8
   refine ⟨fun h => absurd h (by decide), fun _ => ?_⟩
   unfold opGives
   simp [execOp, Act.eval, D8, go_sem, givesUpon]
   exact ⟨Fr.refl _ _, rfl⟩
  ·refine ⟨fun h => absurd h (by decide), fun _ => ?_⟩
   unfold opGives
   simp [execOp, Act.eval, H3, go_sem, givesUpon]
   exact ⟨Fr.refl _ _, rfl⟩
  ·have D10 : a'.eval (.tmp 10) = .pointer (some ⟨w0.heap.size, 2, none⟩) := hdep ⟨5, .data⟩ (by simp) rfl _ 10 rfl rfl
   simp only [Act.eval] at D10
   refine ⟨fun h => absurd h (by decide), fun _ => ?_⟩
   unfold opGives
   simp [execOp, Act.eval, go_sem, givesUpon, *]
   exact ⟨Fr.refl _ _, rfl⟩
  ·have D9 : a'.eval (.tmp 9) = .slice (some ⟨bm, om, none⟩) c.methods.length cm := hdep ⟨4, .data⟩ (by simp) rfl _ 9 rfl rfl
   have D11 : a'.eval (.tmp 11) = .int .i64 a := hdep ⟨6, .data⟩ (by simp) rfl _ 11 rfl rfl
   simp only [Act.eval] at D9 D11
   refine ⟨fun h => absurd h (by decide), fun _ => ?_⟩
   unfold opGives
   simp [execOp, Act.eval, go_sem, givesUpon, *]
   exact ⟨Fr.refl _ _, rfl⟩
  ·have D12 : a'.eval (.tmp 12) = .pointer (some ⟨bm, om + a * 8, none⟩) := hdep ⟨7, .data⟩ (by simp) rfl _ 12 rfl rfl
   simp only [Act.eval] at D12
   refine ⟨fun h => absurd h (by decide), fun _ => ?_⟩
   unfold opGives
   simp [execOp, Act.eval, go_sem, givesUpon, *]
   exact ⟨Fr.refl _ _, rfl⟩
 intro vs WR hWR hv hne
 have e0 : vs 0 = _ := hv 0 (by omega)
 have e1 : vs 1 = _ := hv 1 (by omega)
 have e2 : vs 2 = _ := hv 2 (by omega)
 have e3 : vs 3 = _ := hv 3 (by omega)
 have e4 : vs 4 = _ := hv 4 (by omega)
 have e5 : vs 5 = _ := hv 5 (by omega)
 have e6 : vs 6 = _ := hv 6 (by omega)
 have e7 : vs 7 = _ := hv 7 (by omega)
 have e8 : vs 8 = _ := hv 8 (by omega)
 simp only [List.take_succ_cons, List.take_zero, List.drop_succ_cons, List.drop_zero, putsL, if_true, Nat.zero_add, Nat.reduceAdd, e0, e1, e2, e3, e4, e5, e6, e7, e8]
 simp only [Act.put, List.setIfInBounds_toArray, List.set_cons_zero, List.set_cons_succ]
 clear e0 e1 e2 e3 e4 e5 e6 e7 e8 hv
 have q1 : Fr No w0 WR := hfA.trans0 hWR
 have B1' := B1.keep hWR
 obtain ⟨z0, z1, z2, z3, z4, z5, z6, z7⟩ := B1'.c8
 have zf := fun j => B1'.frozen j
 have zl := B1'.lt
 go_wp2
 refine bodyPost_ret (v := .agg #[.string m.name, .slice Aa m.args.length ca, .int .i64 m.ret.kind, .string m.ret.name, .int .i64 m.locals, .int .i64 m.stack, .slice Ac m.code.length cc, .slice Ax m.maps.length cx]) (by simp [results, Tryz.results36, go_sem, *]) rfl ?_
 exact .mk1 rfl frc
end Go.Proofs.YtbalicnnlfennaaGreat

namespace Go.Proofs.YtbalicnnlfennaaGreat
open Go.RowKit

section
variable {K : McP} {w : World}
theorem Sl.mlate {α : Type} {sz : Nat} {R R' : List Value → α → Prop} {v : Value} {xs : List α} (h : Sl (fun b => b = K.bl) K.w0 sz R v xs) (hsz : 0 < sz) (hf : Fr K.late K.w0 w) (hR : ∀ cs x, x ∈ xs → R cs x → R' cs x) : Sl K.late w sz R' v xs := by
 have h1 := h.oldX (R' := R') hsz hR
 exact (h1.weaken (Y := K.late) (fun _ h => h) (fun _ _ _ h => h)).keep hf (fun _ h => h) (fun _ _ _ h => h)
theorem Sl.back {α : Type} {sz : Nat} {R : List Value → α → Prop} {v : Value} {xs : List α} (h : Sl K.late w sz R v xs) (hf : Fr K.late K.w0 w) : Sl (fun b => b = K.bl) K.w0 sz R v xs := by
 obtain ⟨A, cap, rfl, h1, h2, h3⟩ := h
 refine ⟨A, cap, rfl, h1, h2, fun h0 => ?_⟩
 obtain ⟨b, off, rfl, hX, hc⟩ := h3 h0
 have hb : b < K.w0.heap.size := by
  rcases Nat.lt_or_ge b K.w0.heap.size with h9 | h9
  ·exact h9
  ·exact absurd (.inr h9) hX
 refine ⟨b, off, rfl, fun e => hX (.inl e), fun k hk => ?_⟩
 obtain ⟨cs, hR, hl, hcs⟩ := hc k hk
 exact ⟨cs, hR, hl, fun j hj => by rw [← hf.cellX _ hb hX]; exact hcs j hj⟩
end
end Go.Proofs.YtbalicnnlfennaaGreat

namespace Go.Proofs.YtbalicnnlfennaaGreat
open Go.RowKit

section
variable {K : McP} {w : World}
theorem McE.lodgeX (E : McE K) (hf : Fr K.late K.w0 w) : LodgeX K.late w K.l K.p := by
 obtain ⟨n, g, ⟨h0, A, cap, bo, ba, k1, k2, k3, k4, k5, k6, k7, k8⟩, _⟩ := E
 have nb : ∀ b, b < K.w0.heap.size → b ≠ K.bl → ¬ K.late b := fun b h1 h2 h => by rcases h with h | h <;> omega
 exact ⟨h0, A, cap, bo, ba, _, k1.keepX hf (nb _ k1.lt k2), k5.mlate (by decide) hf (fun _ _ _ h => (h.oldX.weaken (Y := K.late) (fun _ h => h)).keep hf (fun _ h => h)), k6.keepX hf (nb bo k6.lt k3)⟩
end
end Go.Proofs.YtbalicnnlfennaaGreat
