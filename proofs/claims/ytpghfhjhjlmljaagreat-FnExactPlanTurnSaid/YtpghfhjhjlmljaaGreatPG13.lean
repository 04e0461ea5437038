/- The program's own keepers in memory: who is there; what a keeper has and whom it asks, noted in maps. -/
import Derived.Test.YtpghfhjhjlmljaaGreatPG8
import Derived.Test.YtpghfhjhjlmljaaGreatPG12
import Derived.StillTailTactics
set_option maxHeartbeats 8000000
set_option maxRecDepth 100000
namespace Go.Proofs.YtpghfhjhjlmljaaGreat
open Go.RowKit
theorem zgq (l n cap:Nat) (A:Option Addr) (b1 b2 b3:Value) (k:Int) (w:World) (hB:Bx w l 146 #[.slice A n cap,b1,b2,b3]) (_hn:n≤maxLen):
  Calls Tryz.prog 116 #[.pointer (some ⟨l,0,none⟩),.int .i64 k] w (zgl (decide (0≤k)&&decide (k<n)) w):=by
 unfold maxLen at _hn
 obtain⟨e0,_,_,_⟩:=hB.c4
 have hl:=hB.lt
 by_cases h0:0≤k
 ·by_cases h1:k<n
  ·go_enter Tryz.func116,Tryz.ntmps116
   go_wp2
   go_ret
   exact .mk (by first|(simp[h0,h1];done)|(simp[h0,h1];omega)|(simp;omega))
  ·go_enter Tryz.func116,Tryz.ntmps116
   go_wp2
   go_ret
   exact .mk (by first|(simp[h1];done)|(simp[h0,h1];done)|(simp[h0,h1];omega)|(simp;omega))
 ·go_enter Tryz.func116,Tryz.ntmps116
  go_wp2
  go_ret
  exact .mk (by first|(simp;omega)|(simp[h0];done)|(simp[h0];omega))
theorem MapF.look_some {w:World} {b n:Nat} {f:Int->Str->Option Int} (h:MapF w b n f) {k v:Int} {s:Str} (wk:(Lit.int .i64 k).wf=true) (hs:s.size≤maxLen) (he:f k s=some v):
  (Instr.lookup 144 (.map (some b)) (.agg #[.int .i64 k,.string s]) true).run Tryz.prog w=.ok (.tuple #[.int .i64 v,.bool true]) w:=by
 rw[h.look_ok wk hs,he];rfl
theorem MapF.look_none {w:World} {b n:Nat} {f:Int->Str->Option Int} (h:MapF w b n f) {k:Int} {s:Str} (wk:(Lit.int .i64 k).wf=true) (hs:s.size≤maxLen) (he:f k s=none):
  (Instr.lookup 144 (.map (some b)) (.agg #[.int .i64 k,.string s]) true).run Tryz.prog w=.ok (.tuple #[.int .i64 0,.bool false]) w:=by
 rw[h.look_ok wk hs,he];rfl
def ownP (f:Int->Str->Option Int) (k:Int) (xs:List Cls):Int->Str->Option Int:=fun q s=>if q=k then zbx (zbp s) xs else f q s
def askP (f:Int->Str->Option Int) (k:Int) (xs:List Ask):Int->Str->Option Int:=fun q s=>if q=k then zbE xs s else f q s
theorem zgr {f:Int->Str->Option Int} {k:Int} {xs:List Cls} {i:Nat} (hi:i<xs.length) (hn:zbx (zbp xs[i].name) (xs.take i)=none) (q:Int) (s:Str):
  upd (ownP f k (xs.take i)) k xs[i].name i q s=ownP f k (xs.take (i+1)) q s:=by
 unfold upd ownP
 by_cases hq:q=k
 ·subst hq
  rw[List.take_succ_eq_append_getElem hi,if_pos rfl,if_pos rfl,zbz]
  by_cases hs:s=xs[i].name
  ·subst hs
   rw[if_pos ⟨rfl,rfl⟩,hn]
   have:zbp xs[i].name xs[i]=true:=zbr.2 rfl
   simp[this,List.length_take,Nat.min_eq_left (Nat.le_of_lt hi)]
  ·rw[if_neg (by intro h;exact hs h.2)]
   have hc:¬zbp s xs[i]=true:=fun h=>hs (zbr.1 h).symm
   rw[if_neg hc]
   cases h:zbx (zbp s) (xs.take i)<;>simp
 ·rw[if_neg (by intro h;exact hq h.1),if_neg hq,if_neg hq]
theorem zgs (xs:List Ask) (a:Ask) (s:Str):zbE (xs ++ [a]) s=if (zbE xs s).isSome then zbE xs s else if zbq s a then some a.keeper else none:=by
 unfold zbE
 rw[List.find?_append]
 cases h:xs.find? (zbq s)
 ·simp[List.find?_cons]
  cases zbq s a<;>rfl
 ·simp
theorem zgt {xs:List Ask} {s:Str}:zbE xs s=none↔xs.all (fun g=>!zbq s g)=true:=by
 unfold zbE
 rw[Option.map_eq_none_iff,List.find?_eq_none,List.all_eq_true]
 simp
theorem zgu {f:Int->Str->Option Int} {k:Int} {xs:List Ask} {i:Nat} (hi:i<xs.length) (hn:zbE (xs.take i) xs[i].name=none) (q:Int) (s:Str):
  upd (askP f k (xs.take i)) k xs[i].name xs[i].keeper q s=askP f k (xs.take (i+1)) q s:=by
 unfold upd askP
 by_cases hq:q=k
 ·subst hq
  rw[List.take_succ_eq_append_getElem hi,if_pos rfl,if_pos rfl,zgs]
  by_cases hs:s=xs[i].name
  ·subst hs
   rw[if_pos ⟨rfl,rfl⟩,hn]
   have:zbq xs[i].name xs[i]=true:=zbs.2 rfl
   simp[this]
  ·rw[if_neg (by intro h;exact hs h.2)]
   have hc:¬zbq s xs[i]=true:=fun h=>hs (zbs.1 h).symm
   rw[if_neg hc]
   cases h:zbE (xs.take i) s<;>simp
 ·rw[if_neg (by intro h;exact hq h.1),if_neg hq,if_neg hq]
def zgv (y:Kpr) (many:Int) (k:Int) (bo ba no na:Nat) (f g:Int->Str->Option Int) (w:World) (e:Ending) (w':World):Prop:=
 e=.returned (.bool (kprB many y))∧Fr (fun b=>b=bo∨b=ba) w w'∧(kprB many y=true->MapF w' bo (no+5) (ownP f k y.owns)∧MapF w' ba (na+4) (askP g k y.asks))
theorem zgv.no {y:Kpr} {many k:Int} {bo ba no na:Nat} {f g:Int->Str->Option Int} {w w':World} (h:kprB many y=false) (hf:Fr (fun b=>b=bo∨b=ba) w w'):zgv y many k bo ba no na f g w (.returned (.bool false)) w':=
 ⟨by rw[h],hf,fun h'=>by rw[h] at h';cases h'⟩
theorem zgw {many:Int} {y:Kpr} (g:5<y.owns.length∨4<y.asks.length∨zbt [] y.owns=false∨zbu many [] y.asks=false):kprB many y=false:=by
 unfold kprB
 rcases g with g|g|g|g
 ·rw[decide_eq_false (show ¬y.owns.length≤5 by omega)];simp
 ·rw[decide_eq_false (show ¬y.asks.length≤4 by omega)];simp
 ·rw[g];simp
 ·rw[g];simp
theorem zgx {s:Str} {xs:List Cls} (h:xs.all (fun g=>!zbp s g)=true):zbx (zbp s) xs=none:=zbA.2 h
theorem zgy {s:Str} {xs:List Cls} (h:xs.all (fun g=>!zbp s g)=false):∃v,zbx (zbp s) xs=some v:=by
 cases hx:zbx (zbp s) xs
 ·rw[zbA.1 hx] at h;cases h
 ·exact⟨_,rfl⟩
theorem zgz {s:Str} {xs:List Ask} (h:xs.all (fun g=>!zbq s g)=false):∃v,zbE xs s=some v:=by
 cases hx:zbE xs s
 ·rw[zgt.1 hx] at h;cases h
 ·exact⟨_,rfl⟩
theorem zgv.yes {y:Kpr} {many k:Int} {bo ba no na:Nat} {f g:Int->Str->Option Int} {w w':World} (h:kprB many y=true) (hf:Fr (fun b=>b=bo∨b=ba) w w')
  (hm:MapF w' bo (no+5) (ownP f k y.owns)∧MapF w' ba (na+4) (askP g k y.asks)):zgv y many k bo ba no na f g w (.returned (.bool true)) w':=
 ⟨by rw[h],hf,fun _=>hm⟩
theorem zgA (p:Plan) (k:Nat) (hk:k<p.keepers.length) (hlen3:p.keepers.length≤3) (A:Option Addr) (cap l bo ba bl no na:Nat) (f g:Int->Str->Option Int) (w:World)
  (hB:Bx w l 146 #[.slice A p.keepers.length cap,.map (some bo),.map (some ba),.map (some bl)])
  (hlo:l≠bo) (hla:l≠ba) (hoa:bo≠ba)
  (hP:Sl (fun b=>b=bo∨b=ba) w 2 (KprC (fun b=>b=bo∨b=ba) w) (.slice A p.keepers.length cap) p.keepers)
  (hO:MapF w bo no f) (hA:MapF w ba na g) (hno:no≤100) (hna:na≤100) (hf:∀s,f k s=none) (hg:∀s,g k s=none):
  Calls Tryz.prog 82 #[.pointer (some ⟨l,0,none⟩),.int .i64 k] w (zgv p.keepers[k] p.keepers.length k bo ba no na f g w):=by
 obtain⟨b,off,Ao,co,Aa,ca,rfl,hX,c0,c1,hown,hask,hoc,hom,hac,ham⟩:=hP.kpr hk
 generalize hy:p.keepers[k]=y at *
 clear hP hy
 unfold maxLen at hom ham
 obtain⟨e0,e1,e2,e3⟩:=hB.c4
 have hl:=hB.lt
 have hbl:=lt_of_cell c0
 have wk:(Lit.int .i64 (k:Int)).wf=true:=zb3 (by omega) (by omega)
 have hkk:(k:Int).toNat=k:=by omega
 have hbol:=hO.lt
 have hbal:=hA.lt
 -- the keeper's copy
 have hK:=Bx.new w 67 #[.slice Ao y.owns.length co,.slice Aa y.asks.length ca]
 have hw0:Fr (fun b=>b=bo∨b=ba) w (w.alloc (.cells #[.slice Ao y.owns.length co,.slice Aa y.asks.length ca] 67)):=(Fr.refl _ w).alloc _
 have hO0:=hO.keep ((Fr.refl No w).alloc (.cells #[.slice Ao y.owns.length co,.slice Aa y.asks.length ca] 67))
 have hB0:=hB.alloc (.cells #[.slice Ao y.owns.length co,.slice Aa y.asks.length ca] 67)
 have hcase:5<y.owns.length∨(y.owns.length≤5∧4<y.asks.length)∨(y.owns.length≤5∧y.asks.length≤4):=by omega
 rcases hcase with g1 | ⟨g1,g2⟩ | ⟨g1,g2⟩
 all_goals
  go_enter Tryz.func82,Tryz.ntmps82
  go_wp2
 ·go_ret;exact zgv.no (zgw (.inl g1)) hw0
 ·go_ret;exact zgv.no (zgw (.inr (.inl g2))) hw0
 clear e0 e1 e2 e3 c0 c1 hB
 go_loopw [36,4] (fun i r wr=>∃j:Nat,j≤y.owns.length∧i=.int .i64 j∧r=.bool false∧Hid (zbt [] y.owns=zbt (y.owns.take j) (y.owns.drop j)) ∧
  MapF wr bo (no+j) (ownP f k (y.owns.take j))∧Bx wr w.heap.size 67 #[.slice Ao y.owns.length co,.slice Aa y.asks.length ca] ∧
  Fr (fun b=>b=bo) (w.alloc (.cells #[.slice Ao y.owns.length co,.slice Aa y.asks.length ca] 67)) wr) (fun i _ _=>y.owns.length-(intOf i).toNat)
 case atStart=>exact⟨0,Nat.zero_le _,rfl,rfl,rfl,hO0.congr (fun q s=>by unfold ownP;by_cases h:q=k;(· subst h;rw[if_pos rfl,hf];rfl);rw[if_neg h]),hK,Fr.refl _ _⟩
 case round=>
  clear hO0 hO
  obtain⟨j,hj,rfl,rfl,hd,hO',hK',hwr⟩:=hrel
  have hB':=hB0.keepX hwr hlo
  obtain⟨e0,e1,e2,e3⟩:=hB'.c4
  have hl':=hB'.lt
  obtain⟨d0,d1⟩:=hK'.c2
  have hKl:=hK'.lt
  have hbol':=hO'.lt
  have hw:Fr (fun b=>b=bo∨b=ba) w wr:=hw0.trans hwr (fun b _ h=>.inl h)
  by_cases hlt:j<y.owns.length
  ·have hownw:=hown.keep hw (fun _ h=>h) (fun _ _ _ h=>h.keep hw (fun _ h=>h))
   obtain⟨b2,off2,Af,cf,Am,cm,hAo,hX2,c0,c1,c2,c3,hz0,hz1,hcf,hcm,_,_,_,_⟩:=hownw.cls hlt
   have hR:ClsC (fun b=>b=bo∨b=ba) wr [.string y.owns[j].name,.string y.owns[j].super,.slice Af y.owns[j].fields.length cf,.slice Am y.owns[j].methods.length cm] y.owns[j]:=⟨_,_,rfl,hz0,hz1,hcf,hcm⟩
   subst hAo
   have hbl2:=lt_of_cell c0
   have hd:=Lib.hid (zbv hlt hd.out)
   have hstep:=fun hn=>zgr (f:=f) (k:=(k:Int)) hlt hn
   clear hownw hcf hcm hown
   generalize hc:y.owns[j]=c at *
   clear hc
   have HC:=fun W (h:Fr No wr W)=>zeO _ c _ W (hR.keep h zN)
   clear hR
   have hBA:=(hB'.alloc (.cells #[.string c.name,.string c.super,.slice Af c.fields.length cf,.slice Am c.methods.length cm] 42)).alloc (.cells #[.int .i64 k,.string c.name] 182)
   obtain⟨hCA,hKA, -⟩:=Bx.two wr 42 #[.string c.name,.string c.super,.slice Af c.fields.length cf,.slice Am c.methods.length cm] 182 #[.int .i64 k,.string c.name]
   have hOA:=hO'.keep ((Fr.refl No wr).alloc (.cells #[.string c.name,.string c.super,.slice Af c.fields.length cf,.slice Am c.methods.length cm] 42) |>.alloc (.cells #[.int .i64 k,.string c.name] 182))
   have hfA:Fr No wr ((wr.alloc (.cells #[.string c.name,.string c.super,.slice Af c.fields.length cf,.slice Am c.methods.length cm] 42)).alloc (.cells #[.int .i64 k,.string c.name] 182)):=((Fr.refl No wr).alloc _).alloc _
   have q0:=fun W (h:Fr No ((wr.alloc (.cells #[.string c.name,.string c.super,.slice Af c.fields.length cf,.slice Am c.methods.length cm] 42)).alloc (.cells #[.int .i64 k,.string c.name] 182)) W)=>(hBA.keep h).c4.1
   have q1:=fun W (h:Fr No ((wr.alloc (.cells #[.string c.name,.string c.super,.slice Af c.fields.length cf,.slice Am c.methods.length cm] 42)).alloc (.cells #[.int .i64 k,.string c.name] 182)) W)=>(hBA.keep h).c4.2.1
   have q2:=fun W (h:Fr No ((wr.alloc (.cells #[.string c.name,.string c.super,.slice Af c.fields.length cf,.slice Am c.methods.length cm] 42)).alloc (.cells #[.int .i64 k,.string c.name] 182)) W)=>(hKA.keep h).c2.1
   have q3:=fun W (h:Fr No ((wr.alloc (.cells #[.string c.name,.string c.super,.slice Af c.fields.length cf,.slice Am c.methods.length cm] 42)).alloc (.cells #[.int .i64 k,.string c.name] 182)) W)=>(hKA.keep h).c2.2
   have hcase:(y.owns.take j).all (fun g=>!zbp c.name g)=false∨((y.owns.take j).all (fun g=>!zbp c.name g)=true∧clsB c=false)∨((y.owns.take j).all (fun g=>!zbp c.name g)=true∧clsB c=true):=by
    cases(y.owns.take j).all (fun g=>!zbp c.name g)<;>cases clsB c<;>simp
   rcases hcase with g3 | ⟨g3,g4⟩ | ⟨g3,g4⟩
   ·obtain⟨v,hv⟩:=zgy g3
    have hlook:=fun W (h:Fr No ((wr.alloc (.cells #[.string c.name,.string c.super,.slice Af c.fields.length cf,.slice Am c.methods.length cm] 42)).alloc (.cells #[.int .i64 k,.string c.name] 182)) W)=>(hOA.keep h).look_some (v:=v) wk hz0 (by unfold ownP;rw[if_pos rfl];exact hv)
    have HS:Hid (kprB p.keepers.length y=false):=zgw (.inr (.inr (.inl (by rw[hd.out,g3];simp))))
    clear g3 hv hd hstep HC
    go_wp2_with fail
    (refine zgc (X:=No) (by kernel_rfl) (by kernel_rfl) ?_)
    clear e0 e1 e2 e3 d0 d1 c0 c1 c2 c3
    (repeat((first|go_big_quiet_skip|(go_big_quiet_want;(apply Exists.intro;refine⟨fun W hW=>?_,?_⟩);(focus (exact fqc));go_big_quiet_on));(try simp only[Act.put,lz0,lz1,lz2])));refine wpQuiet_nil ?_
    intro w1 hf1
    clear q0 q1 q2 q3 hlook
    go_wp2
    go_ret
    exact zgv.no HS.out ((hw.trans0 hfA).trans0 hf1)
   ·have hlook:=fun W (h:Fr No ((wr.alloc (.cells #[.string c.name,.string c.super,.slice Af c.fields.length cf,.slice Am c.methods.length cm] 42)).alloc (.cells #[.int .i64 k,.string c.name] 182)) W)=>(hOA.keep h).look_none wk hz0 (by unfold ownP;rw[if_pos rfl];exact zgx g3)
    have HS:Hid (kprB p.keepers.length y=false):=zgw (.inr (.inr (.inl (by rw[hd.out,g4];rfl))))
    rw[g4] at HC
    clear g3 g4 hd hstep
    go_wp2_with fail
    (refine zgc (X:=No) (by kernel_rfl) (by kernel_rfl) ?_)
    clear e0 e1 e2 e3 d0 d1 c0 c1 c2 c3
    (repeat((first|go_big_quiet_skip|(go_big_quiet_want;(apply Exists.intro;refine⟨fun W hW=>?_,?_⟩);(focus (exact fqc));go_big_quiet_on));(try simp only[Act.put,lz0,lz1,lz2])));refine wpQuiet_nil ?_
    intro w1 hf1
    clear q0 q1 q2 q3 hlook
    obtain⟨c0,c1,c2,c3⟩:=(hCA.keep hf1).c4
    have hl1:=(hCA.keep hf1).lt
    go_wp2_with (go_at_call 46;refine(HC _ (hfA.trans0 hf1)).mono ?_;rintro e w2 ⟨rfl,hf2⟩)
    go_ret
    exact zgv.no HS.out (((hw.trans0 hfA).trans0 hf1).trans0 hf2)
   ·have hlook:=fun W (h:Fr No ((wr.alloc (.cells #[.string c.name,.string c.super,.slice Af c.fields.length cf,.slice Am c.methods.length cm] 42)).alloc (.cells #[.int .i64 k,.string c.name] 182)) W)=>(hOA.keep h).look_none wk hz0 (by unfold ownP;rw[if_pos rfl];exact zgx g3)
    have HS:Hid (zbt [] y.owns=zbt (y.owns.take (j+1)) (y.owns.drop (j+1))):=by
     have:=hd.out;rwa [g3,g4,Bool.true_and,Bool.true_and] at this
    have hstep:=Lib.hid (hstep (zgx g3))
    rw[g4] at HC
    clear g3 g4 hd
    go_wp2_with fail
    (refine zgc (X:=No) (by kernel_rfl) (by kernel_rfl) ?_)
    clear e0 e1 e2 e3 d0 d1 c0 c1 c2 c3
    (repeat((first|go_big_quiet_skip|(go_big_quiet_want;(apply Exists.intro;refine⟨fun W hW=>?_,?_⟩);(focus (exact fqc));go_big_quiet_on));(try simp only[Act.put,lz0,lz1,lz2])));refine wpQuiet_nil ?_
    intro w1 hf1
    clear q0 q1 q2 q3 hlook
    obtain⟨c0,c1,c2,c3⟩:=(hCA.keep hf1).c4
    have hl1:=(hCA.keep hf1).lt
    go_wp2_with (go_at_call 46;refine(HC _ (hfA.trans0 hf1)).mono ?_;rintro e w2 ⟨rfl,hf2⟩)
    have hf12:=hf1.trans0 hf2
    have hB2:=hBA.keep hf12
    have hK2:=hKA.keep hf12
    have hO2:=hOA.keep hf12
    obtain⟨e0,e1,e2,e3⟩:=hB2.c4
    obtain⟨k0,k1⟩:=hK2.c2
    have hl2:=hB2.lt
    have hkl2:=hK2.lt
    go_still_tail 6,(by kernel_rfl)
    refine zb2 rfl _ _ _ rfl rfl (hO2.keep (Fr.drew (Fr.refl No w2))) (by unfold maxLen;omega) rfl rfl wk hz0 (zb3 (by omega) (by omega)) ?_
    intro w3 hO3 hg3
    have h1:Fr (fun b=>b=bo) wr w3:=Fr.grown (((hfA.trans0 hf12).mono (fun _ _ h=>h.elim)).drew) hg3 (fun q e=>.inr (by cases e;rfl))
    have hK3:=hK'.keepX h1 (by first|omega|(dsimp only;omega))
    clear e0 e1 e2 e3 k0 k1 c0 c1 c2 c3 hl2 hkl2
    go_frame
    go_wp2
    go_roundw
    case rel=>exact⟨j+1,by omega,by go_num,rfl,HS,hO3.congr (fun q s=>hstep.out q s),hK3,hwr.same h1⟩
    case measure=>simp[intOf];omega
  ·have G1:Hid (zbt [] y.owns=true):=by have:=hd.out;rwa [List.drop_eq_nil_of_le (by omega)] at this
   have hOz:MapF wr bo (no+5) (ownP f k y.owns):=by
    have:=hO'
    rw[List.take_of_length_le (by omega)] at this
    exact this.mono (by omega)
   have hAz:=(hA.keep ((Fr.refl No w).alloc (.cells #[.slice Ao y.owns.length co,.slice Aa y.asks.length ca] 67))).keepX hwr (by first|omega|(dsimp only;omega))
   clear hown hd hO' hA hwr
   go_wp2
   obtain⟨wz,rfl⟩:∃wz:World,wz=wr:=⟨_,rfl⟩
   go_loopw [70,4] (fun i r wr=>∃j:Nat,j≤y.asks.length∧i=.int .i64 j∧r=.bool false∧Hid (zbu p.keepers.length [] y.asks=zbu p.keepers.length (y.asks.take j) (y.asks.drop j)) ∧
    MapF wr ba (na+j) (askP g k (y.asks.take j))∧Fr (fun b=>b=ba) wz wr) (fun i _ _=>y.asks.length-(intOf i).toNat)
   case atStart=>exact⟨0,Nat.zero_le _,rfl,rfl,rfl,hAz.congr (fun q s=>by unfold askP;by_cases h:q=k;(· subst h;rw[if_pos rfl,hg];rfl);rw[if_neg h]),Fr.refl _ _⟩
   case round=>
    clear hAz e0 e1 e2 e3 d0 d1
    obtain⟨j,hj,rfl,rfl,hd,hA',hwr⟩:=hrel
    have hBr:=hB'.keepX hwr hla
    obtain⟨e0,e1,e2,e3⟩:=hBr.c4
    have hlr:=hBr.lt
    have hwy:Fr (fun b=>b=bo∨b=ba) w wr:=hw.trans hwr (fun b _ h=>.inr h)
    by_cases hlt:j<y.asks.length
    ·have haskw:=hask.keep hwy (fun _ h=>h) (fun _ _ _ h=>h)
     obtain⟨b2,off2,hAo,hX2,c0,c1,hz0⟩:=haskw.ask hlt
     subst hAo
     have hbl2:=lt_of_cell c0
     have hd:=Lib.hid (zbw hlt hd.out)
     have hstep:=fun hn=>zgu (f:=g) (k:=(k:Int)) hlt hn
     clear haskw hask
     generalize hc:y.asks[j]=a at *
     clear hc
     have HN:=fun W=>zeE a.name W hz0
     have HH:=fun W (h:Fr No wr W)=>zgq l p.keepers.length cap _ _ _ _ a.keeper W (hBr.keep h) (by unfold maxLen;omega)
     have hBA:=(hBr.alloc (.cells #[.string a.name,.int .i64 a.keeper] 86)).alloc (.cells #[.int .i64 k,.string a.name] 182)
     obtain⟨hCA,hKA, -⟩:=Bx.two wr 86 #[.string a.name,.int .i64 a.keeper] 182 #[.int .i64 k,.string a.name]
     have hOA:=hA'.keep ((Fr.refl No wr).alloc (.cells #[.string a.name,.int .i64 a.keeper] 86) |>.alloc (.cells #[.int .i64 k,.string a.name] 182))
     have hfA:Fr No wr ((wr.alloc (.cells #[.string a.name,.int .i64 a.keeper] 86)).alloc (.cells #[.int .i64 k,.string a.name] 182)):=((Fr.refl No wr).alloc _).alloc _
     have q0:=fun W (h:Fr No ((wr.alloc (.cells #[.string a.name,.int .i64 a.keeper] 86)).alloc (.cells #[.int .i64 k,.string a.name] 182)) W)=>(hBA.keep h).c4.1
     have q1:=fun W (h:Fr No ((wr.alloc (.cells #[.string a.name,.int .i64 a.keeper] 86)).alloc (.cells #[.int .i64 k,.string a.name] 182)) W)=>(hBA.keep h).c4.2.2.1
     have q2:=fun W (h:Fr No ((wr.alloc (.cells #[.string a.name,.int .i64 a.keeper] 86)).alloc (.cells #[.int .i64 k,.string a.name] 182)) W)=>(hKA.keep h).c2.1
     have q3:=fun W (h:Fr No ((wr.alloc (.cells #[.string a.name,.int .i64 a.keeper] 86)).alloc (.cells #[.int .i64 k,.string a.name] 182)) W)=>(hKA.keep h).c2.2
     have hcase:(y.asks.take j).all (fun g=>!zbq a.name g)=false∨((y.asks.take j).all (fun g=>!zbq a.name g)=true∧namB a.name=false)∨((y.asks.take j).all (fun g=>!zbq a.name g)=true∧namB a.name=true∧(decide (0≤a.keeper)&&decide (a.keeper<(p.keepers.length:Int)))=false)∨((y.asks.take j).all (fun g=>!zbq a.name g)=true∧namB a.name=true∧(decide (0≤a.keeper)&&decide (a.keeper<(p.keepers.length:Int)))=true):=by
      cases(y.asks.take j).all (fun g=>!zbq a.name g)<;>cases namB a.name<;>cases(decide (0≤a.keeper)&&decide (a.keeper<(p.keepers.length:Int)))<;>simp
     rcases hcase with g3 | ⟨g3,g4⟩ | ⟨g3,g4,g5⟩ | ⟨g3,g4,g5⟩
     ·obtain⟨v,hv⟩:=zgz g3
      have hlook:=fun W (h:Fr No ((wr.alloc (.cells #[.string a.name,.int .i64 a.keeper] 86)).alloc (.cells #[.int .i64 k,.string a.name] 182)) W)=>(hOA.keep h).look_some (v:=v) wk hz0 (by unfold askP;rw[if_pos rfl];exact hv)
      have HS:Hid (kprB p.keepers.length y=false):=zgw (.inr (.inr (.inr (by rw[hd.out,g3];simp))))
      clear g3 hv hd hstep HN HH
      go_wp2_with fail
      (refine zgc (X:=No) (by kernel_rfl) (by kernel_rfl) ?_)
      clear e0 e1 e2 e3 c0 c1
      (repeat((first|go_big_quiet_skip|(go_big_quiet_want;(apply Exists.intro;refine⟨fun W hW=>?_,?_⟩);(focus (exact fqc));go_big_quiet_on));(try simp only[Act.put,lz0,lz1,lz2])));refine wpQuiet_nil ?_
      intro w1 hf1
      clear q0 q1 q2 q3 hlook
      go_wp2
      go_ret
      exact zgv.no HS.out ((hwy.trans0 hfA).trans0 hf1)
     all_goals
      have hlook:=fun W (h:Fr No ((wr.alloc (.cells #[.string a.name,.int .i64 a.keeper] 86)).alloc (.cells #[.int .i64 k,.string a.name] 182)) W)=>(hOA.keep h).look_none wk hz0 (by unfold askP;rw[if_pos rfl];exact zgt.2 g3)
      have hstep:=Lib.hid (hstep (zgt.2 g3))
      have hd:Hid (zbu p.keepers.length [] y.asks=(namB a.name&&(decide (0≤a.keeper)&&decide (a.keeper<(p.keepers.length:Int)))&&zbu p.keepers.length (y.asks.take (j+1)) (y.asks.drop (j+1)))):=by
       have:=hd.out;rwa [g3,Bool.and_true] at this
      rw[g4] at HN
      try rw[g5] at HH
      replace g4:=Lib.hid g4
      try replace g5:=Lib.hid g5
      clear g3
      go_wp2_with fail
      (refine zgc (X:=No) (by kernel_rfl) (by kernel_rfl) ?_)
      clear e0 e1 e2 e3 c0 c1
      (repeat((first|go_big_quiet_skip|(go_big_quiet_want;(apply Exists.intro;refine⟨fun W hW=>?_,?_⟩);(focus (exact fqc));go_big_quiet_on));(try simp only[Act.put,lz0,lz1,lz2])));refine wpQuiet_nil ?_
      intro w1 hf1
      clear q0 q1 q2 q3 hlook
      obtain⟨c0,c1⟩:=(hCA.keep hf1).c2
      have hl1:=(hCA.keep hf1).lt
      go_wp2_with (first
       | (go_at_call 45;refine(HN _).mono ?_;rintro e w' ⟨rfl,rfl⟩)
       | (go_at_call 116;refine(HH _ (hfA.trans0 hf1)).mono ?_;rintro e w' ⟨rfl,rfl⟩))
     ·have HS:Hid (kprB p.keepers.length y=false):=zgw (.inr (.inr (.inr (by rw[hd.out,g4.out];rfl))))
      go_ret
      exact zgv.no HS.out ((hwy.trans0 hfA).trans0 hf1)
     ·have HS:Hid (kprB p.keepers.length y=false):=zgw (.inr (.inr (.inr (by rw[hd.out,g5.out];simp))))
      go_ret
      exact zgv.no HS.out ((hwy.trans0 hfA).trans0 hf1)
     ·have HS:Hid (zbu p.keepers.length [] y.asks=zbu p.keepers.length (y.asks.take (j+1)) (y.asks.drop (j+1))):=by
       have:=hd.out;rwa [g4.out,g5.out,Bool.true_and,Bool.true_and] at this
      have wa:(Lit.int .i64 a.keeper).wf=true:=by
       have:=g5.out
       rw[lz5,decide_eq_true_eq,decide_eq_true_eq] at this
       exact zb3 this.1 (by omega)
      have hB2:=hBA.keep hf1
      have hK2:=hKA.keep hf1
      have hO2:=hOA.keep hf1
      obtain⟨e0,e1,e2,e3⟩:=hB2.c4
      obtain⟨k0,k1⟩:=hK2.c2
      have hl2:=hB2.lt
      have hkl2:=hK2.lt
      go_still_tail 7,(by kernel_rfl)
      refine zb2 rfl _ _ _ rfl rfl (hO2.keep (Fr.drew (Fr.refl No _))) (by unfold maxLen;omega) rfl rfl wk hz0 wa ?_
      intro w3 hO3 hg3
      have h1:Fr (fun b=>b=ba) wr w3:=Fr.grown (((hfA.trans0 hf1).mono (fun _ _ h=>h.elim)).drew) hg3 (fun q e=>.inr (by cases e;rfl))
      clear e0 e1 e2 e3 k0 k1 c0 c1 hl2 hkl2
      go_frame
      go_wp2
      go_roundw
      case rel=>exact⟨j+1,by omega,by go_num,rfl,HS,hO3.congr (fun q s=>hstep.out q s),hwr.same h1⟩
      case measure=>simp[intOf];omega
    ·have G2:Hid (zbu p.keepers.length [] y.asks=true):=by have:=hd.out;rwa [List.drop_eq_nil_of_le (by omega)] at this
     have hAy:MapF wr ba (na+4) (askP g k y.asks):=by
      have:=hA'
      rw[List.take_of_length_le (by omega)] at this
      exact this.mono (by omega)
     have hOy:=hOz.keepX hwr (by first|omega|(dsimp only;omega))
     have G3:kprB p.keepers.length y=true:=by unfold kprB;rw[G1.out,G2.out,decide_eq_true g1,decide_eq_true g2];rfl
     replace G3:=Lib.hid G3
     clear hask hd hA' G1 G2 hOz
     go_wp2
     go_ret
     exact zgv.yes G3.out hwy ⟨hOy,hAy⟩
section
variable {w:World} {cs:List Value}
theorem MapC.old {m:Mp} (h:MapC No w cs m):MapC (fun b=>w.heap.size≤b) w cs m:=by
 obtain⟨vl,vs,rfl,h1,h2⟩:=h
 exact⟨vl,vs,rfl,h1.old (by decide) (fun _ _ _ h=>h),h2.old (by decide) (fun _ _ _ h=>h)⟩
theorem MthC.old {m:Mth} (h:MthC No w cs m):MthC (fun b=>w.heap.size≤b) w cs m:=by
 obtain⟨va,vc,vm,rfl,h1,h2,h3,h4,h5⟩:=h
 exact⟨va,vc,vm,rfl,h1,h2,h3.old (by decide) (fun _ _ _ h=>h),h4.old (by decide) (fun _ _ _ h=>h),h5.old (by decide) (fun _ _ _ h=>h.old)⟩
theorem ClsC.old {c:Cls} (h:ClsC No w cs c):ClsC (fun b=>w.heap.size≤b) w cs c:=by
 obtain⟨vf,vm,rfl,h1,h2,h3,h4⟩:=h
 exact⟨vf,vm,rfl,h1,h2,h3.old (by decide) (fun _ _ _ h=>h),h4.old (by decide) (fun _ _ _ h=>h.old)⟩
theorem KprC.old {k:Kpr} (h:KprC No w cs k):KprC (fun b=>w.heap.size≤b) w cs k:=by
 obtain⟨vo,va,rfl,h1,h2⟩:=h
 exact⟨vo,va,rfl,h1.old (by decide) (fun _ _ _ h=>h.old),h2.old (by decide) (fun _ _ _ h=>h)⟩
end
theorem zgB {w w':World} {v:Value} {xs:List Kpr} {X:Nat->Prop} (h:Sl No w 2 (KprC No w) v xs) (hf:Fr No w w') (hX:∀b,X b->w.heap.size≤b):Sl X w' 2 (KprC X w') v xs:=
 ((h.old (R':=KprC (fun b=>w.heap.size≤b) w) (by decide) (fun _ _ _ h=>h.old)).weaken hX (fun _ _ _ h=>h.weaken hX)).keep hf zN (fun _ _ _ h=>h.keep hf zN)
def ownQ (p:Plan) (k:Nat):Int->Str->Option Int:=fun q s=>if 0≤q∧q<k then zbx (zbp s) (zbC p q).owns else none
def askQ (p:Plan) (k:Nat):Int->Str->Option Int:=fun q s=>if 0≤q∧q<k then zbE (zbC p q).asks s else none
theorem zgC {p:Plan} {k:Nat} (hk:k<p.keepers.length):zbC p (k:Int)=p.keepers[k]:=by
 unfold zbC
 simp[List.getD,lz8 hk]
theorem zgD {p:Plan} {k:Nat} (hk:k<p.keepers.length) (q:Int) (s:Str):ownP (ownQ p k) k p.keepers[k].owns q s=ownQ p (k+1) q s:=by
 unfold ownP ownQ
 by_cases hq:q=k
 ·subst hq
  rw[if_pos rfl,if_pos (by omega),zgC hk]
 ·rw[if_neg hq]
  by_cases h:0≤q∧q<k
  ·rw[if_pos h,if_pos (by omega)]
  ·rw[if_neg h,if_neg (by omega)]
theorem zgE {p:Plan} {k:Nat} (hk:k<p.keepers.length) (q:Int) (s:Str):askP (askQ p k) k p.keepers[k].asks q s=askQ p (k+1) q s:=by
 unfold askP askQ
 by_cases hq:q=k
 ·subst hq
  rw[if_pos rfl,if_pos (by omega),zgC hk]
 ·rw[if_neg hq]
  by_cases h:0≤q∧q<k
  ·rw[if_pos h,if_pos (by omega)]
  ·rw[if_neg h,if_neg (by omega)]
def ownF (p:Plan):Int->Str->Option Int:=ownQ p p.keepers.length
def askF (p:Plan):Int->Str->Option Int:=askQ p p.keepers.length
def zgF (w:World) (l bl n:Nat) (p:Plan) (g:Int->Str->Option Int):Prop:=
 lodB p=true∧∃A cap bo ba,Bx w l 146 #[.slice A p.keepers.length cap,.map (some bo),.map (some ba),.map (some bl)]∧l≠bl∧bo≠bl∧ba≠bl ∧
  Sl (fun b=>b=bl) w 2 (KprC (fun b=>b=bl) w) (.slice A p.keepers.length cap) p.keepers∧MapF w bo 15 (ownF p)∧MapF w ba 12 (askF p)∧MapF w bl n g
theorem zgF.keep {w w':World} {l bl n:Nat} {p:Plan} {g:Int->Str->Option Int} (h:zgF w l bl n p g) (hf:Fr No w w'):zgF w' l bl n p g:=by
 obtain⟨h0,A,cap,bo,ba,h1,h2,h3,h4,h5,h6,h7,h8⟩:=h
 exact⟨h0,A,cap,bo,ba,h1.keep hf,h2,h3,h4,h5.keep hf zN (fun _ _ _ h=>h.keep hf zN),h6.keep hf,h7.keep hf,h8.keep hf⟩
def zgG (p:Plan) (w:World) (e:Ending) (w':World):Prop:=
 Fr No w w'∧((lodB p=false∧e=.returned (.pointer none))∨(lodB p=true∧∃l bl,e=.returned (.pointer (some ⟨l,0,none⟩))∧w.heap.size≤l∧w.heap.size≤bl∧zgF w' l bl 0 p (fun _ _=>none)))
theorem zgG.no {p:Plan} {w w':World} (h:lodB p=false) (hf:Fr No w w'):zgG p w (.returned (.pointer none)) w':=⟨hf,.inl ⟨h,rfl⟩⟩
theorem zgG.yes {p:Plan} {w w':World} {l bl:Nat} (h:lodB p=true) (hf:Fr No w w') (h1:w.heap.size≤l) (h2:w.heap.size≤bl) (h3:zgF w' l bl 0 p (fun _ _=>none)):zgG p w (.returned (.pointer (some ⟨l,0,none⟩))) w':=
 ⟨hf,.inr ⟨h,l,bl,rfl,h1,h2,h3⟩⟩
theorem MapF.new_ {w:World} {b:Nat} (hb:b=w.heap.size):MapF (w.alloc (.map #[] 0)) b 0 (fun _ _=>none):=by subst hb;exact MapF.made w
theorem zgH (p:Plan) (v:Value) (w:World) (hP:Sl No w 2 (KprC No w) v p.keepers):
  Calls Tryz.prog 48 #[.agg #[v]] w (zgG p w):=by
 obtain⟨A,cap,rfl,hcap,hlen⟩:=hP.form
 have hlen':=hlen
 unfold maxLen at hlen'
 have hmm:=@run_makeMap Tryz.prog
 by_cases hr:1≤p.keepers.length∧p.keepers.length≤3
 ·obtain⟨h1,h3⟩:=hr
  have hb:Hid (lodB p=p.keepers.all (kprB p.keepers.length)):=by unfold Hid lodB;rw[decide_eq_true h1,decide_eq_true h3];rfl
  go_enter Tryz.func48,Tryz.ntmps48
  go_wp2
  clear hmm
  have hL4:Bx (((((w.alloc (.cells #[.slice A p.keepers.length cap] 35)).alloc (.map #[] 0)).alloc (.map #[] 0)).alloc (.map #[] 0)).alloc (.cells #[.slice A p.keepers.length cap,.map (some (w.heap.size+1)),.map (some (w.heap.size+1+1)),.map (some (w.heap.size+1+1+1))] 146)) (w.heap.size+1+1+1+1) 146 #[.slice A p.keepers.length cap,.map (some (w.heap.size+1)),.map (some (w.heap.size+1+1)),.map (some (w.heap.size+1+1+1))]:=Bx.new_ (by simp)
  have hw4:Fr No w (((((w.alloc (.cells #[.slice A p.keepers.length cap] 35)).alloc (.map #[] 0)).alloc (.map #[] 0)).alloc (.map #[] 0)).alloc (.cells #[.slice A p.keepers.length cap,.map (some (w.heap.size+1)),.map (some (w.heap.size+1+1)),.map (some (w.heap.size+1+1+1))] 146)):=(((((Fr.refl No w).alloc _).alloc _).alloc _).alloc _).alloc _
  have hO4:MapF (((((w.alloc (.cells #[.slice A p.keepers.length cap] 35)).alloc (.map #[] 0)).alloc (.map #[] 0)).alloc (.map #[] 0)).alloc (.cells #[.slice A p.keepers.length cap,.map (some (w.heap.size+1)),.map (some (w.heap.size+1+1)),.map (some (w.heap.size+1+1+1))] 146)) (w.heap.size+1) 0 (fun _ _=>none):=(MapF.new_ (by simp)).keep ((((Fr.refl No _).alloc _).alloc _).alloc _)
  have hA4:MapF (((((w.alloc (.cells #[.slice A p.keepers.length cap] 35)).alloc (.map #[] 0)).alloc (.map #[] 0)).alloc (.map #[] 0)).alloc (.cells #[.slice A p.keepers.length cap,.map (some (w.heap.size+1)),.map (some (w.heap.size+1+1)),.map (some (w.heap.size+1+1+1))] 146)) (w.heap.size+1+1) 0 (fun _ _=>none):=(MapF.new_ (by simp)).keep (((Fr.refl No _).alloc _).alloc _)
  have hM4:MapF (((((w.alloc (.cells #[.slice A p.keepers.length cap] 35)).alloc (.map #[] 0)).alloc (.map #[] 0)).alloc (.map #[] 0)).alloc (.cells #[.slice A p.keepers.length cap,.map (some (w.heap.size+1)),.map (some (w.heap.size+1+1)),.map (some (w.heap.size+1+1+1))] 146)) (w.heap.size+1+1+1) 0 (fun _ _=>none):=(MapF.new_ (by simp)).keep ((Fr.refl No _).alloc _)
  go_loopw [25,2] (fun i r wr=>∃k:Nat,k≤p.keepers.length∧i=.int .i64 k∧r=.pointer none∧Hid (p.keepers.all (kprB p.keepers.length)=(p.keepers.drop k).all (kprB p.keepers.length)) ∧
   Bx wr (w.heap.size+1+1+1+1) 146 #[.slice A p.keepers.length cap,.map (some (w.heap.size+1)),.map (some (w.heap.size+1+1)),.map (some (w.heap.size+1+1+1))]∧MapF wr (w.heap.size+1) (5 * k) (ownQ p k)∧MapF wr (w.heap.size+1+1) (4 * k) (askQ p k)∧MapF wr (w.heap.size+1+1+1) 0 (fun _ _=>none)∧Fr No w wr) (fun i _ _=>p.keepers.length-(intOf i).toNat)
  case atStart=>exact⟨0,Nat.zero_le _,rfl,rfl,rfl,hL4,hO4.congr (fun q s=>by unfold ownQ;rw[if_neg (by omega)]),hA4.congr (fun q s=>by unfold askQ;rw[if_neg (by omega)]),hM4,hw4⟩
  case round=>
   clear hL4 hO4 hA4 hM4 hw4
   obtain⟨k,hk,rfl,rfl,hd,hBx,hO,hA,hM,hw⟩:=hrel
   obtain⟨e0,e1,e2,e3⟩:=hBx.c4
   have hl:=hBx.lt
   by_cases hlt:k<p.keepers.length
   ·have HE:=zgA p k hlt h3 A cap _ _ _ _ (5 * k) (4 * k) (ownQ p k) (askQ p k) wr hBx (by omega) (by omega) (by omega) (zgB hP hw (fun b h=>by first|omega|(dsimp only at h;omega))) hO hA (by omega) (by omega) (fun s=>by unfold ownQ;rw[if_neg (by omega)]) (fun s=>by unfold askQ;rw[if_neg (by omega)])
    rw[List.drop_eq_getElem_cons hlt,List.all_cons] at hd
    have hso:=fun q s=>zgD hlt q s
    have hsa:=fun q s=>zgE hlt q s
    clear hP hO hA
    replace hso:=Lib.hid hso
    replace hsa:=Lib.hid hsa
    replace hd:=Lib.hid hd
    generalize hy:p.keepers[k]=y at *
    clear hy
    cases hkb:kprB p.keepers.length y
    ·have HS:Hid (lodB p=false):=hb.out.trans (hd.out.out.trans (by rw[hkb];rfl))
     replace hkb:=Lib.hid hkb
     go_wp2_with (go_at_call 82;refine HE.mono ?_;rintro e w2 ⟨he,hf2,_⟩;rw[hkb.out] at he;subst he)
     go_ret
     exact .no HS.out (hw.trans hf2 (fun b hb h=>by rcases h with h|h<;>omega))
    ·have HS:Hid (p.keepers.all (kprB p.keepers.length)=(p.keepers.drop (k+1)).all (kprB p.keepers.length)):=hd.out.out.trans (by rw[hkb];rfl)
     replace hkb:=Lib.hid hkb
     go_wp2_with (go_at_call 82;refine HE.mono ?_;rintro e w2 ⟨he,hf2,hm2⟩;rw[hkb.out] at he;subst he)
     obtain⟨hO2,hA2⟩:=hm2 hkb.out
     have hM2:=hM.keepX hf2 (by intro h;rcases h with h|h<;>omega)
     have hB2:=hBx.keepX hf2 (by intro h;rcases h with h|h<;>omega)
     go_roundw
     case rel=>exact⟨k+1,by omega,by go_num,rfl,HS,hB2,hO2.congr (fun q s=>hso.out q s),hA2.congr (fun q s=>hsa.out q s),hM2,hw.trans hf2 (fun b hb h=>by rcases h with h|h<;>omega)⟩
     case measure=>simp[intOf];omega
   ·have hkl:k=p.keepers.length:=by omega
    have HS:Hid (lodB p=true):=hb.out.trans (hd.out.trans (by rw[List.drop_eq_nil_of_le (by omega)];rfl))
    have hLg:zgF wr (w.heap.size+1+1+1+1) (w.heap.size+1+1+1) 0 p (fun _ _=>none):=
     ⟨HS.out,A,cap,_,_,hBx,by omega,by omega,by omega,zgB hP hw (fun b h=>by first|omega|(dsimp only at h;omega)),(by rw[hkl] at hO;exact hO.mono (by omega)),(by rw[hkl] at hA;exact hA.mono (by omega)),hM⟩
    replace hLg:=Lib.hid hLg
    clear hP hd hO hA hM hkl
    go_wp2
    go_ret
    exact .yes HS.out hw (by omega) (by omega) hLg.out
 ·have hb:Hid (lodB p=false):=by
   unfold Hid lodB
   rw[Bool.and_eq_false_iff,Bool.and_eq_false_iff,decide_eq_false_iff_not,decide_eq_false_iff_not];omega
  have hr':p.keepers.length<1∨(1≤p.keepers.length∧3<p.keepers.length):=by omega
  clear hr hmm
  rcases hr' with g | ⟨g,g'⟩
  all_goals
   go_enter Tryz.func48,Tryz.ntmps48
   go_wp2
   go_ret
   exact .no hb.out (by exact frc)
end Go.Proofs.YtpghfhjhjlmljaaGreat
