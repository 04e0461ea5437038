/- The program's own road from keeper to keeper: a class that is there; who is asked; whose a class is. -/
import Derived.Test.YtmeaibjmnjcdfaaGreatVG7
import Derived.OwnWalk
set_option maxHeartbeats 8000000
set_option maxRecDepth 100000
namespace Go.Proofs.YtmeaibjmnjcdfaaGreat
open Go.RowKit
theorem za9 {p:Plan} {k:Nat} (hk:k<p.keepers.length) (s:Str):ownF p (k:Int) s=zbx (zbp s) (zbC p k).owns:=by
 unfold ownF ownQ;rw[if_pos (by omega)]
theorem zba {p:Plan} {k:Nat} (hk:k<p.keepers.length) (s:Str):askF p (k:Int) s=zbE (zbC p k).asks s:=by
 unfold askF askQ;rw[if_pos (by omega)]
theorem zbb:(Tryz.prog.info? 3).map (fun i=>(i.zero,i.size,i.bytes))=some (some (.int .i64 0),1,8):=by kernel_rfl
theorem Gives.mk0 {v:Value} {w w':World} (hf:Fr No w w'):Gives v w (.returned v) w':=⟨rfl,hf⟩
def zbc (X:Nat->Prop) (c:Cls) (w:World) (e:Ending) (w':World):Prop:=
 ∃Af cf Am cm,e=.returned (.agg #[.string c.name,.string c.super,.slice Af c.fields.length cf,.slice Am c.methods.length cm])∧ClsC X w' [.string c.name,.string c.super,.slice Af c.fields.length cf,.slice Am c.methods.length cm] c∧Fr No w w'
theorem zbd (l bl n:Nat) (p:Plan) (g:Int->Str->Option Int) (k:Nat) (s:Str) (i:Nat) (w:World) (h:zgF w l bl n p g) (hk:k<p.keepers.length) (hs:s.size≤maxLen)
  (y:Kpr) (hy:zbC p k=y) (hi:i<y.owns.length) (hix:zbx (zbp s) y.owns=some (i:Int)):
  ∃Af cf Am cm,ClsC (fun b=>b=bl) w [.string y.owns[i].name,.string y.owns[i].super,.slice Af y.owns[i].fields.length cf,.slice Am y.owns[i].methods.length cm] y.owns[i] ∧
   ∀W,Fr No w W->Calls Tryz.prog 100 #[.pointer (some ⟨l,0,none⟩),.agg #[.int .i64 k,.string s]] W (Gives (.agg #[.string y.owns[i].name,.string y.owns[i].super,.slice Af y.owns[i].fields.length cf,.slice Am y.owns[i].methods.length cm]) W):=by
 obtain⟨hp,A,cap,bo,ba,hB,_,_,_,hP,hO,_,_⟩:=h
 have h3:=zbM hp
 have hkl:=hk
 have hix:ownF p (k:Int) s=some (i:Int):=by rw[za9 hk,hy];exact hix
 have wk:(Lit.int .i64 (k:Int)).wf=true:=zb3 (by omega) (by omega)
 have hlook:=fun W (h:Fr No w W)=>(hO.keep h).look wk hs
 rw[hix] at hlook
 simp only[Option.getD_some] at hlook
 rw[zbN hk] at hy
 obtain⟨b,off,Ao,co,Aa,ca,rfl,hX,c0,c1,hown,_,hoc,hom,_,_⟩:=hP.kpr hk
 rw[hy] at c0 c1 hown hoc hom
 clear hy
 obtain⟨b2,off2,Af,cf,Am,cm,rfl,hX2,d0,d1,d2,d3,hz0,hz1,hcf,hcm,_,_,_,_⟩:=hown.cls hi
 have hR:ClsC (fun b=>b=bl) w [.string y.owns[i].name,.string y.owns[i].super,.slice Af y.owns[i].fields.length cf,.slice Am y.owns[i].methods.length cm] y.owns[i]:=⟨_,_,rfl,hz0,hz1,hcf,hcm⟩
 clear hP hown hcf hcm hO hix hp
 unfold maxLen at hom
 generalize y.owns[i]=c at *
 refine⟨Af,cf,Am,cm,hR,fun W hW=>?_⟩
 replace hB:=hB.keep hW
 replace c0:=hW.keep0 c0
 replace c1:=hW.keep0 c1
 replace d0:=hW.keep0 d0
 replace d1:=hW.keep0 d1
 replace d2:=hW.keep0 d2
 replace d3:=hW.keep0 d3
 replace hlook:=fun W' (h:Fr No W W')=>hlook W' (hW.trans0 h)
 clear hR hW
 clear hX hX2 hz0 hz1
 generalize hwW:W=w at *
 clear hwW
 obtain⟨e0,e1,e2,e3⟩:=hB.c4
 have hl:=hB.lt
 have hbl:=lt_of_cell c0
 have hbl2:=lt_of_cell d0
 have hkk:(k:Int).toNat=k:=by omega
 have hii:(i:Int).toNat=i:=by omega
 have hfA:Fr No w ((w.alloc (.cells #[.int .i64 k,.string s] 108)).alloc (.cells #[.string ⟨#[]⟩,.string ⟨#[]⟩,.slice none 0 0,.slice none 0 0] 55)):=((Fr.refl No w).alloc _).alloc _
 have hBA:=hB.keep hfA
 obtain⟨hKA,hRA, -⟩:=Bx.two w 108 #[.int .i64 k,.string s] 55 #[.string ⟨#[]⟩,.string ⟨#[]⟩,.slice none 0 0,.slice none 0 0]
 have hlk:=hlook (World.drew ((w.alloc (.cells #[.int .i64 k,.string s] 108)).alloc (.cells #[.string ⟨#[]⟩,.string ⟨#[]⟩,.slice none 0 0,.slice none 0 0] 55))) hfA.drew
 replace c0:=hfA.keep0 c0
 replace c1:=hfA.keep0 c1
 replace d0:=hfA.keep0 d0
 replace d1:=hfA.keep0 d1
 replace d2:=hfA.keep0 d2
 replace d3:=hfA.keep0 d3
 clear hlook hB e0 e1 e2 e3
 go_enter Tryz.func100,Tryz.ntmps100
 go_wp2
 generalize((w.alloc (.cells #[.int .i64 k,.string s] 108)).alloc (.cells #[.string ⟨#[]⟩,.string ⟨#[]⟩,.slice none 0 0,.slice none 0 0] 55))=wA at *
 have hdr:Fr No wA wA.drew:=(Fr.refl No wA).drew
 replace hBA:=hBA.keep hdr
 replace hKA:=hKA.keep hdr
 replace hRA:=hRA.keep hdr
 replace c0:=hdr.keep0 c0
 replace c1:=hdr.keep0 c1
 replace d0:=hdr.keep0 d0
 replace d1:=hdr.keep0 d1
 replace d2:=hdr.keep0 d2
 replace d3:=hdr.keep0 d3
 replace hfA:=hfA.trans0 hdr
 clear hdr
 (refine wp_region_still_tail 17 (by kernel_rfl) (by kernel_rfl) ?_);(change wpStill _ _ (World.drew _) (fun a'=>wpList _ _ _ _ a' (World.drew _)) _ _)
 generalize wA.drew=wD at *
 obtain⟨e0,e1,e2,e3⟩:=hBA.c4
 obtain⟨k0,k1⟩:=hKA.c2
 obtain⟨r0,r1,r2,r3⟩:=hRA.c4
 have fr:=fun j=>hRA.frozen j
 have hl1:=hBA.lt
 have hl2:=hKA.lt
 have hl3:=hRA.lt
 have hb1:=lt_of_cell c0
 have hb2:=lt_of_cell d0
 (simp only[lz7,List.take_zero,lz6,List.drop_zero]);(repeat still_step);(try refine wpStill_nil ?_)
 go_wp2
 refine bodyPost_ret (v:=.agg #[.string c.name,.string c.super,.slice Af c.fields.length cf,.slice Am c.methods.length cm]) (by simp[results,Tryz.results100,go_sem, *]) rfl ?_
 exact .mk0 (by exact frc)
theorem zbe (l bl n:Nat) (p:Plan) (g:Int->Str->Option Int) (k:Nat) (s:Str) (i:Nat) (w:World) (h:zgF w l bl n p g) (hk:k<p.keepers.length) (hs:s.size≤maxLen)
  (y:Kpr) (hy:zbC p k=y) (hi:i<y.owns.length) (hix:zbx (zbp s) y.owns=some (i:Int)):
  Calls Tryz.prog 100 #[.pointer (some ⟨l,0,none⟩),.agg #[.int .i64 k,.string s]] w (zbc (fun b=>b=bl) y.owns[i] w):=by
 obtain⟨Af,cf,Am,cm,hR,hC⟩:=zbd l bl n p g k s i w h hk hs y hy hi hix
 exact(hC w (Fr.refl _ w)).mono fun e w' ⟨he,hf⟩=>⟨Af,cf,Am,cm,he,hR.keep hf zN,hf⟩
def IntC (cs:List Value) (n:Int):Prop:=cs=[.int .i64 n]
def zbf (p:Plan) (k:Int) (s:Str):Ref×Int:=if hasK p k then whose p k s else (zbH,2)
def zbg (p:Plan) (k:Int) (s:Str) (w:World) (e:Ending) (w':World):Prop:=
 ∃v,e=.returned (.tuple #[v,.int .i64 (zbf p k s).2])∧Fr No w w'∧((zbf p k s).2=1->∃xs,(zbf p k s).1.name=s∧Sl No w' 1 IntC v (xs ++ [(zbf p k s).1.keeper]))
theorem zbg.no {p:Plan} {k c:Int} {s:Str} {w w':World} {v:Value} (h:(zbf p k s).2=c) (hc:c≠1) (hf:Fr No w w'):zbg p k s w (.returned (.tuple #[v,.int .i64 c])) w':=
 ⟨v,by rw[h],hf,fun h'=>absurd (h.symm.trans h') hc⟩
theorem zbg.yes {p:Plan} {k kc:Int} {s:Str} {w w':World} {v:Value} {xs:List Int} (h:zbf p k s=(⟨kc,s⟩,1)) (hf:Fr No w w') (hv:Sl No w' 1 IntC v (xs ++ [kc])):zbg p k s w (.returned (.tuple #[v,.int .i64 1])) w':=
 ⟨v,by rw[h],hf,fun _=>⟨xs,by rw[h],by rw[h];exact hv⟩⟩
def sliceLen:Value->Nat
 | .slice _ n _=>n
 | _=>0
theorem zbh {w:World} {base n:Nat} {v:Value} {xs:List Int} (h:w.ownsRow base 3 1 v (n+1) (xs.map (Value.int .i64))):
  ∃g cap cur,v=.slice (some ⟨g,0,none⟩) (n+1) cap∧base≤g∧Bx w g 3 cur∧n+1≤cap∧cap≤maxLen∧xs.length=n+1∧∀i (hi:i<xs.length),w.cell? ⟨g,i,none⟩=some (.int .i64 xs[i]):=by
 obtain⟨hl,h | ⟨g,cap,cur,rfl,hg,hb,hn,hm,hs,ht⟩⟩:=h
 ·exact absurd h.2 (by omega)
 ·have hxl:xs.length=n+1:=by simpa using hl
  refine⟨g,cap,cur,rfl,hg,hb,hn,hm,hxl,fun i hi=>?_⟩
  have hbx:Bx w g 3 cur:=hb
  rw[hbx.cell]
  have h1:(cur.toList.take ((n+1) * 1))[i]? =(xs.map (Value.int .i64))[i]?:=by rw[ht]
  rw[List.getElem?_take,if_pos (by omega),List.getElem?_map,lz8 hi] at h1
  simpa using h1
theorem zbi {w:World} {base n:Nat} {v:Value} {xs:List Int} (h:w.ownsRow base 3 1 v (n+1) (xs.map (Value.int .i64))):Sl No w 1 IntC v xs:=by
 obtain⟨g,cap,cur,rfl,hg,hb,hn,hm,hl,hc⟩:=zbh h
 refine⟨_,cap,by rw[hl],by omega,by omega,fun _=>⟨g,0,rfl,fun h=>h,fun k hk=>⟨[.int .i64 xs[k]],rfl,rfl,fun j hj=>?_⟩⟩⟩
 obtain rfl:j=0:=by omega
 simpa using hc k hk
theorem zbj (l bl n:Nat) (p:Plan) (g:Int->Str->Option Int) (k:Int) (s:Str) (w:World) (h:zgF w l bl n p g) (hs:s.size≤maxLen):
  Calls Tryz.prog 149 #[.pointer (some ⟨l,0,none⟩),.int .i64 k,.string s] w (zbg p k s w):=by
 obtain⟨hp,A,cap,bo,ba,hB,_,_,_,_,hO,hA,_⟩:=h
 have h3:=zbM hp
 have HH:=fun W (h:Fr No w W)=>zgq l p.keepers.length cap A _ _ _ k W (hB.keep h) (by unfold maxLen;omega)
 obtain⟨i0,hi,hz0,hz1,hz2⟩:=info_parts zbb
 cases hhk:hasK p k
 ·have HW:Hid ((zbf p k s).2=2):=by unfold Hid zbf;rw[hhk];rfl
  unfold hasK at hhk
  rw[hhk] at HH
  clear hhk hi
  go_enter Tryz.func149,Tryz.ntmps149
  go_wp2_with (go_at_call 23;refine(HH _ (by exact frc)).mono ?_;rintro e w' ⟨rfl,rfl⟩)
  go_ret2
  exact .no HW.out (by decide) (by exact frc)
 ·have HK:Hid (zbf p k s=whose p k s):=by unfold Hid zbf;rw[hhk];rfl
  unfold hasK at hhk
  rw[hhk] at HH
  rw[lz5,decide_eq_true_eq,decide_eq_true_eq] at hhk
  obtain⟨hk0,hk1⟩:=hhk
  obtain⟨k,rfl⟩:=Int.eq_ofNat_of_zero_le hk0
  have hk1:k<p.keepers.length:=by omega
  have HS:Hid (zbP p s k [] k):=zbP.start (by omega) (by omega)
  have hrow0:(w.alloc (.cells #[.int .i64 k] 3)).ownsRow w.heap.size 3 1 (.slice (some ⟨w.heap.size,0,none⟩) 1 1) 1 (([] ++ [(k:Int)]).map (Value.int .i64)):=
   ⟨rfl,.inr ⟨w.heap.size,1,#[.int .i64 k],rfl,Nat.le_refl _,by exact Bx.new w _ _,Nat.le_refl _,by unfold maxLen;omega,rfl,rfl⟩⟩
  replace hrow0:=Lib.hid hrow0
  go_enter Tryz.func149,Tryz.ntmps149
  go_wp2_with (go_at_call 23;refine(HH _ (by exact frc)).mono ?_;rintro e w' ⟨rfl,rfl⟩)
  clear HH
  go_loopw [1,8,6,7] (fun uk uv u6 u7 wr=>∃(ys:List Int) (kc:Nat),uk=.int .i64 kc∧u6=.slice none 0 0∧u7=.int .i64 0∧Hid (zbP p s k ys kc)∧kc<p.keepers.length∧ys.length≤2 ∧
   Hid (wr.ownsRow w.heap.size 3 1 uv (ys.length+1) ((ys ++ [(kc:Int)]).map (Value.int .i64)))∧Fr No w wr) (fun _ uv _ _ _=>4-sliceLen uv)
  case atStart=>exact⟨[],k,rfl,rfl,rfl,HS,hk1,by simp,hrow0,(Fr.refl No w).alloc _⟩
  case round=>
   clear hrow0 HS
   obtain⟨ys,kc,rfl,rfl,rfl,hW,hkc,hyl,hrow,hf⟩:=hrel
   obtain⟨gb,cp,cur,rfl,hgb,hcur,hncp,hcpm,hxl,hxc⟩:=zbh hrow.out
   have hgl:=hcur.lt
   have hBr:=hB.keep hf
   obtain⟨e0,e1,e2,e3⟩:=hBr.c4
   have hl:=hBr.lt
   have wkc:(Lit.int .i64 (kc:Int)).wf=true:=zb3 (by omega) (by omega)
   have hAa:askF p (kc:Int) s=zbE (zbC p kc).asks s:=zba hkc s
   have hOo:ownF p (kc:Int) s=zbx (zbp s) (zbC p kc).owns:=za9 hkc s
   have hAr:=hA.keep hf
   have hOr:=hO.keep hf
   unfold maxLen at hcpm
   cases hnx:zbE (zbC p kc).asks s with
   | none=>
    have hWd:=hW.out.done hp hnx
    have hlka:=hAr.look_none wkc hs (hAa.trans hnx)
    cases hix:zbx (zbp s) (zbC p kc).owns with
    | none=>
     have hneg:zbD p kc s<0:=by
      unfold zbx at hix
      unfold zbD
      by_cases h:ixOf (zbp s) (zbC p kc).owns<0
      ·exact h
      ·rw[if_neg h] at hix;cases hix
     have HE:Hid ((zbf p k s).2=2):=by show(zbf p k s).2=2;rw[HK.out,hWd,if_pos hneg]
     have hlko:=hOr.look_none wkc hs (hOo.trans hix)
     clear hWd hneg hix hnx hOr hAr hAa hOo hxc hxl hW
     go_wp2
     go_ret2
     exact .no HE.out (by decide) (by exact frc)
    | some i=>
     have hneg:¬zbD p kc s<0:=by
      unfold zbx at hix
      unfold zbD
      by_cases h:ixOf (zbp s) (zbC p kc).owns<0
      ·rw[if_pos h] at hix;cases hix
      ·exact h
     have HE:Hid (zbf p k s=(⟨kc,s⟩,1)):=by show zbf p k s=_;rw[HK.out,hWd,if_neg hneg]
     have hlko:=hOr.look_some wkc hs (hOo.trans hix)
     clear hWd hneg hix hnx hOr hAr hAa hOo hxc hxl hW
     go_wp2
     go_ret2
     exact .yes HE.out (by exact frc) (zbi hrow.out)
   | some nx=>
    have hlka:=hAr.look_some wkc hs (hAa.trans hnx)
    have hkr:=hW.out.range kc (by simp)
    have hnr:=zbO hp hkr.1 hkr.2 hnx
    obtain⟨nx,rfl⟩:=Int.eq_ofNat_of_zero_le hnr.1
    have hnr:nx<p.keepers.length:=by omega
    replace hnx:=Lib.hid hnx
    replace hxl:=Lib.hid hxl
    replace hxc:=Lib.hid hxc
    clear hOr hAr hAa hOo hkr
    go_wp2
    go_loop [36,6,7] (fun i u6 u7=>∃j:Nat,j≤ys.length+1∧i=.int .i64 j∧u6=.slice none 0 0∧u7=.int .i64 0∧Hid ((nx:Int)∉(ys ++ [(kc:Int)]).take j)) (fun i _ _=>ys.length+1-(intOf i).toNat)
    case atStart=>exact⟨0,Nat.zero_le _,rfl,rfl,rfl,by simp[Hid]⟩
    case round=>
     obtain⟨j,hj,rfl,rfl,rfl,hno⟩:=hrel
     by_cases hlt:j<ys.length+1
     ·have hjl:j<(ys ++ [(kc:Int)]).length:=by rw[hxl.out];exact hlt
      have hcj:=hxc.out j hjl
      have hmem:(ys ++ [(kc:Int)])[j]∈ys ++ [(kc:Int)]:=List.getElem_mem hjl
      have htk:=List.take_succ_eq_append_getElem hjl
      replace hmem:=Lib.hid hmem
      replace htk:=Lib.hid htk
      clear hxl hxc
      generalize hx:(ys ++ [(kc:Int)])[j]=x at *
      clear hx
      cases hq:(x == (nx:Int))
      ·have HN:Hid ((nx:Int)∉(ys ++ [(kc:Int)]).take (j+1)):=by
        show _∉_
        rw[htk.out]
        intro hm
        rcases List.mem_append.1 hm with hm|hm
        ·exact hno.out hm
        ·rw[List.mem_singleton] at hm;subst hm;simp at hq
       go_wp2
       go_round
       case rel=>exact⟨j+1,by omega,by go_num,rfl,rfl,HN⟩
       case measure=>simp[intOf];omega
      ·have HE:Hid ((zbf p k s).2=3):=by
        show(zbf p k s).2=3
        have:x=(nx:Int):=by simpa using hq
        subst this
        rw[HK.out,hW.out.ring hp hnx.out hmem.out]
       clear hmem htk
       go_wp2
       go_ret2
       exact .no HE.out (by decide) (by exact frc)
     ·have HN:(nx:Int)∉ys ++ [(kc:Int)]:=by have:=hno.out;rwa [List.take_of_length_le (by rw[hxl.out];omega)] at this
      have HS:=Lib.hid (hW.out.step hp hnx.out HN)
      have hyl2:(ys ++ [(kc:Int)]).length≤2:=by have:=HS.out.len hp;exact this
      replace hyl2:=Lib.hid hyl2
      clear hno HN hxc hcur
      go_wp2_with (at_builtin;refine wpList_append_own _ rfl _ _ 26 rfl w.heap.size 3 i0 (.int .i64 0) 1 8 Tryz.underlying26 hi hz0 hz1 hz2 rfl (by decide) _ _ _ rfl (hrow.out.alloc _) ⟨wr.heap.size,0,none⟩ 1 1 [.int .i64 nx] rfl rfl (cell_one_new _ _ _) (by simp[Value.oneCell']) (by unfold maxLen;omega) (by omega) (by have:=hf.size;simp;omega) ?_;intro v' w1 hown' hgrow hnil)
      have hrow1:Hid (w1.ownsRow w.heap.size 3 1 v' ((ys ++ [(kc:Int)]).length+1) (((ys ++ [(kc:Int)]) ++ [(nx:Int)]).map (Value.int .i64))):=by
       show World.ownsRow _ _ _ _ _ _ _
       rw[List.map_append,List.length_append]
       exact hown'
      have hf1:Fr No w w1:=(hf.alloc _).grown hgrow (fun q e=>.inl (by cases e;exact hgb))
      obtain⟨g',cap',cur',rfl,_,_,_,_,_,_⟩:=zbh hrow1.out
      clear hown' hgrow hnil hrow e0 e1 e2 e3
      go_roundw
      case rel=>exact⟨ys ++ [(kc:Int)],nx,rfl,rfl,rfl,HS,hnr,hyl2.out,hrow1,hf1⟩
      case measure=>simp[sliceLen];omega
theorem zbk {p:Plan} {s:Str}:∀(n:Nat) (k:Int),(zbI p s n k).2≠1->(zbI p s n k).1=zbH
 | 0,_,_=>rfl
 | n+1,k,h=>by
  rw[zbI] at h ⊢
  by_cases h1:zbF p k s<0
  ·rw[if_pos h1] at h ⊢
   by_cases h2:zbD p k s<0
   ·rw[if_pos h2]
   ·rw[if_neg h2] at h;exact absurd rfl h
  ·rw[if_neg h1] at h ⊢
   exact zbk n _ h
theorem zbm {p:Plan} {s:Str} {k:Int} (h:(zbf p k s).2≠1):(zbf p k s).1=zbH:=by
 unfold zbf at h ⊢
 cases hk:hasK p k
 ·rfl
 ·rw[hk] at h
  exact zbk 4 k h
def refV (q:Ref×Int):Value:=.tuple #[.agg #[.int .i64 q.1.keeper,.string q.1.name],.int .i64 q.2]
theorem Sl.last {w:World} {A:Option Addr} {n cap:Nat} {xs:List Int} {x:Int} (h:Sl No w 1 IntC (.slice A n cap) (xs ++ [x])):n=xs.length+1∧n≤cap∧n≤maxLen∧∃b off,A=some ⟨b,off,none⟩∧w.cell? ⟨b,off+xs.length,none⟩=some (.int .i64 x):=by
 obtain⟨h1,h2,h3,h4⟩:=h.at_
 obtain⟨b,off,rfl,_,cs,hR,hl,hc⟩:=h4 xs.length (by simp)
 have hR:cs=[.int .i64 x]:=by simpa[IntC] using hR
 subst hR
 refine⟨by simpa using h1,h2,h3,b,off,rfl,?_⟩
 have:=hc 0 (by omega)
 simpa using this
theorem zbn (l bl n:Nat) (p:Plan) (g:Int->Str->Option Int) (k:Int) (s:Str) (w:World) (h:zgF w l bl n p g) (hs:s.size≤maxLen):
  Calls Tryz.prog 93 #[.pointer (some ⟨l,0,none⟩),.int .i64 k,.string s] w (Gives (refV (zbf p k s)) w):=by
 have HP:=fun W (hW:Fr No w W)=>zbj l bl n p g k s W (h.keep hW) hs
 have hno:=@zbm p s k
 unfold zbg at HP
 generalize zbf p k s=q at *
 obtain⟨⟨kc,nm⟩,c⟩:=q
 dsimp only at *
 unfold refV
 by_cases hc:c=1
 ·subst hc
  clear hno
  go_enter Tryz.func93,Tryz.ntmps93
  go_wp2_with fail
  refine(HP _ ?_).mono ?_
  ·exact frc
  rintro e w1 ⟨v,rfl,hf1,hx⟩
  obtain⟨xs,rfl,hsl⟩:=hx (by first|trivial|rfl)
  obtain⟨A,cap,rfl,hcap,hlen⟩:=hsl.form
  obtain⟨hl,h2,h3,b,off,rfl,hcell⟩:=hsl.last
  have hR:=(Bx.new w 108 #[.int .i64 0,.string ⟨#[]⟩]).keep hf1
  obtain⟨r0,r1⟩:=hR.c2
  have fr:=fun j=>hR.frozen j
  have hrl:=hR.lt
  have hbl:=lt_of_cell hcell
  unfold maxLen at h3
  simp only[hl] at h2 h3 hcap hlen ⊢
  clear hsl hx hcap hlen HP hl
  have wl:IntKind.i64.wrap (((xs.length+1:Nat):Int)-1)=(xs.length:Int):=(IntWalk.i64_in _ (by omega)).trans (by omega)
  go_wp2
  refine bodyPost_ret (v:=.tuple #[.agg #[.int .i64 kc,.string nm],.int .i64 1]) (by simp[results,Tryz.results93,go_sem, *]) rfl ?_
  exact .mk rfl (by exact frc)
 ·have hn:=hno hc
  simp only[zbH,Ref.mk.injEq] at hn
  obtain⟨rfl,rfl⟩:=hn
  have hc':(c != 1)=true:=by simpa using hc
  clear hno hc
  go_enter Tryz.func93,Tryz.ntmps93
  go_wp2_with fail
  refine(HP _ ?_).mono ?_
  ·exact frc
  rintro e w1 ⟨v,rfl,hf1,_⟩
  have hR:=(Bx.new w 108 #[.int .i64 0,.string ⟨#[]⟩]).keep hf1
  obtain⟨r0,r1⟩:=hR.c2
  have fr:=fun j=>hR.frozen j
  have hrl:=hR.lt
  clear HP
  go_wp2
  refine bodyPost_ret (v:=.tuple #[.agg #[.int .i64 0,.string ⟨#[]⟩],.int .i64 c]) (by simp[results,Tryz.results93,go_sem, *]) rfl ?_
  exact .mk rfl (by exact frc)
end Go.Proofs.YtmeaibjmnjcdfaaGreat
