/- What a keeper finds by a name; the chain of a class. -/
import Derived.Test.YtmeaibjmnjcdfaaGreatVG10
set_option maxHeartbeats 4000000
set_option maxRecDepth 100000
namespace Go.Proofs.YtmeaibjmnjcdfaaGreat
open Go.RowKit
def zmA (pre:List Ref) (w:World) (e:Ending) (w':World):Prop:=∃v,e=.returned (.tuple #[v,.bool true])∧Sl No w' 2 RefC v pre∧Fr No w w'
theorem zmB {l bl nn:Nat} {p:Plan} {g:Int->Str->Option Int} {r:Ref} {k i:Nat} (w:World) (hL:zgF w l bl nn p g) (hh:Here p r k i) (hr:r.name.size≤maxLen) (hc:chainOf p r=none):
  Calls Tryz.prog 94 #[.pointer (some ⟨l,0,none⟩),.agg #[.int .i64 r.keeper,.string r.name]] w (Gives (.tuple #[.slice none 0 0,.bool false]) w):=
 (zmz l bl nn p g r k i w hL hh hr).mono fun e w' ⟨hf,h⟩=>by
  rcases h with ⟨pre,v,h1,_⟩ | ⟨_,h2⟩
  ·rw[hc] at h1;cases h1
  ·exact⟨h2,hf⟩
theorem zmC {l bl nn:Nat} {p:Plan} {g:Int->Str->Option Int} {r:Ref} {k i:Nat} {pre:List Ref} (w:World) (hL:zgF w l bl nn p g) (hh:Here p r k i) (hr:r.name.size≤maxLen) (hc:chainOf p r=some pre):
  Calls Tryz.prog 94 #[.pointer (some ⟨l,0,none⟩),.agg #[.int .i64 r.keeper,.string r.name]] w (zmA pre w):=
 (zmz l bl nn p g r k i w hL hh hr).mono fun e w' ⟨hf,h⟩=>by
  rcases h with ⟨pre',v,h1,h2,h3⟩ | ⟨h1,_⟩
  ·rw[hc] at h1;cases h1;exact⟨v,h2,h3,hf⟩
  ·rw[hc] at h1;cases h1
def zmD (p:Plan) (k:Int) (s:Str):Ref×Int:=
 if (zbf p k s).2=1 then (if (chainOf p (zbf p k s).1).isSome then ((zbf p k s).1,1) else (zbH,4)) else (zbH,(zbf p k s).2)
theorem zmE {p:Plan} (hp:lodB p=true) {k:Int} {s:Str} (h:(zbf p k s).2=1):∃kc i:Nat,(zbf p k s).1=⟨kc,s⟩∧Here p ⟨kc,s⟩ kc i:=by
 unfold zbf at h ⊢
 cases hk:hasK p k
 ·rw[hk] at h;cases h
 ·rw[hk] at h
  unfold hasK at hk
  rw[lz5,decide_eq_true_eq,decide_eq_true_eq] at hk
  exact zbV hp 4 k hk.1 hk.2 h
theorem find_ok (l bl n:Nat) (p:Plan) (g:Int->Str->Option Int) (k:Int) (s:Str) (w:World) (h:zgF w l bl n p g) (hs:s.size≤maxLen):
  Calls Tryz.prog 50 #[.pointer (some ⟨l,0,none⟩),.int .i64 k,.string s] w (Gives (refV (zmD p k s)) w):=by
 have HR:=fun W (hW:Fr No w W)=>zbn l bl n p g k s W (h.keep hW) hs
 have hp:=h.1
 obtain⟨V,hV⟩:∃V,V=zmD p k s:=⟨_,rfl⟩
 rw[<-hV]
 unfold zmD at hV
 by_cases hc:(zbf p k s).2=1
 ·obtain⟨kc,i,hq,hh⟩:=zmE hp hc
  rw[if_pos hc,hq] at hV
  have hqq:zbf p k s=(⟨kc,s⟩,1):=by rw[<-hq,<-hc]
  rw[hqq] at HR
  unfold refV at HR ⊢
  dsimp only at HR
  clear hq hqq hc
  cases hch:chainOf p ⟨kc,s⟩ with
  | none=>
   have HC:=fun W (hW:Fr No w W)=>zmB (nn:=n) (g:=g) W (h.keep hW) hh hs hch
   rw[hch] at hV
   dsimp only[Option.isSome_none] at hV
   simp only[Bool.false_eq_true,if_false] at hV
   subst hV
   clear h hh hch
   dsimp only at HC ⊢
   go_enter Tryz.func50,Tryz.ntmps50
   go_wp2_with fail
   refine(HR _ ?_).mono ?_
   ·exact frc
   rintro e w1 ⟨rfl,hf1⟩
   have hA1:=(Bx.new w 108 #[.int .i64 0,.string ⟨#[]⟩]).keep hf1
   obtain⟨a0,a1⟩:=hA1.c2
   have la:=hA1.lt
   go_wp2_with fail
   refine(HC _ ?_).mono ?_
   ·exact frc
   rintro e w2 ⟨rfl,hf2⟩
   have hA2:=(hA1.alloc _).keep hf2
   have hB2:=(Bx.new w1 108 #[.int .i64 kc,.string s]).keep hf2
   clear a0 a1 la
   obtain⟨a0,a1⟩:=hA2.c2
   obtain⟨b0,b1⟩:=hB2.c2
   have la:=hA2.lt
   have lb:=hB2.lt
   have fa:=fun j=>hA2.frozen j
   go_wp2
   refine bodyPost_ret (v:=.tuple #[.agg #[.int .i64 0,.string ⟨#[]⟩],.int .i64 4]) (by simp[results,Tryz.results50,go_sem, *]) rfl ?_
   exact .mk rfl (by exact frc)
  | some pre=>
   have HC:=fun W (hW:Fr No w W)=>zmC (nn:=n) (g:=g) W (h.keep hW) hh hs hch
   rw[hch] at hV
   dsimp only[Option.isSome_some] at hV
   simp only[if_true] at hV
   subst hV
   clear h hh hch
   dsimp only at HC ⊢
   go_enter Tryz.func50,Tryz.ntmps50
   go_wp2_with fail
   refine(HR _ ?_).mono ?_
   ·exact frc
   rintro e w1 ⟨rfl,hf1⟩
   have hA1:=(Bx.new w 108 #[.int .i64 0,.string ⟨#[]⟩]).keep hf1
   obtain⟨a0,a1⟩:=hA1.c2
   have la:=hA1.lt
   go_wp2_with fail
   refine(HC _ ?_).mono ?_
   ·exact frc
   rintro e w2 ⟨v,rfl,_,hf2⟩
   have hA2:=(hA1.alloc _).keep hf2
   have hB2:=(Bx.new w1 108 #[.int .i64 kc,.string s]).keep hf2
   clear a0 a1 la
   obtain⟨a0,a1⟩:=hA2.c2
   obtain⟨b0,b1⟩:=hB2.c2
   have la:=hA2.lt
   have lb:=hB2.lt
   have fa:=fun j=>hA2.frozen j
   go_wp2
   refine bodyPost_ret (v:=.tuple #[.agg #[.int .i64 kc,.string s],.int .i64 1]) (by simp[results,Tryz.results50,go_sem, *]) rfl ?_
   exact .mk rfl (by exact frc)
 ·rw[if_neg hc] at hV
  have hno:=zbm hc
  unfold refV at HR ⊢
  subst hV
  rw[hno] at HR
  dsimp only[zbH] at HR ⊢
  generalize(zbf p k s).2=c at *
  have hc':(c != 1)=true:=by simpa using hc
  clear hc hno h
  go_enter Tryz.func50,Tryz.ntmps50
  go_wp2_with fail
  refine(HR _ ?_).mono ?_
  ·exact frc
  rintro e w1 ⟨rfl,hf1⟩
  have hA1:=(Bx.new w 108 #[.int .i64 0,.string ⟨#[]⟩]).keep hf1
  obtain⟨a0,a1⟩:=hA1.c2
  have la:=hA1.lt
  have fa:=fun j=>hA1.frozen j
  go_wp2
  refine bodyPost_ret (v:=.tuple #[.agg #[.int .i64 0,.string ⟨#[]⟩],.int .i64 c]) (by simp[results,Tryz.results50,go_sem, *]) rfl ?_
  exact .mk rfl (by exact frc)
def zmF (p:Plan) (r:Ref):List Ref:=if (zmD p r.keeper r.name).2=1∧(zmD p r.keeper r.name).1.keeper=r.keeper then (chainOf p r).getD [] else []
def zmG (xs:List Ref) (w:World) (e:Ending) (w':World):Prop:=∃v,e=.returned v∧Sl No w' 2 RefC v xs∧Fr No w w'
theorem zmG.nil {w w':World} {xs:List Ref} (h:xs=[]) (hf:Fr No w w'):zmG xs w (.returned (.slice none 0 0)) w':=by subst h;exact⟨_,rfl,Sl.nil _ _ _ _,hf⟩
theorem zmH {p:Plan} (hp:lodB p=true) {k:Int} {s:Str} (h:(zmD p k s).2=1):∃(kc i:Nat) (pre:List Ref),zmD p k s=(⟨kc,s⟩,1)∧Here p ⟨kc,s⟩ kc i∧chainOf p ⟨kc,s⟩=some pre:=by
 unfold zmD at h ⊢
 by_cases hc:(zbf p k s).2=1
 ·obtain⟨kc,i,hq,hh⟩:=zmE hp hc
  rw[if_pos hc,hq] at h ⊢
  cases hx:chainOf p ⟨kc,s⟩ with
  | none=>rw[hx] at h;simp at h
  | some pre=>exact⟨kc,i,pre,by simp,hh,hx⟩
 ·rw[if_neg hc] at h
  exact absurd h hc
theorem zmI (l bl n:Nat) (p:Plan) (g:Int->Str->Option Int) (r:Ref) (w:World) (h:zgF w l bl n p g) (hs:r.name.size≤maxLen):
  Calls Tryz.prog 95 #[.pointer (some ⟨l,0,none⟩),.agg #[.int .i64 r.keeper,.string r.name]] w (zmG (zmF p r) w):=by
 have HR:=fun W (hW:Fr No w W)=>find_ok l bl n p g r.keeper r.name W (h.keep hW) hs
 have hp:=h.1
 obtain⟨V,hV⟩:∃V,V=zmF p r:=⟨_,rfl⟩
 rw[<-hV]
 unfold zmF at hV
 obtain⟨rk,rn⟩:=r
 dsimp only at *
 by_cases hc:(zmD p rk rn).2=1
 ·obtain⟨kc,i,pre,hq,hh,hch⟩:=zmH hp hc
  rw[hq] at hV HR
  unfold refV at HR
  dsimp only at HR hV
  clear hq hc
  by_cases hk:(kc:Int)=rk
  ·subst hk
   rw[if_pos ⟨rfl,rfl⟩,hch] at hV
   have HC:=fun W (hW:Fr No w W)=>zmC (nn:=n) (g:=g) W (h.keep hW) hh hs hch
   dsimp only[Option.getD_some] at HC hV
   subst hV
   clear h hh hch
   go_enter Tryz.func95,Tryz.ntmps95
   go_wp2_with fail
   refine(HR _ ?_).mono ?_
   ·exact frc
   rintro e w1 ⟨rfl,hf1⟩
   have hA1:=(Bx.new w 108 #[.int .i64 kc,.string rn]).keep hf1
   obtain⟨a0,a1⟩:=hA1.c2
   have la:=hA1.lt
   go_wp2_with fail
   refine(HC _ ?_).mono ?_
   ·exact frc
   rintro e w2 ⟨v,rfl,hsl,hf2⟩
   clear a0 a1 la
   go_wp2
   go_ret
   exact⟨_,rfl,hsl,by exact frc⟩
  ·rw[if_neg (fun h=>hk h.2)] at hV
   have hk':((kc:Int) == rk)=false:=by simpa using hk
   have hk'':((kc:Int) != rk)=true:=by simpa using hk
   clear h hh hch
   replace hV:=Lib.hid hV
   go_enter Tryz.func95,Tryz.ntmps95
   go_wp2_with fail
   refine(HR _ ?_).mono ?_
   ·exact frc
   rintro e w1 ⟨rfl,hf1⟩
   have hA1:=(Bx.new w 108 #[.int .i64 rk,.string rn]).keep hf1
   obtain⟨a0,a1⟩:=hA1.c2
   have la:=hA1.lt
   go_wp2
   go_ret
   exact .nil hV.out (by exact frc)
 ·rw[if_neg (fun h=>hc h.1)] at hV
  unfold refV at HR
  generalize zmD p rk rn=q at *
  obtain⟨⟨kc,nm⟩,c⟩:=q
  dsimp only at *
  have hc':(c != 1)=true:=by simpa using hc
  clear h hc
  replace hV:=Lib.hid hV
  go_enter Tryz.func95,Tryz.ntmps95
  go_wp2_with fail
  refine(HR _ ?_).mono ?_
  ·exact frc
  rintro e w1 ⟨rfl,hf1⟩
  have hA1:=(Bx.new w 108 #[.int .i64 rk,.string rn]).keep hf1
  obtain⟨a0,a1⟩:=hA1.c2
  have la:=hA1.lt
  go_wp2
  go_ret
  exact .nil hV.out (by exact frc)
def zmJ (p:Plan) (a b:Int) (k:Knd):Bool:=
 if k.kind=1 then true else
 if (zmD p a k.name).2=1 then (if (zmD p b k.name).2=1 then decide ((zmD p a k.name).1.keeper=(zmD p b k.name).1.keeper) else false)
 else decide ((zmD p b k.name).2≠1)
theorem zmK (l bl n:Nat) (p:Plan) (g:Int->Str->Option Int) (a b:Int) (k:Knd) (w:World) (h:zgF w l bl n p g) (hs:k.name.size≤maxLen):
  Calls Tryz.prog 153 #[.pointer (some ⟨l,0,none⟩),.int .i64 a,.int .i64 b,.agg #[.int .i64 k.kind,.string k.name]] w (zgm (zmJ p a b k) w):=by
 have HA:=fun W (hW:Fr No w W)=>find_ok l bl n p g a k.name W (h.keep hW) hs
 have HB:=fun W (hW:Fr No w W)=>find_ok l bl n p g b k.name W (h.keep hW) hs
 have hp:=h.1
 obtain⟨V,hV⟩:∃V,V=zmJ p a b k:=⟨_,rfl⟩
 rw[<-hV]
 unfold zmJ at hV
 obtain⟨kd,kn⟩:=k
 dsimp only at *
 by_cases hk:kd=1
 ·subst hk
  rw[if_pos rfl] at hV
  replace hV:=Lib.hid hV
  clear HA HB h
  go_enter Tryz.func153,Tryz.ntmps153
  go_wp2
  go_ret
  exact .mk hV.out.symm (by exact frc)
 ·rw[if_neg hk] at hV
  have hk':(kd == 1)=false:=by simpa using hk
  have hx:(zmD p a kn).2=1->(zmD p b kn).2=1->(zmD p a kn).1.name=(zmD p b kn).1.name:=fun h1 h2=>by
   obtain⟨k1,i1,_,e1,_⟩:=zmH hp h1
   obtain⟨k2,i2,_,e2,_⟩:=zmH hp h2
   rw[e1,e2]
  unfold refV at HA HB
  generalize zmD p a kn=qa at *
  generalize zmD p b kn=qb at *
  obtain⟨⟨ka,na⟩,ca⟩:=qa
  obtain⟨⟨kb,nb⟩,cb⟩:=qb
  dsimp only at *
  have hcase:(ca=1∧cb=1∧ka=kb)∨(ca=1∧cb=1∧(ka == kb)=false)∨(ca=1∧(cb != 1)=true)∨((ca != 1)=true∧cb=1)∨((ca != 1)=true∧(cb != 1)=true):=by
   by_cases h1:ca=1<;>by_cases h2:cb=1<;>by_cases h3:ka=kb<;>simp[h1,h2,h3]
  clear hk h
  replace hV:=Lib.hid hV
  rcases hcase with ⟨rfl,rfl,rfl⟩ | ⟨rfl,rfl,hkk⟩ | ⟨rfl,hc2⟩ | ⟨hc1,rfl⟩ | ⟨hc1,hc2⟩
  ·obtain rfl:na=nb:=hx (by first|trivial|rfl) (by first|trivial|rfl)
   have hE:V=true:=by rw[hV.out];simp
   clear hx hV
   replace hE:=Lib.hid hE
   go_enter Tryz.func153,Tryz.ntmps153
   go_wp2_with fail
   refine(HA _ ?_).mono ?_
   ·exact frc
   rintro e w1 ⟨rfl,hf1⟩
   have hK1:=(Bx.new w 121 #[.int .i64 kd,.string kn]).keep hf1
   obtain⟨a0,a1⟩:=hK1.c2
   have la:=hK1.lt
   go_wp2_with fail
   refine(HB _ ?_).mono ?_
   ·exact frc
   rintro e w2 ⟨rfl,hf2⟩
   have hR1:=(Bx.new w1 108 #[.int .i64 ka,.string na]).keep hf2
   obtain⟨b0,b1⟩:=hR1.c2
   have lb:=hR1.lt
   clear a0 a1 la
   go_wp2
   go_ret
   exact .mk hE.out.symm (by exact frc)
  ·obtain rfl:na=nb:=hx (by first|trivial|rfl) (by first|trivial|rfl)
   have hE:V=false:=by rw[hV.out];simpa using hkk
   have hkk':(kb == ka)=false:=beq_eq_false_iff_ne.2 (Ne.symm (beq_eq_false_iff_ne.1 hkk))
   clear hx hV
   replace hE:=Lib.hid hE
   go_enter Tryz.func153,Tryz.ntmps153
   go_wp2_with fail
   refine(HA _ ?_).mono ?_
   ·exact frc
   rintro e w1 ⟨rfl,hf1⟩
   have hK1:=(Bx.new w 121 #[.int .i64 kd,.string kn]).keep hf1
   obtain⟨a0,a1⟩:=hK1.c2
   have la:=hK1.lt
   go_wp2_with fail
   refine(HB _ ?_).mono ?_
   ·exact frc
   rintro e w2 ⟨rfl,hf2⟩
   have hR1:=(Bx.new w1 108 #[.int .i64 ka,.string na]).keep hf2
   obtain⟨b0,b1⟩:=hR1.c2
   have lb:=hR1.lt
   clear a0 a1 la
   go_wp2
   go_ret
   exact .mk hE.out.symm (by exact frc)
  all_goals
   have hE:Hid (V=_):=hV
   clear hx
   go_enter Tryz.func153,Tryz.ntmps153
   go_wp2_with fail
   refine(HA _ ?_).mono ?_
   ·exact frc
   rintro e w1 ⟨rfl,hf1⟩
   have hK1:=(Bx.new w 121 #[.int .i64 kd,.string kn]).keep hf1
   obtain⟨a0,a1⟩:=hK1.c2
   have la:=hK1.lt
   go_wp2_with fail
   refine(HB _ ?_).mono ?_
   ·exact frc
   rintro e w2 ⟨rfl,hf2⟩
   clear a0 a1 la
   go_wp2
   go_ret
   refine .mk ?_ (by exact frc)
   rw[hE.out]
   simp_all
end Go.Proofs.YtmeaibjmnjcdfaaGreat
