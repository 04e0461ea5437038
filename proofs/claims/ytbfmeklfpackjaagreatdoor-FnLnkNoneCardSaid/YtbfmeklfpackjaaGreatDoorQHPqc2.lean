/- Whether a class can be laid out (the program's own check, looked at once and noted); the method of a name that a thing does. -/
import Derived.Test.YtbfmeklfpackjaaGreatDoorQHPqcE
import Derived.Test.YtbfmeklfpackjaaGreatDoorQHPqc1
import Derived.Test.YtbfmeklfpackjaaGreatDoorQG33
set_option maxHeartbeats 8000000
set_option maxRecDepth 100000
namespace Go.Proofs.YtbfmeklfpackjaaGreatDoor
open Go.RowKit
theorem Sl.dropc {α:Type} {X:Nat->Prop} {w:World} {sz:Nat} {R:List Value->α->Prop} {b off n cap k:Nat} {xs:List α} (h:Sl X w sz R (.slice (some ⟨b,off,none⟩) n cap) xs) (hk:k≤xs.length):
  Sl X w sz R (.slice (some ⟨b,off+k * sz,none⟩) (n-k) (cap-k)) (xs.drop k):=by
 rcases Nat.lt_or_ge k xs.length with hlt|hge
 ·exact h.drop hlt
 ·obtain⟨A',cap',he,h1,h2,h3⟩:=h
  simp only[Value.slice.injEq] at he
  obtain⟨_,rfl,rfl⟩:=he
  rw[List.drop_eq_nil_of_le hge]
  exact⟨_,_,by rw[show xs.length-k=0 by omega];rfl,by simp,by simp,fun h=>absurd h (by simp)⟩
theorem zjm (Y:Nat->Prop) (l bl n:Nat) (p:Plan) (g:Int->Str->Option Int) (u:Value) (rs:List Ref) (w:World) (h:zgF w l bl n p g) (hu:Sl Y w 2 RefC u rs) (hall:zhb p rs):
  Calls Tryz.prog 69 #[.pointer (some ⟨l,0,none⟩),u] w (zgm (zhn p rs) w):=by
 obtain⟨A,cap,rfl,hcap,hlen⟩:=hu.form
 unfold maxLen at hlen
 go_enter Tryz.func69,Tryz.ntmps69
 go_wp2
 go_loopw [11,4] (fun i r wr=>∃k:Nat,k≤rs.length∧i=.int .i64 k∧r=.bool false∧Hid (zhn p rs=zhn p (rs.drop k))∧Fr No w wr) (fun i _ _=>rs.length-(intOf i).toNat)
 case atStart=>exact⟨0,Nat.zero_le _,rfl,rfl,rfl,Fr.refl _ _⟩
 case round=>
  obtain⟨k,hk,rfl,rfl,hd,hw⟩:=hrel
  by_cases hlt:k<rs.length
  ·have huw:=hu.k0 hw
   obtain⟨b,off,rfl,_,c0,c1,hs1⟩:=huw.ref hlt
   have hbl:=lt_of_cell c0
   obtain⟨_,k1,i1,hh1⟩:=hall _ (List.getElem_mem hlt)
   rw[List.drop_eq_getElem_cons hlt,zhn] at hd
   have hd:=Lib.hid hd
   have hall2:=hall.drop (k+1)
   by_cases hc:k+1=cap
   ·have hnil:rs.drop (k+1)=[]:=List.drop_eq_nil_of_le (by omega)
    have HS:Hid (zhn p rs=zhn p (rs.drop (k+1))):=hd.out.out.trans (by rw[hnil];rfl)
    have hle:rs.length-(k+1)=0:=by omega
    clear hd hall hall2 hu huw h hnil
    generalize rs[k]=r at *
    obtain⟨rk,s1⟩:=r
    go_wp2
    obtain⟨wz,hwz⟩:∃wz:World,wz=(wr.alloc (.cells #[.int .i64 rk,.string s1] 29)):=⟨_,rfl⟩
    have hwz':Fr No w wz:=hwz▸hw.alloc _
    rw[<-hwz]
    clear hwz
    go_loopw [21,4] (fun i r wq=>i=.int .i64 0∧r=.bool false∧Fr No w wq) (fun i _ _=>0)
    case atStart=>exact⟨rfl,rfl,hwz'⟩
    case round=>
     obtain⟨rfl,rfl,hq⟩:=hrel
     go_wp2
     go_roundw
     case rel=>exact⟨k+1,by omega,by go_num,rfl,HS,hq⟩
     case measure=>simp[intOf];omega
   ·have hdr:Sl Y wr 2 RefC (.slice (some ⟨b,off+(k+1) * 2,none⟩) (rs.length-(k+1)) (cap-(k+1))) (rs.drop (k+1)):=Sl.dropc huw (by omega)
    have hlen2:(rs.drop (k+1)).length=rs.length-(k+1):=List.length_drop
    clear hu huw hall
    generalize hxs:rs.drop (k+1)=xs at *
    replace hxs:=Lib.hid hxs
    generalize rs[k]=r at *
    obtain⟨rk,s1⟩:=r
    obtain rfl:rk=(k1:Int):=hh1.1
    have hd0:Hid (zhn p rs=(xs.all (zhm p ⟨k1,s1⟩)&&zhn p xs)):=hd.out.out
    clear hd
    dsimp only at hs1
    go_wp2
    rw[<-hlen2]
    have hlx:xs.length≤9223372036854775807:=by omega
    replace hlen2:=Lib.hid hlen2
    obtain⟨wz,hwz⟩:∃wz:World,wz=(wr.alloc (.cells #[.int .i64 k1,.string s1] 29)):=⟨_,rfl⟩
    have hwz':Fr No wr wz:=hwz▸(Fr.refl No wr).alloc _
    have hK:Bx wz wr.heap.size 29 #[.int .i64 k1,.string s1]:=hwz▸Bx.new_ rfl
    rw[<-hwz]
    clear hwz
    have K:=hK.r2
    have hdrz:=hdr.k0 hwz'
    clear hdr c0 c1 hbl
    go_loopw [21,4] (fun i r wq=>∃j:Nat,j≤xs.length∧i=.int .i64 j∧r=.bool false∧Hid (zhn p rs=((xs.drop j).all (zhm p ⟨k1,s1⟩)&&zhn p xs))∧Fr No wz wq) (fun i _ _=>xs.length-(intOf i).toNat)
    case atStart=>exact⟨0,Nat.zero_le _,rfl,rfl,hd0,Fr.refl _ _⟩
    case round=>
     clear hd0
     obtain⟨j,hj,rfl,rfl,hd,hq⟩:=hrel
     by_cases hlj:j<xs.length
     ·obtain⟨b2,off2,he,_,d0,d1,hs2⟩:=(hdrz.k0 hq).ref hlj
      simp only[Option.some.injEq,Addr.mk.injEq,and_true] at he
      obtain⟨rfl,rfl⟩:=he
      have hbl:=lt_of_cell d0
      obtain⟨_,k2,i2,hh2⟩:=hall2 _ (List.getElem_mem hlj)
      rw[List.drop_eq_getElem_cons hlj,List.all_cons] at hd
      have hd:=Lib.hid hd
      clear hdrz hall2
      generalize xs[j]=r2 at *
      obtain⟨rk2,s2⟩:=r2
      obtain rfl:rk2=(k2:Int):=hh2.1
      dsimp only at hs2
      have HP:=fun W (hW:Fr No wr W)=>zlu l bl n p g k1 i1 k2 i2 s1 s2 W (h.keep (((hw.trans0 hwz').trans0 hq).trans0 hW)) hh1 hh2 hs1 hs2
      clear h hh1 hh2
      cases hp:zhm p ⟨k1,s1⟩ ⟨k2,s2⟩
      all_goals
       rw[hp] at HP
       have hp:=Lib.hid hp
      ·have HS:Hid (zhn p rs=false):=hd.out.out.trans (by rw[hp.out];simp)
       clear hd hp
       go_wp2_with (go_at_call 96;refine(HP _ frc).mono ?_;rintro e w2 ⟨rfl,hf2⟩)
       go_ret;exact .mk HS.out.symm frc
      ·have HS:Hid (zhn p rs=((xs.drop (j+1)).all (zhm p ⟨k1,s1⟩)&&zhn p xs)):=hd.out.out.trans (by rw[hp.out];simp)
       clear hd hp
       go_wp2_with (go_at_call 96;refine(HP _ frc).mono ?_;rintro e w2 ⟨rfl,hf2⟩)
       go_roundw
       case rel=>exact⟨j+1,by omega,by go_num,rfl,HS,frc⟩
       case measure=>simp[intOf];omega
     ·have HS:Hid (zhn p rs=zhn p xs):=hd.out.trans (by rw[List.drop_eq_nil_of_le (by omega)];rfl)
      clear h hd hdrz
      go_wp2
      go_roundw
      case rel=>exact⟨k+1,by omega,by go_num,rfl,by have:=HS.out;rwa [<-hxs.out] at this,frc⟩
      case measure=>simp[intOf];omega
  ·have HS:Hid (zhn p rs=true):=by have:=hd.out;rwa [List.drop_eq_nil_of_le (by omega)] at this
   clear h hd hu
   go_wp2
   go_ret;exact .mk HS.out.symm frc
def Right (p:Plan) (g:Int->Str->Option Int):Prop:=∀k s v,g k s=some v->v=if canB p ⟨k,s⟩ then 1 else 2
def Lg (w:World) (l bl n:Nat) (p:Plan):Prop:=∃g,zgF w l bl n p g∧Right p g
theorem Lg.keep {w w':World} {l bl n:Nat} {p:Plan} (h:Lg w l bl n p) (hf:Fr No w w'):Lg w' l bl n p:=let ⟨g,h1,h2⟩:=h;⟨g,h1.keep hf,h2⟩
theorem Lg.ok {w:World} {l bl n:Nat} {p:Plan} (h:Lg w l bl n p):lodB p=true:=let ⟨_,h1,_⟩:=h;h1.1
def zjn (p:Plan) (r:Ref) (l bl n:Nat) (w:World) (e:Ending) (w':World):Prop:=
 e=.returned (.bool (canB p r))∧Fr (fun b=>b=bl) w w'∧Lg w' l bl (n+1) p
theorem zjn.mk {p:Plan} {r:Ref} {l bl n:Nat} {w w':World} {b:Bool} (hb:canB p r=b) (hf:Fr (fun b=>b=bl) w w') (hl:Lg w' l bl (n+1) p):zjn p r l bl n w (.returned (.bool b)) w':=⟨by rw[hb],hf,hl⟩
theorem Right.put {p:Plan} {g:Int->Str->Option Int} {r:Ref} {v:Int} (h:Right p g) (hv:v=if canB p r then 1 else 2):Right p (upd g r.keeper r.name v):=fun k s u hu=>by
 unfold upd at hu
 by_cases hks:k=r.keeper∧s=r.name
 ·rw[if_pos hks] at hu
  obtain⟨rfl,rfl⟩:=hks
  cases hu
  exact hv
 ·rw[if_neg hks] at hu
  exact h k s u hu
theorem zgF.mono {w:World} {l bl n m:Nat} {p:Plan} {g:Int->Str->Option Int} (h:zgF w l bl n p g) (hm:n≤m):zgF w l bl m p g:=by
 obtain⟨h0,A,cap,bo,ba,h1,h2,h3,h4,h5,h6,h7,h8⟩:=h
 exact⟨h0,A,cap,bo,ba,h1,h2,h3,h4,h5,h6,h7,h8.mono hm⟩
theorem zgF.put {w w':World} {l bl n m:Nat} {p:Plan} {g g':Int->Str->Option Int} (h:zgF w l bl n p g) (hf:Fr (fun b=>b=bl) w w') (hM:MapF w' bl m g'):zgF w' l bl m p g':=by
 obtain⟨h0,A,cap,bo,ba,h1,h2,h3,h4,h5,h6,h7,h8⟩:=h
 exact⟨h0,A,cap,bo,ba,h1.keepX hf h2,h2,h3,h4,h5.keep hf (fun _ h=>h) (fun _ _ _ h=>h.keep hf (fun _ h=>h)),h6.keepX hf h3,h7.keepX hf h4,hM⟩
theorem zjo (l bl n:Nat) (p:Plan) (r:Ref) (w:World) (h:Lg w l bl n p) (hs:r.name.size≤maxLen) (wk:(Lit.int .i64 r.keeper).wf=true) (hn:n<1000000):
  Calls Tryz.prog 42 #[.pointer (some ⟨l,0,none⟩),.agg #[.int .i64 r.keeper,.string r.name]] w (zjn p r l bl n w):=by
 obtain⟨g,h,hg⟩:=h
 obtain⟨rk,rn⟩:=r
 dsimp only at hs wk
 obtain⟨wA,hwA⟩:∃wA,wA=(w.alloc (.cells #[.int .i64 rk,.string rn] 29)):=⟨_,rfl⟩
 have hfA:Fr No w wA:=hwA▸(Fr.refl No w).alloc _
 have K0:=(hwA▸Bx.new w 29 #[.int .i64 rk,.string rn]:Bx wA w.heap.size _ _).r2
 have HC:=fun W (hW:Fr No wA W)=>zmI l bl n p g ⟨rk,rn⟩ W ((h.keep hfA).keep hW) hs
 have HL:=fun u W (hW:Fr No wA W) hu=>zjm No l bl n p g u (zmF p ⟨rk,rn⟩) W ((h.keep hfA).keep hW) hu (zhj h.1 _)
 have hcan:canB p ⟨rk,rn⟩=(!(zmF p ⟨rk,rn⟩).isEmpty&&zhn p (zmF p ⟨rk,rn⟩)):=rfl
 have hL:=h.keep hfA
 have hL0:=h
 have h':=hL
 obtain⟨_,A,cap,bo,ba,hB,hne1,hne2,hne3,hP,hO,hA,hM⟩:=h'
 have KB:=hB.r4
 have hlook:=fun W (hW:Fr No wA W)=>(hM.keep hW).look wk hs
 clear hB hP hO hA h
 cases hgk:g rk rn with
 | some v=>
  have hv:=hg rk rn v hgk
  rw[hgk] at hlook
  dsimp only[Option.getD_some] at hlook
  clear HC HL hcan hM hgk
  cases hc:canB p ⟨rk,rn⟩
  all_goals
   rw[hc] at hv
   simp only[Bool.false_eq_true,if_true,if_false] at hv
   subst hv
   replace hc:=Lib.hid hc
   go_enter Tryz.func42,Tryz.ntmps42
   go_wp2_with fail
   rw[<-hwA]
   replace hwA:=Lib.hid hwA
   (refine zgc (X:=No) (by kernel_rfl) (by kernel_rfl) ?_)
   (repeat((first|go_big_quiet_skip|(go_big_quiet_want;(apply Exists.intro;refine⟨fun W hW=>?_,?_⟩);(focus (exact fqc));go_big_quiet_on));(try simp only[Act.put,lz0,lz1,lz2])));refine wpQuiet_nil ?_
   intro w1 hf1
   clear hlook
   go_wp2
   go_ret
   exact .mk hc.out (hfA.trans0 hf1).of0 ⟨g,(hL.keep hf1).mono (by omega),hg⟩
 | none=>
  rw[hgk] at hlook
  dsimp only[Option.getD_none] at hlook
  clear hgk
  have hcase:(canB p ⟨rk,rn⟩=false∧(zmF p ⟨rk,rn⟩).length=0)∨(canB p ⟨rk,rn⟩=false∧0<(zmF p ⟨rk,rn⟩).length∧zhn p (zmF p ⟨rk,rn⟩)=false)∨(canB p ⟨rk,rn⟩=true∧0<(zmF p ⟨rk,rn⟩).length∧zhn p (zmF p ⟨rk,rn⟩)=true):=by
   rw[hcan]
   cases zmF p ⟨rk,rn⟩ with
   | nil=>exact .inl ⟨rfl,rfl⟩
   | cons a as'=>
    cases zhn p (a :: as')
    ·exact .inr (.inl ⟨rfl,by simp,rfl⟩)
    ·exact .inr (.inr ⟨rfl,by simp,rfl⟩)
  clear hcan
  generalize zmF p ⟨rk,rn⟩=xs at *
  generalize zhn p xs=ok at *
  have hput:=fun v (hv:v=if canB p ⟨rk,rn⟩ then 1 else 2)=>hg.put (r:=⟨rk,rn⟩) hv
  have hend:=fun W w3 (v:Int) (hW:Fr No wA W) (hM3:MapF w3 bl (n+1) (upd g rk rn v)) (hg3:W.grownBy w3 (some bl)) (hv:v=if canB p ⟨rk,rn⟩ then 1 else 2)=>
   (have hf3:Fr (fun b=>b=bl) wA w3:=Fr.grown (hW.of0) hg3 (fun q e=>.inr (by cases e;rfl))
   (⟨hf3,⟨_,hL.put hf3 hM3,hput v hv⟩⟩:Fr (fun b=>b=bl) wA w3∧Lg w3 l bl (n+1) p))
  clear hL hL0 hput
  rcases hcase with ⟨hc,hl0⟩ | ⟨hc,hl0,hok⟩ | ⟨hc,hl0,hok⟩
  ·rw[hc] at hend
   simp only[Bool.false_eq_true,if_false] at hend
   replace hc:=Lib.hid hc
   obtain rfl:xs=[]:=List.length_eq_zero_iff.1 hl0
   clear hl0 HL
   go_enter Tryz.func42,Tryz.ntmps42
   go_wp2_with fail
   rw[<-hwA]
   replace hwA:=Lib.hid hwA
   (refine zgc (X:=No) (by kernel_rfl) (by kernel_rfl) ?_)
   (repeat((first|go_big_quiet_skip|(go_big_quiet_want;(apply Exists.intro;refine⟨fun W hW=>?_,?_⟩);(focus (exact fqc));go_big_quiet_on));(try simp only[Act.put,lz0,lz1,lz2])));refine wpQuiet_nil ?_
   intro w1 hf1
   clear hlook
   go_wp2_with (go_at_call 43;refine(HC _ hf1).mono ?_;rintro e w2 ⟨v2,rfl,hsl,hf2⟩;obtain⟨A2,c2,rfl,_,_⟩:=hsl.form;have q2:Fr No wA w2:=frc)
   go_still_tail 5,(by kernel_rfl)
   refine zb2 rfl _ _ _ rfl rfl ((hM.keep q2).keep (Fr.drew (Fr.refl No _))) (by unfold maxLen;omega) rfl rfl wk hs (by decide) ?_
   intro w9 hM9 hg9
   obtain⟨hf9,hLg⟩:=hend _ w9 2 q2.drew hM9 hg9 rfl
   go_frame
   go_wp2
   go_ret
   exact .mk hc.out (hfA.of0.same hf9) hLg
  ·rw[hc] at hend
   simp only[Bool.false_eq_true,if_false] at hend
   subst hok
   have hl1:((xs.length:Int) == 0)=false:=by simp;intro h;subst h;simp at hl0
   replace hc:=Lib.hid hc
   go_enter Tryz.func42,Tryz.ntmps42
   go_wp2_with fail
   rw[<-hwA]
   replace hwA:=Lib.hid hwA
   (refine zgc (X:=No) (by kernel_rfl) (by kernel_rfl) ?_)
   (repeat((first|go_big_quiet_skip|(go_big_quiet_want;(apply Exists.intro;refine⟨fun W hW=>?_,?_⟩);(focus (exact fqc));go_big_quiet_on));(try simp only[Act.put,lz0,lz1,lz2])));refine wpQuiet_nil ?_
   intro w1 hf1
   clear hlook
   go_wp2_with (first
    | (go_at_call 43;refine(HC _ hf1).mono ?_;rintro e w2 ⟨v2,rfl,hsl,hf2⟩;obtain⟨A2,c2,rfl,_,hm2⟩:=hsl.form;unfold maxLen at hm2;have q2:Fr No wA w2:=frc;have HL2:=HL _ w2 q2 hsl)
    | (go_at_call 69;refine HL2.mono ?_;rintro e w3 ⟨rfl,hf3⟩;have q3:Fr No wA w3:=frc))
   go_still_tail 5,(by kernel_rfl)
   refine zb2 rfl _ _ _ rfl rfl ((hM.keep q3).keep (Fr.drew (Fr.refl No _))) (by unfold maxLen;omega) rfl rfl wk hs (by decide) ?_
   intro w9 hM9 hg9
   obtain⟨hf9,hLg⟩:=hend _ w9 2 q3.drew hM9 hg9 rfl
   go_frame
   go_wp2
   go_ret
   exact .mk hc.out (hfA.of0.same hf9) hLg
  ·rw[hc] at hend
   simp only[if_true] at hend
   subst hok
   have hl1:((xs.length:Int) == 0)=false:=by simp;intro h;subst h;simp at hl0
   replace hc:=Lib.hid hc
   go_enter Tryz.func42,Tryz.ntmps42
   go_wp2_with fail
   rw[<-hwA]
   replace hwA:=Lib.hid hwA
   (refine zgc (X:=No) (by kernel_rfl) (by kernel_rfl) ?_)
   (repeat((first|go_big_quiet_skip|(go_big_quiet_want;(apply Exists.intro;refine⟨fun W hW=>?_,?_⟩);(focus (exact fqc));go_big_quiet_on));(try simp only[Act.put,lz0,lz1,lz2])));refine wpQuiet_nil ?_
   intro w1 hf1
   clear hlook
   go_wp2_with (first
    | (go_at_call 43;refine(HC _ hf1).mono ?_;rintro e w2 ⟨v2,rfl,hsl,hf2⟩;obtain⟨A2,c2,rfl,_,hm2⟩:=hsl.form;unfold maxLen at hm2;have q2:Fr No wA w2:=frc;have HL2:=HL _ w2 q2 hsl)
    | (go_at_call 69;refine HL2.mono ?_;rintro e w3 ⟨rfl,hf3⟩;have q3:Fr No wA w3:=frc))
   go_still_tail 5,(by kernel_rfl)
   refine zb2 rfl _ _ _ rfl rfl ((hM.keep q3).keep (Fr.drew (Fr.refl No _))) (by unfold maxLen;omega) rfl rfl wk hs (by decide) ?_
   intro w9 hM9 hg9
   obtain⟨hf9,hLg⟩:=hend _ w9 1 q3.drew hM9 hg9 rfl
   go_frame
   go_wp2
   go_ret
   exact .mk hc.out (hfA.of0.same hf9) hLg
theorem Sl.oldX {α:Type} {X:Nat->Prop} {w:World} {sz:Nat} {R R':List Value->α->Prop} {v:Value} {xs:List α} (h:Sl X w sz R v xs) (hsz:0<sz) (hR:∀cs x,x∈xs->R cs x->R' cs x):Sl (fun b=>X b∨w.heap.size≤b) w sz R' v xs:=by
 obtain⟨A,cap,rfl,h1,h2,h3⟩:=h
 refine⟨A,cap,rfl,h1,h2,fun h0=>?_⟩
 obtain⟨b,off,rfl,hX,hc⟩:=h3 h0
 refine⟨b,off,rfl,?_,fun k hk=>?_⟩
 ·obtain⟨cs,_,hl,hcs⟩:=hc 0 h0
  have hv:cs[0]? =some (cs[0]'(by omega)):=lz8 (by omega)
  have:=hcs 0 hsz
  rw[hv] at this
  have:=lt_of_cell this
  rintro(h|h)
  ·exact hX h
  ·omega
 ·obtain⟨cs,hRc,hl,hcs⟩:=hc k hk
  exact⟨cs,hR cs _ (List.getElem_mem hk) hRc,hl,hcs⟩
section
variable {X:Nat->Prop} {w:World} {cs:List Value}
theorem MapC.oldX {m:Mp} (h:MapC X w cs m):MapC (fun b=>X b∨w.heap.size≤b) w cs m:=by
 obtain⟨vl,vs,rfl,h1,h2⟩:=h
 exact⟨vl,vs,rfl,h1.oldX (by decide) (fun _ _ _ h=>h),h2.oldX (by decide) (fun _ _ _ h=>h)⟩
theorem MthC.oldX {m:Mth} (h:MthC X w cs m):MthC (fun b=>X b∨w.heap.size≤b) w cs m:=by
 obtain⟨va,vc,vm,rfl,h1,h2,h3,h4,h5⟩:=h
 exact⟨va,vc,vm,rfl,h1,h2,h3.oldX (by decide) (fun _ _ _ h=>h),h4.oldX (by decide) (fun _ _ _ h=>h),h5.oldX (by decide) (fun _ _ _ h=>h.oldX)⟩
theorem ClsC.oldX {c:Cls} (h:ClsC X w cs c):ClsC (fun b=>X b∨w.heap.size≤b) w cs c:=by
 obtain⟨vf,vm,rfl,h1,h2,h3,h4⟩:=h
 exact⟨vf,vm,rfl,h1,h2,h3.oldX (by decide) (fun _ _ _ h=>h),h4.oldX (by decide) (fun _ _ _ h=>h.oldX)⟩
theorem KprC.oldX {k:Kpr} (h:KprC X w cs k):KprC (fun b=>X b∨w.heap.size≤b) w cs k:=by
 obtain⟨vo,va,rfl,h1,h2⟩:=h
 exact⟨vo,va,rfl,h1.oldX (by decide) (fun _ _ _ h=>h.oldX),h2.oldX (by decide) (fun _ _ _ h=>h)⟩
end
theorem zgF.over {w w1 w':World} {l bl n m:Nat} {p:Plan} {g g1:Int->Str->Option Int} (h:zgF w l bl n p g) (h1:zgF w1 l bl m p g1) (hf:Fr (fun b=>b=bl) w w1) (hf':Fr (fun b=>w.heap.size≤b) w1 w'):zgF w' l bl m p g1:=by
 obtain⟨h0,A,cap,bo,ba,k1,k2,k3,k4,k5,k6,k7,k8⟩:=h
 obtain⟨_,_,_,_,_,_,_,_,_,_,_,_,q8⟩:=h1
 have hb:=k8.lt
 have F:Fr (fun b=>b=bl∨w.heap.size≤b) w w':=⟨hf'.os.trans hf.os,hf'.tape.trans hf.tape,hf'.output.trans hf.output,Nat.le_trans hf.size hf'.size,fun b hb hn=>
  (hf'.block b (Nat.lt_of_lt_of_le hb hf.size) (fun h=>hn (.inr h))).trans (hf.block b hb (fun h=>hn (.inl h)))⟩
 have nb:∀b,b<w.heap.size->b≠bl->¬(b=bl∨w.heap.size≤b):=fun b h1 h2 h=>by rcases h with h|h<;>omega
 refine⟨h0,A,cap,bo,ba,k1.keepX F (nb l k1.lt k2),k2,k3,k4,?_,k6.keepX F (nb bo k6.lt k3),k7.keepX F (nb ba k7.lt k4),q8.keepX hf' (by omega)⟩
 have k5':=((k5.oldX (R':=KprC (fun b=>b=bl∨w.heap.size≤b) w) (by decide) (fun _ _ _ h=>h.oldX)).keep (R':=KprC (fun b=>b=bl∨w.heap.size≤b) w') F (fun _ h=>h) (fun _ _ _ h=>h.keep F (fun _ h=>h)))
 exact k5'.weaken (fun _ h=>.inl h) (fun _ _ _ h=>h.weaken (fun _ h=>.inl h))
theorem Lg.over {w w1 w':World} {l bl n m:Nat} {p:Plan} (h:Lg w l bl n p) (h1:Lg w1 l bl m p) (hf:Fr (fun b=>b=bl) w w1) (hf':Fr (fun b=>w.heap.size≤b) w1 w'):Lg w' l bl m p:=by
 obtain⟨g,h,_⟩:=h
 obtain⟨g1,h1,h2⟩:=h1
 exact⟨g1,h.over h1 hf hf',h2⟩
theorem Lg.mono {w:World} {l bl n m:Nat} {p:Plan} (h:Lg w l bl n p) (hm:n≤m):Lg w l bl m p:=let ⟨g,h1,h2⟩:=h;⟨g,h1.mono hm,h2⟩
theorem Lg.lt {w:World} {l bl n:Nat} {p:Plan} (h:Lg w l bl n p):bl<w.heap.size:=by
 obtain⟨g,⟨_,A,cap,bo,ba,_,_,_,_,_,_,_,hM⟩,_⟩:=h
 exact hM.lt
theorem zjq {l bl n:Nat} {p:Plan} {g:Int->Str->Option Int} {k i:Nat} {s:Str} {w:World} (h:zgF w l bl n p g) (hh:Here p ⟨k,s⟩ k i) (hs:s.size≤maxLen):
  ∃Af cf Am cm,ClsC (fun b=>b=bl) w [.string (zbG p ⟨k,s⟩).name,.string (zbG p ⟨k,s⟩).super,.slice Af (zbG p ⟨k,s⟩).fields.length cf,.slice Am (zbG p ⟨k,s⟩).methods.length cm] (zbG p ⟨k,s⟩) ∧
   ∀W,Fr No w W->Calls Tryz.prog 61 #[.pointer (some ⟨l,0,none⟩),.agg #[.int .i64 k,.string s]] W (Gives (.agg #[.string (zbG p ⟨k,s⟩).name,.string (zbG p ⟨k,s⟩).super,.slice Af (zbG p ⟨k,s⟩).fields.length cf,.slice Am (zbG p ⟨k,s⟩).methods.length cm]) W):=by
 obtain⟨Af,cf,Am,cm,hR,HC⟩:=zbd l bl n p g k s i w h hh.2.1 hs (zbC p k) rfl hh.2.2.1 hh.2.2.2
 rw[<-hh.cls] at hR HC
 exact⟨Af,cf,Am,cm,hR,HC⟩
def zjr (o:Option (Ref×Int)) (p:Plan) (l bl n:Nat) (w:World) (e:Ending) (w':World):Prop:=
 e=.returned (zku o)∧Fr (fun b=>b=bl) w w'∧Lg w' l bl n p
theorem zjr.mk {o:Option (Ref×Int)} {p:Plan} {l bl n:Nat} {w w':World} {v:Value} (hv:zku o=v) (hf:Fr (fun b=>b=bl) w w') (hl:Lg w' l bl n p):zjr o p l bl n w (.returned v) w':=⟨by rw[hv],hf,hl⟩
theorem zjs (l bl n:Nat) (p:Plan) (r:Ref) (s:Str) (w:World) (h:Lg w l bl n p) (hr:r.name.size≤maxLen) (_hs:s.size≤maxLen) (wk:(Lit.int .i64 r.keeper).wf=true) (hn:n<1000000):
  Calls Tryz.prog 33 #[.pointer (some ⟨l,0,none⟩),.agg #[.int .i64 r.keeper,.string r.name],.string s] w (zjr (zhp p r s) p l bl (n+1) w):=by
 obtain⟨rk,rn⟩:=r
 dsimp only at hr wk
 have hlt:=h.lt
 have h0:=h
 obtain⟨wA,hwA⟩:∃wA,wA=((w.alloc (.cells #[.int .i64 rk,.string rn] 29)).alloc (.cells #[.int .i64 0,.string ⟨#[]⟩,.int .i64 0] 31)):=⟨_,rfl⟩
 have hfA:Fr No w wA:=hwA▸frc
 have B0:Bx wA w.heap.size 29 #[.int .i64 rk,.string rn]:=hwA▸bxc
 have B1:Bx wA (w.heap.size+1) 31 #[.int .i64 0,.string ⟨#[]⟩,.int .i64 0]:=hwA▸bxc
 have HC:=fun W (hW:Fr No wA W)=>zjo l bl n p ⟨rk,rn⟩ W ((h.keep hfA).keep hW) hr wk hn
 have hp:=h.ok
 have hpick:zhp p ⟨rk,rn⟩ s=if canB p ⟨rk,rn⟩ then zho p s (zmF p ⟨rk,rn⟩) else none:=rfl
 have hall:=zhj hp ⟨rk,rn⟩
 generalize zhp p ⟨rk,rn⟩ s=o at *
 unfold zjn at HC
 have A0:=B0.c2
 have A1:=B1.c3
 have L0:=B0.lt
 have L1:=B1.lt
 clear h
 cases hc:canB p ⟨rk,rn⟩
 ·rw[hc] at HC hpick
  simp only[Bool.false_eq_true,if_false] at hpick
  subst hpick
  clear hc hall
  go_enter Tryz.func33,Tryz.ntmps33
  go_wp2_with fail
  rw[<-hwA]
  replace hwA:=Lib.hid hwA
  refine(HC _ (Fr.refl _ _)).mono ?_
  rintro e w1 ⟨rfl,hf1,hL1⟩
  have hw1:Fr (fun b=>b=bl) w w1:=hfA.of0.same hf1
  obtain⟨z0,z1,z2⟩:=(B1.keepX hf1 (by omega)).c3
  have zf:=fun j=>(B1.keepX hf1 (by omega)).frozen j
  have zl:=(B1.keepX hf1 (by omega)).lt
  clear A0 A1 HC
  go_wp2
  refine bodyPost_ret (v:=.tuple #[.agg #[.int .i64 0,.string ⟨#[]⟩,.int .i64 0],.bool false]) (by simp[results,Tryz.results33,go_sem, *]) rfl ?_
  exact .mk rfl frc (h0.over hL1 hw1 frx)
 ·rw[hc] at HC hpick
  simp only[if_true] at hpick
  have hlen:(zmF p ⟨rk,rn⟩).length≤6:=zhk hp _
  have HCH:=fun(g:Int->Str->Option Int) W (hW:zgF W l bl (n+1) p g)=>zmI l bl (n+1) p g ⟨rk,rn⟩ W hW hr
  generalize zmF p ⟨rk,rn⟩=xs at *
  replace hpick:=Lib.hid hpick
  clear hc
  go_enter Tryz.func33,Tryz.ntmps33
  go_wp2_with fail
  rw[<-hwA]
  replace hwA:=Lib.hid hwA
  refine(HC _ (Fr.refl _ _)).mono ?_
  rintro e w1 ⟨rfl,hf1,hL1⟩
  have hw1:Fr (fun b=>b=bl) w w1:=hfA.of0.same hf1
  have hB1:=B1.keepX hf1 (by omega)
  have hB0:=B0.keepX hf1 (by omega)
  obtain⟨g,hLo,hg⟩:=hL1
  obtain⟨z0,z1⟩:=hB0.c2
  have zl:=hB0.lt
  clear A0 A1 HC B0 B1 L0 L1
  go_wp2_with (go_at_call 43;refine(HCH g _ (hLo.keep frc)).mono ?_;rintro e w2 ⟨v2,rfl,hsl,hf2⟩;obtain⟨A2,c2,rfl,_,_⟩:=hsl.form)
  have hw2:Fr (fun b=>b=bl) w w2:=frc
  have hL2:=hLo.keep (show Fr No w1 w2 from frc)
  have R0:=(hB0.keep (show Fr No w1 w2 from frc)).r2
  have R1:=(hB1.keep (show Fr No w1 w2 from frc)).r3
  have hlim:w.heap.size+1<w2.heap.size:=(hB1.keep (show Fr No w1 w2 from frc)).lt
  clear HCH hB0 hB1 z0 z1 zl hf1 hf2 hw1
  clear hLo
  go_loopw [20] (fun i wr=>∃k:Nat,k≤xs.length∧i=.int .i64 k∧Hid (o=zho p s (xs.drop k))∧Fr No w2 wr) (fun i _=>xs.length-(intOf i).toNat)
  case atStart=>exact⟨0,Nat.zero_le _,rfl,hpick,Fr.refl _ _⟩
  case round=>
   clear hpick
   obtain⟨k,hk,rfl,hd,hf⟩:=hrel
   by_cases hlt2:k<xs.length
   ·obtain⟨b,off,rfl,_,c0,c1,hsr⟩:=(hsl.k0 hf).ref hlt2
    have hbl:=lt_of_cell c0
    obtain⟨_,kr,ir,hhr⟩:=hall _ (List.getElem_mem hlt2)
    rw[List.drop_eq_getElem_cons hlt2,zho] at hd
    have hd:=Lib.hid hd
    clear hsl hall
    generalize xs[k]=r at *
    obtain⟨rk',s1⟩:=r
    obtain rfl:rk'=(kr:Int):=hhr.1
    dsimp only at c0 c1 hsr
    obtain⟨Af,cf,Am,cm,hR,HCl⟩:=zjq (hL2.keep hf) hhr hsr
    have hrg:=zeS (zeU s) (zbG p ⟨kr,s1⟩).methods
    generalize zbG p ⟨kr,s1⟩=c at *
    have HM:=fun W (hW:Fr No wr W)=>zgQ _ c _ s W (hR.keep hW zN)
    clear hR hhr
    generalize ixOf (zeU s) c.methods=ix at *
    have KR:=(Bx.new wr 29 #[.int .i64 kr,.string s1]).r2
    by_cases hix:ix<0
    ·have HS:Hid (o=zho p s (xs.drop (k+1))):=hd.out.out.trans (if_pos hix)
     clear hd
     go_wp2_with (first
      | (go_at_call 61;refine(HCl _ frc).mono ?_;rintro e w3 ⟨rfl,hf3⟩;have q3:Fr No wr w3:=frc)
      | (go_at_call 60;refine(HM _ frc).mono ?_;rintro e w4 ⟨rfl,hf4⟩;have q4:Fr No wr w4:=frc))
     go_roundw
     case rel=>exact⟨k+1,by omega,by go_num,HS,frc⟩
     case measure=>simp[intOf];omega
    ·obtain⟨ix,rfl⟩:=Int.eq_ofNat_of_zero_le (show 0≤ix by omega)
     have HS:Hid (o=some (⟨kr,s1⟩,(ix:Int))):=hd.out.out.trans (if_neg hix)
     clear hd
     go_wp2_with (first
      | (go_at_call 61;refine(HCl _ frc).mono ?_;rintro e w3 ⟨rfl,hf3⟩;have q3:Fr No wr w3:=frc)
      | (go_at_call 60;refine(HM _ frc).mono ?_;rintro e w4 ⟨rfl,hf4⟩;have k4:=KR w4 frc;obtain⟨q4,p4⟩:Fr No wr w4∧Fr No w2 w4:=⟨frc,frc⟩))
     refine bodyPost_ret (v:=.tuple #[.agg #[.int .i64 kr,.string s1,.int .i64 ix],.bool true]) (by simp[results,Tryz.results33,go_sem, *]) rfl ?_
     exact .mk (by rw[HS.out];rfl) frc (h0.over ⟨g,hL2.keep p4,hg⟩ (hw2.trans0 p4) frx)
   ·have HS:Hid (o=none):=hd.out.trans (by rw[List.drop_eq_nil_of_le (by omega)];rfl)
    clear hd hsl hall
    go_wp2
    refine bodyPost_ret (v:=.tuple #[.agg #[.int .i64 0,.string ⟨#[]⟩,.int .i64 0],.bool false]) (by simp[results,Tryz.results33,go_sem, *]) rfl ?_
    exact .mk (by rw[HS.out];rfl) frc (h0.over ⟨g,hL2.keep hf,hg⟩ (hw2.trans0 hf) frx)
theorem zdP {P:Program} {f:FuncId} {args:Array Value} {w:World} {Q:Ending->World->Prop} (R:World->Prop) (h:R w) (k:∀W,R W->Calls P f args W Q):Calls P f args w Q:=k w h
def ErrV (c:Int) (v:Value) (w:World):Prop:=(c=1∧v=.nilIface)∨(c≠1∧∃b,v=.iface 108 (.pointer (some ⟨b,0,none⟩))∧Bx w b 110 #[.int .i64 c])
theorem ErrV.keep {c:Int} {v:Value} {w w':World} (h:ErrV c v w) (hf:Fr No w w'):ErrV c v w':=by
 rcases h with h | ⟨h,b,h1,h2⟩
 ·exact .inl h
 ·exact .inr ⟨h,b,h1,h2.keep hf⟩
theorem ErrV.mk {c:Int} {b:Nat} {w:World} (hc:c≠1) (h:Bx w b 110 #[.int .i64 c]):ErrV c (.iface 108 (.pointer (some ⟨b,0,none⟩))) w:=.inr ⟨hc,b,rfl,h⟩
theorem zdQ {l bl n:Nat} {p:Plan} {g:Int->Str->Option Int} {k i a:Nat} {s:Str} {w:World} (h:zgF w l bl n p g) (hh:Here p ⟨k,s⟩ k i) (hs:s.size≤maxLen) (ha:a<(zbG p ⟨k,s⟩).methods.length):
  ∃cs:List Value,MthC (fun b=>b=bl) w cs (zbG p ⟨k,s⟩).methods[a]∧∀W,Fr No w W->Calls Tryz.prog 50 #[.pointer (some ⟨l,0,none⟩),.agg #[.int .i64 k,.string s,.int .i64 a]] W (Gives (.agg cs.toArray) W):=by
 obtain⟨Af,cf,Am,cm,hR,HC⟩:=zjq h hh hs
 generalize zbG p ⟨k,s⟩=c at *
 obtain⟨vf,vm,he,_,_,_,hm⟩:=hR
 simp only[List.cons.injEq,true_and,and_true] at he
 obtain⟨rfl,rfl⟩:=he
 have hml:=hm.at_.2.2.1
 unfold maxLen at hml
 obtain⟨bm,om,Aa,ca,Ac,cc,Ax,cx,rfl,_,d0,d1,d2,d3,d4,d5,d6,d7,hr1,hr2,hr3,hr4,hr5,_,_,_,_,_,_⟩:=hm.mth ha
 refine⟨[.string c.methods[a].name,.slice Aa c.methods[a].args.length ca,.int .i64 c.methods[a].ret.kind,.string c.methods[a].ret.name,.int .i64 c.methods[a].locals,.int .i64 c.methods[a].stack,.slice Ac c.methods[a].code.length cc,.slice Ax c.methods[a].maps.length cx],⟨_,_,_,rfl,hr1,hr2,hr3,hr4,hr5⟩,fun w0 hW=>?_⟩
 clear hm hr1 hr2 hr3 hr4 hr5
 generalize c.methods[a]=m at *
 replace d0:=hW.keep0 d0
 replace d1:=hW.keep0 d1
 replace d2:=hW.keep0 d2
 replace d3:=hW.keep0 d3
 replace d4:=hW.keep0 d4
 replace d5:=hW.keep0 d5
 replace d6:=hW.keep0 d6
 replace d7:=hW.keep0 d7
 replace HC:=fun W' (h:Fr No w0 W')=>HC W' (hW.trans0 h)
 have hk0:(0:Int)≤(a:Int):=by omega
 have hka:(a:Int)<(c.methods.length:Int):=by omega
 clear hW h hh
 obtain⟨wA,hwA⟩:∃wA,wA=((w0.alloc (.cells #[.int .i64 k,.string s,.int .i64 a] 31)).alloc (.cells #[.string ⟨#[]⟩,.slice none 0 0,.int .i64 0,.string ⟨#[]⟩,.int .i64 0,.int .i64 0,.slice none 0 0,.slice none 0 0] 49)):=⟨_,rfl⟩
 have hfA:Fr No w0 wA:=hwA▸frc
 have B0:Bx wA w0.heap.size 31 #[.int .i64 k,.string s,.int .i64 a]:=hwA▸bxc
 have B1:Bx wA (w0.heap.size+1) 49 #[.string ⟨#[]⟩,.slice none 0 0,.int .i64 0,.string ⟨#[]⟩,.int .i64 0,.int .i64 0,.slice none 0 0,.slice none 0 0]:=hwA▸bxc
 replace d0:=cr (hfA.keep0 d0)
 replace d1:=cr (hfA.keep0 d1)
 replace d2:=cr (hfA.keep0 d2)
 replace d3:=cr (hfA.keep0 d3)
 replace d4:=cr (hfA.keep0 d4)
 replace d5:=cr (hfA.keep0 d5)
 replace d6:=cr (hfA.keep0 d6)
 replace d7:=cr (hfA.keep0 d7)
 have K0:=B0.r3
 go_enter Tryz.func50,Tryz.ntmps50
 go_wp2_with fail
 rw[<-hwA]
 clear hwA
 refine zn0 9 14 [mV (.pointer (some ⟨l,0,none⟩)),mV (.pointer (some ⟨w0.heap.size,0,none⟩)),mV (.agg #[.int .i64 k,.string s]),mV (.agg #[.string c.name,.string c.super,.slice Af c.fields.length cf,.slice (some ⟨bm,om,none⟩) c.methods.length cm]),mV (.slice (some ⟨bm,om,none⟩) c.methods.length cm),mV (.pointer (some ⟨w0.heap.size,2,none⟩)),mV (.int .i64 a),mV (.pointer (some ⟨bm,om+a * 8,none⟩)),mV (.agg #[.string m.name,.slice Aa m.args.length ca,.int .i64 m.ret.kind,.string m.ret.name,.int .i64 m.locals,.int .i64 m.stack,.slice Ac m.code.length cc,.slice Ax m.maps.length cx])] (by kernel_rfl) (by kernel_rfl) (by simp) ?_ ?_
 ·refine hc4 ?_ ?_ ?_ ?_ <| hc4 ?_ ?_ ?_ ?_ <| hopC ?_ <| hopZ
  all_goals (intro a' W hW hoff hdep;have hbs:=hW.size;have H0:=hoff 0 rfl;have H3:=hoff 3 rfl;refine nE rfl ?_)
  ·simp[execOp,Act.eval,H0,go_sem,zaa];exact fr1 rfl
  ·simp[execOp,Act.eval,H3,go_sem,zaa];exact fr1 rfl
  ·have D6:_=_:=hdep 1 6 rfl;clear hoff hdep;simp[execOp,Act.eval,go_sem,zaa, *];exact fr1 rfl
  ·have D5:_=_:=hdep 0 5 rfl;have D7:_=_:=hdep 2 7 rfl;simp[Act.eval,D5,D7,go_sem,zaa];exact(HC _ (hfA.trans0 hW)).mono fun e w'' h=>⟨_,h.1,h.2,rfl⟩
  ·have D8:_=_:=hdep 3 8 rfl;simp[execOp,Act.eval,D8,go_sem,zaa];exact fr1 rfl
  ·simp[execOp,Act.eval,H3,go_sem,zaa];exact fr1 rfl
  ·have D10:_=_:=hdep 5 10 rfl;clear hoff hdep;simp[execOp,Act.eval,go_sem,zaa, *];exact fr1 rfl
  ·have D9:_=_:=hdep 4 9 rfl;have D11:_=_:=hdep 6 11 rfl;clear hoff hdep;simp[execOp,Act.eval,go_sem,zaa, *];exact fr1 rfl
  ·have D12:_=_:=hdep 7 12 rfl;clear hoff hdep;simp[execOp,Act.eval,go_sem,zaa, *];exact fr1 rfl
 intro vs WR hWR hv hne
 simp only[lz6,List.drop_zero,znK,znR,Nat.zero_add,Nat.reduceAdd]
 simp only[Act.put,lz0,lz1,lz2]
 clear hv
 have q1:Fr No w0 WR:=hfA.trans0 hWR
 have B1':=B1.keep hWR
 obtain⟨z0,z1,z2,z3,z4,z5,z6,z7⟩:=B1'.c8
 have zf:=fun j=>B1'.frozen j
 have zl:=B1'.lt
 go_wp2
 refine bodyPost_ret (v:=.agg #[.string m.name,.slice Aa m.args.length ca,.int .i64 m.ret.kind,.string m.ret.name,.int .i64 m.locals,.int .i64 m.stack,.slice Ac m.code.length cc,.slice Ax m.maps.length cx]) (by simp[results,Tryz.results50,go_sem, *]) rfl ?_
 exact .mk1 rfl frc
def zdR (p:Plan) (k:Int) (s:Str):Ref×Int:=
 if (zmD p k s).2=1 then (if canB p (zmD p k s).1 then ((zmD p k s).1,1) else (zbH,4)) else (zbH,2)
def zdS (p:Plan) (k:Int) (s m:Str):Ref×Int:=if namB m then zdR p k s else (zbH,2)
theorem zdT {p:Plan} {k:Int} {s:Str} (h:zmD p k s=(zbH,2)):zdR p k s=(zbH,2):=by
 unfold zdR;rw[h];rfl
def zdU (q:Ref×Int) (p:Plan) (l bl n:Nat) (w:World) (e:Ending) (w':World):Prop:=
 ∃ev,e=.returned (.tuple #[.agg #[.int .i64 q.1.keeper,.string q.1.name],ev])∧ErrV q.2 ev w'∧Fr (fun b=>b=bl) w w'∧Lg w' l bl (n+1) p
theorem zdU.mk {q:Ref×Int} {p:Plan} {l bl n:Nat} {w w':World} {v ev:Value} {r:Ref} {c:Int} (hq:q=(r,c)) (hv:v=.tuple #[.agg #[.int .i64 r.keeper,.string r.name],ev]) (he:ErrV c ev w') (hf:Fr (fun b=>b=bl) w w') (hl:Lg w' l bl (n+1) p):zdU q p l bl n w (.returned v) w':=by
 subst hq;subst hv;exact⟨_,rfl,he,hf,hl⟩
theorem zdV {w:World} {l bl n:Nat} {p:Plan} (h:Lg w l bl n p) (k:Int):
  Calls Tryz.prog 34 #[.pointer (some ⟨l,0,none⟩),.int .i64 k] w (zgl (hasK p k) w):=by
 obtain⟨g,⟨hp,A,cap,bo,ba,hB,_⟩,_⟩:=h
 have h3:=zbM hp
 exact zgq l p.keepers.length cap A _ _ _ k w hB (by unfold maxLen;omega)
theorem zdW {k:Nat} (h:k<4):(Lit.int .i64 (k:Int)).wf=true:=by
 rcases k with _|_|_|_|k
 ·rfl
 ·rfl
 ·rfl
 ·rfl
 ·omega
theorem zdX (l bl n:Nat) (p:Plan) (k:Int) (s m:Str) (w:World) (h:Lg w l bl n p) (hs:s.size≤maxLen) (hm:m.size≤maxLen) (hn:n<1000000):
  Calls Tryz.prog 48 #[.pointer (some ⟨l,0,none⟩),.int .i64 k,.string s,.string m] w (zdU (zdS p k s m) p l bl n w):=by
 have hp:=h.ok
 have hlt:=h.lt
 have h0:=h
 have HH:=fun W (hW:Fr No w W)=>zdV (h.keep hW) k
 have HN:=fun W=>zeE s W hs
 have HM:=fun W=>zeE m W hm
 cases hk:hasK p k
 ·have HS:Hid (zdS p k s m=(zbH,2)):=by
   show zdS p k s m=_
   unfold zdS
   rw[zdT (zg9 hk)]
   cases namB m<;>rfl
  rw[hk] at HH
  clear hk h hp
  go_enter Tryz.func48,Tryz.ntmps48
  go_wp2_with (go_at_call 34;refine(HH _ frc).mono ?_;rintro e w' ⟨rfl,rfl⟩)
  refine bodyPost_ret (v:=.tuple #[.agg #[.int .i64 0,.string ⟨#[]⟩],.iface 108 (.pointer (some ⟨w.heap.size+1,0,none⟩))]) (by simp[results,Tryz.results48,go_sem, *]) rfl ?_
  exact .mk HS.out rfl (.mk (by decide) bxc) frc ((h0.keep frc).mono (by omega))
 rw[hk] at HH
 cases hns:namB s
 ·have HS:Hid (zdS p k s m=(zbH,2)):=by
   show zdS p k s m=_
   unfold zdS
   rw[zdT (zg8 hp hns)]
   cases namB m<;>rfl
  rw[hns] at HN
  clear hk h hp hns
  go_enter Tryz.func48,Tryz.ntmps48
  go_wp2_with (first
   | (go_at_call 34;refine(HH _ frc).mono ?_;rintro e w' ⟨rfl,rfl⟩)
   | (go_at_call 77;refine(HN _).mono ?_;rintro e w' ⟨rfl,rfl⟩))
  refine bodyPost_ret (v:=.tuple #[.agg #[.int .i64 0,.string ⟨#[]⟩],.iface 108 (.pointer (some ⟨w.heap.size+1,0,none⟩))]) (by simp[results,Tryz.results48,go_sem, *]) rfl ?_
  exact .mk HS.out rfl (.mk (by decide) bxc) frc ((h0.keep frc).mono (by omega))
 rw[hns] at HN
 cases hnm:namB m
 ·have HS:Hid (zdS p k s m=(zbH,2)):=by
   show zdS p k s m=_
   unfold zdS
   rw[hnm]
   rfl
  rw[hnm] at HM
  clear hk h hp hns hnm
  go_enter Tryz.func48,Tryz.ntmps48
  go_wp2_with (first
   | (go_at_call 34;refine(HH _ frc).mono ?_;rintro e w' ⟨rfl,rfl⟩)
   | (go_at_call 77;(first|refine(HN _).mono ?_|refine(HM _).mono ?_);rintro e w' ⟨rfl,rfl⟩))
  refine bodyPost_ret (v:=.tuple #[.agg #[.int .i64 0,.string ⟨#[]⟩],.iface 108 (.pointer (some ⟨w.heap.size+1,0,none⟩))]) (by simp[results,Tryz.results48,go_sem, *]) rfl ?_
  exact .mk HS.out rfl (.mk (by decide) bxc) frc ((h0.keep frc).mono (by omega))
 rw[hnm] at HM
 have hV:zdS p k s m=zdR p k s:=by unfold zdS;rw[hnm];rfl
 rw[hV]
 have B0:Bx (w.alloc (.cells #[.int .i64 0,.string ⟨#[]⟩] 29)) w.heap.size 29 #[.int .i64 0,.string ⟨#[]⟩]:=bxc
 obtain⟨g,hLo,hg⟩:=h
 have HF:=fun W (hW:Fr No w W)=>find_ok l bl n p g k s W (hLo.keep hW) hs
 clear hV hk hns hnm
 by_cases hc:(zmD p k s).2=1
 ·obtain⟨kc,i,pre,hq,hh,_⟩:=zmH hp hc
  have h3:=zbM hp
  have hkl:=hh.2.1
  have wk:=zdW (show kc<4 by omega)
  have HC:=fun W (hW:Lg W l bl n p)=>zjo l bl n p ⟨(kc:Int),s⟩ W hW hs wk hn
  have hV:zdR p k s=if canB p ⟨kc,s⟩ then (⟨kc,s⟩,1) else (zbH,4):=by
   unfold zdR
   rw[if_pos hc,hq]
  rw[hq] at HF
  unfold refV at HF
  unfold zjn at HC
  replace hV:=Lib.hid hV
  generalize zdR p k s=V at *
  clear hc hq hh hp h3 hkl wk
  dsimp only at HF HC
  generalize canB p ⟨kc,s⟩=cb at *
  go_enter Tryz.func48,Tryz.ntmps48
  go_wp2_with (first
   | (go_at_call 34;refine(HH _ frc).mono ?_;rintro e w' ⟨rfl,rfl⟩)
   | (go_at_call 77;(first|refine(HN _).mono ?_|refine(HM _).mono ?_);rintro e w' ⟨rfl,rfl⟩)
   | (go_at_call 32;refine(HF _ frc).mono ?_;rintro e w1 ⟨rfl,hf1⟩;have q1:Fr No w w1:=frc;have B1:=B0.keep hf1;have l1:=B1.lt))
  refine zdP (fun W=>Bx W w.heap.size 29 #[.int .i64 0,.string ⟨#[]⟩]∧Bx W w1.heap.size 29 #[.int .i64 kc,.string s]∧Fr No w W) ⟨bxc,bxc,frc⟩ ?_
  rintro Wz ⟨hB,hR,hwz⟩
  refine(HC Wz (h0.keep hwz)).mono ?_
  rintro e w2 ⟨rfl,hf2,hL2⟩
  have hw2:Fr (fun b=>b=bl) w w2:=hwz.of0.same hf2
  obtain⟨z0,z1⟩:=(hB.keepX hf2 (by omega)).c2
  have zf:=fun j=>(hB.keepX hf2 (by omega)).frozen j
  have zl:=(hB.keepX hf2 (by omega)).lt
  obtain⟨y0,y1⟩:=(hR.keepX hf2 (by omega)).c2
  have yl:=(hR.keepX hf2 (by omega)).lt
  clear hf1 q1 B0 B1 HH HN HM HF HC hf2 hB hR hwz
  cases cb
  ·go_wp2
   refine bodyPost_ret (v:=.tuple #[.agg #[.int .i64 0,.string ⟨#[]⟩],.iface 108 (.pointer (some ⟨w2.heap.size,0,none⟩))]) (by simp[results,Tryz.results48,go_sem, *]) rfl ?_
   exact .mk hV.out rfl (.mk (by decide) bxc) frc (h0.over hL2 hw2 frx)
  ·go_wp2
   refine bodyPost_ret (v:=.tuple #[.agg #[.int .i64 kc,.string s],.nilIface]) (by simp[results,Tryz.results48,go_sem, *]) rfl ?_
   exact .mk hV.out rfl (.inl ⟨rfl,rfl⟩) frc (h0.over hL2 hw2 frx)
 ·have HS:Hid (zdR p k s=(zbH,2)):=by
   show zdR p k s=_
   unfold zdR
   rw[if_neg hc]
  unfold refV at HF
  have hc':((zmD p k s).2 != 1)=true:=by simpa using hc
  generalize zmD p k s=q at *
  obtain⟨⟨kc,nm⟩,c⟩:=q
  dsimp only at *
  clear hc
  go_enter Tryz.func48,Tryz.ntmps48
  go_wp2_with (first
   | (go_at_call 34;refine(HH _ frc).mono ?_;rintro e w' ⟨rfl,rfl⟩)
   | (go_at_call 77;(first|refine(HN _).mono ?_|refine(HM _).mono ?_);rintro e w' ⟨rfl,rfl⟩)
   | (go_at_call 32;refine(HF _ frc).mono ?_;rintro e w1 ⟨rfl,hf1⟩;have q1:Fr No w w1:=frc;have B1:=B0.keep hf1;have l1:=B1.lt;have ⟨z0,z1⟩:=B1.c2;have zf:=(fun j=>B1.frozen j)))
  refine bodyPost_ret (v:=.tuple #[.agg #[.int .i64 0,.string ⟨#[]⟩],.iface 108 (.pointer (some ⟨w1.heap.size+1,0,none⟩))]) (by simp[results,Tryz.results48,go_sem, *]) rfl ?_
  exact .mk HS.out rfl (.mk (by decide) bxc) frc ((h0.keep frc).mono (by omega))
theorem ErrV.nil {v:Value} {w:World} (h:ErrV 1 v w):v=.nilIface:=by
 rcases h with ⟨_,h⟩ | ⟨h,_⟩
 ·exact h
 ·exact absurd rfl h
theorem ErrV.some {c:Int} {v:Value} {w:World} (hc:¬c=1) (h:ErrV c v w):∃b,v=.iface 108 (.pointer (some ⟨b,0,none⟩))∧Bx w b 110 #[.int .i64 c]:=by
 rcases h with ⟨h,_⟩ | ⟨_,h⟩
 ·exact absurd h hc
 ·exact h
theorem zdY {p:Plan} {s:Str}:∀(rs:List Ref) {q:Ref} {i:Int},zho p s rs=some (q,i)->q∈rs∧∃a:Nat,i=a∧a<(zbG p q).methods.length
 | [],_,_,h=>by cases h
 | r :: rs,q,i,h=>by
  unfold zho at h
  by_cases hx:ixOf (zeU s) (zbG p r).methods<0
  ·rw[if_pos hx] at h
   obtain⟨h1,h2⟩:=zdY rs h
   exact⟨List.mem_cons_of_mem _ h1,h2⟩
  ·rw[if_neg hx] at h
   have hr:=zeS (zeU s) (zbG p r).methods
   cases h
   exact⟨List.mem_cons_self ..,(ixOf (zeU s) (zbG p r).methods).toNat,by omega,by omega⟩
theorem zdZ {p:Plan} (hp:lodB p=true) {r q:Ref} {s:Str} {i:Int} (h:zhp p r s=some (q,i)):q.name.size≤maxLen∧∃k ix a:Nat,Here p q k ix∧i=a∧a<(zbG p q).methods.length:=by
 unfold zhp at h
 split at h
 ·obtain⟨h1,a,h2,h3⟩:=zdY _ h
  obtain⟨h4,k,ix,h5⟩:=zhj hp r q h1
  exact⟨h4,k,ix,a,h5,h2,h3⟩
 ·cases h
theorem zd0 {p:Plan} (hp:lodB p=true) {k:Int} {s:Str} {r:Ref} (h:zdR p k s=(r,1)):∃kc i:Nat,r=⟨kc,s⟩∧Here p ⟨kc,s⟩ kc i∧canB p ⟨kc,s⟩=true∧zmD p k s=(⟨kc,s⟩,1):=by
 unfold zdR at h
 by_cases hc:(zmD p k s).2=1
 ·obtain⟨kc,i,pre,hq,hh,_⟩:=zmH hp hc
  rw[if_pos hc,hq] at h
  cases hcb:canB p ⟨kc,s⟩
  ·dsimp only at h
   rw[hcb] at h
   cases h
  ·dsimp only at h
   rw[hcb] at h
   cases h
   exact⟨kc,i,rfl,hh,hcb,hq⟩
 ·rw[if_neg hc] at h
  cases h
theorem zd1 {p:Plan} (hp:lodB p=true) {k:Int} {s m:Str} {r:Ref} (h:zdS p k s m=(r,1)):∃kc i:Nat,r=⟨kc,s⟩∧Here p ⟨kc,s⟩ kc i:=by
 unfold zdS at h
 split at h
 ·obtain⟨kc,i,h1,h2,_⟩:=zd0 hp h
  exact⟨kc,i,h1,h2⟩
 ·cases h
def zd2:Mth:=⟨⟨#[]⟩,[],⟨0,⟨#[]⟩⟩,0,0,[],[]⟩
def zd3 (p:Plan) (k:Int) (m:Str) (rc:Ref×Int):(Ref×Int)×Int:=
 if rc.2=1 then
  match zhp p rc.1 m with
  | none=>((zbH,0),3)
  | some (q,a)=>if zgM p k q.keeper ((zbG p q).methods.getD a.toNat zd2) then ((q,a),1) else ((zbH,0),4)
 else ((zbH,0),rc.2)
def zd4 (p:Plan) (k:Int) (s m:Str):(Ref×Int)×Int:=zd3 p k m (zdS p k s m)
def zu3 (p:Plan) (k:Int) (s m:Str):(Ref×Int)×Int:=if lodB p then zd4 p k s m else ((zbH,0),2)
def zd5 (q:(Ref×Int)×Int):Value:=.tuple #[.agg #[.int .i64 q.1.1.keeper,.string q.1.1.name,.int .i64 q.1.2],.int .i64 q.2]
def zd6 (q:(Ref×Int)×Int) (p:Plan) (l bl n:Nat) (w:World) (e:Ending) (w':World):Prop:=
 ∃ev,e=.returned (.tuple #[.agg #[.int .i64 q.1.1.keeper,.string q.1.1.name,.int .i64 q.1.2],ev])∧ErrV q.2 ev w'∧Fr (fun b=>b=bl) w w'∧Lg w' l bl (n+2) p
theorem zd6.mk {q:(Ref×Int)×Int} {p:Plan} {l bl n:Nat} {w w':World} {v ev:Value} {r:Ref} {i c:Int} (hq:q=((r,i),c)) (hv:v=.tuple #[.agg #[.int .i64 r.keeper,.string r.name,.int .i64 i],ev]) (he:ErrV c ev w') (hf:Fr (fun b=>b=bl) w w') (hl:Lg w' l bl (n+2) p):zd6 q p l bl n w (.returned v) w':=by
 subst hq;subst hv;exact⟨_,rfl,he,hf,hl⟩
theorem zd7 (l bl n:Nat) (p:Plan) (k:Int) (s m:Str) (w:World) (h:Lg w l bl n p) (hs:s.size≤maxLen) (hm:m.size≤maxLen) (hn:n<999999):
  Calls Tryz.prog 26 #[.pointer (some ⟨l,0,none⟩),.int .i64 k,.string s,.string m] w (zd6 (zd4 p k s m) p l bl n w):=by
 have hp:=h.ok
 have hlt:=h.lt
 have h0:=h
 have B0:Bx (w.alloc (.cells #[.int .i64 0,.string ⟨#[]⟩,.int .i64 0] 31)) w.heap.size 31 #[.int .i64 0,.string ⟨#[]⟩,.int .i64 0]:=bxc
 have HK:=fun W (hW:Fr No w W)=>zdX l bl n p k s m W (h.keep hW) hs hm (by omega)
 obtain⟨q,hq⟩:∃q,q=zdS p k s m:=⟨_,rfl⟩
 have hV:zd4 p k s m=zd3 p k m q:=by unfold zd4;rw[hq]
 rw[<-hq] at HK
 generalize zd4 p k s m=V at *
 obtain⟨⟨rk,rn⟩,c⟩:=q
 unfold zdU at HK
 dsimp only at HK
 clear h
 by_cases hc:c=1
 ·subst hc
  obtain⟨kc,i,hr,hh⟩:=zd1 hp hq.symm
  obtain⟨rfl,rfl⟩:=Ref.mk.inj hr
  have h3:=zbM hp
  have hkl:=hh.2.1
  have wk:=zdW (show kc<4 by omega)
  have HP:=fun W (hW:Lg W l bl (n+1) p)=>zjs l bl (n+1) p ⟨(kc:Int),rn⟩ m W hW hs hm wk (by omega)
  unfold zjr at HP
  clear hq hr hh h3 hkl wk
  unfold zd3 at hV
  dsimp only at hV
  rw[if_pos rfl] at hV
  cases ho:zhp p ⟨(kc:Int),rn⟩ m with
  | none=>
   rw[ho] at HP hV
   dsimp only at hV
   replace hV:=Lib.hid hV
   unfold zku at HP
   clear ho
   go_enter Tryz.func26,Tryz.ntmps26
   go_wp2_with (go_at_call 48;refine(HK _ frc).mono ?_;rintro e w1 ⟨ev,rfl,he,hf1,hL1⟩;obtain rfl:=he.nil;clear he)
   have hw1:Fr (fun b=>b=bl) w w1:=(show Fr No w (w.alloc (.cells #[.int .i64 0,.string ⟨#[]⟩,.int .i64 0] 31)) from frc).of0.same hf1
   have B1:=B0.keepX hf1 (by omega)
   have l1:=B1.lt
   clear HK B0
   go_wp2_with fail
   refine zdP (fun W=>Bx W w.heap.size 31 #[.int .i64 0,.string ⟨#[]⟩,.int .i64 0]∧Bx W w1.heap.size 29 #[.int .i64 kc,.string rn]∧Fr No w1 W) ⟨bxc,bxc,frc⟩ ?_
   rintro Wz ⟨hB,hR,hwz⟩
   refine(HP Wz (hL1.keep hwz)).mono ?_
   rintro e w2 ⟨rfl,hf2,hL2⟩
   have hw2:Fr (fun b=>b=bl) w w2:=(hw1.trans0 hwz).same hf2
   obtain⟨z0,z1,z2⟩:=(hB.keepX hf2 (by omega)).c3
   have zf:=fun j=>(hB.keepX hf2 (by omega)).frozen j
   have zl:=(hB.keepX hf2 (by omega)).lt
   clear hf1 B1 l1 hB hR hwz hf2 HP
   go_wp2
   refine bodyPost_ret (v:=.tuple #[.agg #[.int .i64 0,.string ⟨#[]⟩,.int .i64 0],.iface 108 (.pointer (some ⟨w2.heap.size+1,0,none⟩))]) (by simp[results,Tryz.results26,go_sem, *]) rfl ?_
   exact .mk hV.out rfl (.mk (by decide) bxc) frc (h0.over hL2 hw2 frx)
  | some qa=>
   obtain⟨⟨qk,qn⟩,a'⟩:=qa
   obtain⟨hqs,kq,ix,a,hh,rfl,ha⟩:=zdZ hp ho
   obtain rfl:qk=(kq:Int):=hh.1
   dsimp only at hqs
   rw[ho] at HP hV
   unfold zku at HP
   dsimp only at HP hV
   have hmt:(zbG p ⟨(kq:Int),qn⟩).methods.getD ((a:Int)).toNat zd2=(zbG p ⟨(kq:Int),qn⟩).methods[a]:=by simp[List.getD,lz8 ha]
   rw[hmt] at hV
   clear ho hmt
   have HMV:=fun W (g:Int->Str->Option Int) (hW:zgF W l bl (n+2) p g)=>zdQ hW hh hqs ha
   clear hh
   generalize(zbG p ⟨(kq:Int),qn⟩).methods[a]=mt at *
   clear ha
   replace hV:=Lib.hid hV
   go_enter Tryz.func26,Tryz.ntmps26
   go_wp2_with (go_at_call 48;refine(HK _ frc).mono ?_;rintro e w1 ⟨ev,rfl,he,hf1,hL1⟩;obtain rfl:=he.nil;clear he)
   have hw1:Fr (fun b=>b=bl) w w1:=(show Fr No w (w.alloc (.cells #[.int .i64 0,.string ⟨#[]⟩,.int .i64 0] 31)) from frc).of0.same hf1
   have B1:=B0.keepX hf1 (by omega)
   have l1:=B1.lt
   clear HK B0
   go_wp2_with fail
   refine zdP (fun W=>Bx W w.heap.size 31 #[.int .i64 0,.string ⟨#[]⟩,.int .i64 0]∧Bx W w1.heap.size 29 #[.int .i64 kc,.string rn]∧Fr No w1 W) ⟨bxc,bxc,frc⟩ ?_
   rintro Wz ⟨hB,hR,hwz⟩
   refine(HP Wz (hL1.keep hwz)).mono ?_
   rintro e w2 ⟨rfl,hf2,hL2⟩
   have hw2:Fr (fun b=>b=bl) w w2:=(hw1.trans0 hwz).same hf2
   have hB2:=hB.keepX hf2 (by omega)
   have l2:=hB2.lt
   clear hf1 B1 l1 hB hR hwz hf2 HP
   go_wp2_with fail
   refine zaE (fun W=>Bx W w.heap.size 31 #[.int .i64 0,.string ⟨#[]⟩,.int .i64 0]∧Bx W w2.heap.size 31 #[.int .i64 kq,.string qn,.int .i64 a]∧Fr No w2 W) ⟨bxc,bxc,frc⟩ ?_
   rintro wA ⟨hB,hR,hwz⟩
   obtain⟨g2,hLo2,hg2⟩:=hL2
   obtain⟨cs,hM,HMe⟩:=HMV wA g2 (hLo2.keep hwz)
   have HA:=fun W (hW:Fr No wA W)=>zgN _ l bl (n+2) p g2 k kq mt cs W ((hLo2.keep hwz).keep hW) (hM.keep hW zN)
   have K0:=hR.r3
   clear hM HMV hB2
   generalize zgM p k kq mt=ag at *
   refine zn0 9 48 [mV (.pointer (some ⟨l,0,none⟩)),mV (.int .i64 k),mV (.pointer (some ⟨w2.heap.size,0,none⟩)),mV (.pointer (some ⟨w2.heap.size,0,none⟩)),mV (.int .i64 kq),mV (.pointer (some ⟨l,0,none⟩)),mV (.agg #[.int .i64 kq,.string qn,.int .i64 a]),mV (.agg cs.toArray),mV (.bool ag)] (by kernel_rfl) (by kernel_rfl) (by simp) ?_ ?_
   ·refine hc4 ?_ ?_ ?_ ?_ <| hc4 ?_ ?_ ?_ ?_ <| hopC ?_ <| hopZ
    all_goals (intro a' W hW hoff hdep;have hbs:=hW.size;have H0:=hoff 0 rfl;have H1:=hoff 1 rfl;have H12:=hoff 12 rfl;refine nE rfl ?_)
    ·simp[execOp,Act.eval,H0,go_sem,zaa];exact fr1 rfl
    ·simp[execOp,Act.eval,H1,go_sem,zaa];exact fr1 rfl
    ·simp[execOp,Act.eval,H12,go_sem,zaa];exact fr1 rfl
    ·have D41:_=_:=hdep 2 41 rfl;simp[execOp,Act.eval,D41,go_sem,zaa];exact fr1 rfl
    ·have D42:_=_:=hdep 3 42 rfl;clear hoff hdep;simp[execOp,Act.eval,go_sem,zaa, *];exact fr1 rfl
    ·simp[execOp,Act.eval,H0,go_sem,zaa];exact fr1 rfl
    ·exact gx0
    ·have D44:_=_:=hdep 5 44 rfl;have D45:_=_:=hdep 6 45 rfl;simp[Act.eval,D44,D45,go_sem,zaa];exact(HMe _ hW).mono fun e w'' h=>⟨_,h.1,h.2,rfl⟩
    ·have D39:_=_:=hdep 0 39 rfl;have D40:_=_:=hdep 1 40 rfl;have D43:_=_:=hdep 4 43 rfl;have D46:_=_:=hdep 7 46 rfl;simp[Act.eval,D39,D40,D43,D46,go_sem,zaa];exact(HA _ hW).mono fun e w'' h=>⟨_,h.1,h.2,rfl⟩
   intro vs WR hWR hv hne
   simp only[lz6,List.drop_zero,znK,znR,Nat.zero_add,Nat.reduceAdd]
   simp only[Act.put,lz0,lz1,lz2]
   clear hv
   have hL3:Lg WR l bl (n+2) p:=⟨g2,(hLo2.keep hwz).keep hWR,hg2⟩
   have hw3:Fr (fun b=>b=bl) w WR:=(hw2.trans0 hwz).trans0 hWR
   have BZ:=hB.keep hWR
   have BR:=hR.keep hWR
   obtain⟨z0,z1,z2⟩:=BZ.c3
   have zf:=fun j=>BZ.frozen j
   have zl:=BZ.lt
   obtain⟨y0,y1,y2⟩:=BR.c3
   have yl:=BR.lt
   clear hB hR hwz K0 HA HMe hLo2 hg2
   cases ag
   ·go_wp2
    refine bodyPost_ret (v:=.tuple #[.agg #[.int .i64 0,.string ⟨#[]⟩,.int .i64 0],.iface 108 (.pointer (some ⟨WR.heap.size,0,none⟩))]) (by simp[results,Tryz.results26,go_sem, *]) rfl ?_
    exact .mk hV.out rfl (.mk (by decide) bxc) frc (h0.over hL3 hw3 frx)
   ·go_wp2
    refine bodyPost_ret (v:=.tuple #[.agg #[.int .i64 kq,.string qn,.int .i64 a],.nilIface]) (by simp[results,Tryz.results26,go_sem, *]) rfl ?_
    exact .mk hV.out rfl (.inl ⟨rfl,rfl⟩) frc (h0.over hL3 hw3 frx)
 ·unfold zd3 at hV
  dsimp only at hV
  rw[if_neg hc] at hV
  replace hV:=Lib.hid hV
  go_enter Tryz.func26,Tryz.ntmps26
  go_wp2_with (go_at_call 48;refine(HK _ frc).mono ?_;rintro e w1 ⟨ev,rfl,he,hf1,hL1⟩;obtain⟨eb,rfl,heb⟩:=he.some hc;clear he;have hw1:Fr (fun b=>b=bl) w w1:=(show Fr No w (w.alloc (.cells #[.int .i64 0,.string ⟨#[]⟩,.int .i64 0] 31)) from frc).of0.same hf1;have B1:=B0.keepX hf1 (by omega);have ⟨z0,z1,z2⟩:=B1.c3;have zf:=(fun j=>B1.frozen j);have zl:=B1.lt)
  have hne:eb≠w.heap.size:=by
   intro h9
   rw[h9] at heb
   unfold Bx at heb B1
   rw[heb] at B1
   simp at B1
  clear HK B0
  refine bodyPost_ret (v:=.tuple #[.agg #[.int .i64 0,.string ⟨#[]⟩,.int .i64 0],.iface 108 (.pointer (some ⟨eb,0,none⟩))]) (by simp[results,Tryz.results26,go_sem, *]) rfl ?_
  exact .mk hV.out rfl (.inr ⟨hc,eb,rfl,bxc⟩) frc ((h0.over hL1 hw1 frx).mono (by omega))
end Go.Proofs.YtbfmeklfpackjaaGreatDoor
