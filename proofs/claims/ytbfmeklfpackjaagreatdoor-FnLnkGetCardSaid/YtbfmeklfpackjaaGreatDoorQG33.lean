/- The reference: whether two keepers mean the same by a kind, by a method; whether two methods take and give back the same kinds. -/
import Derived.Test.YtbfmeklfpackjaaGreatDoorQG32
set_option maxHeartbeats 8000000
set_option maxRecDepth 100000
namespace Go.Proofs.YtbfmeklfpackjaaGreatDoor
open Go.RowKit
theorem zko (X:Nat->Prop) (p:Plan) (v:Value) (a b:Nat) (k:Knd) (w:World) (hp:lodB p=true) (h:Sl X w 2 (KprC X w) v p.keepers) (ha:a<p.keepers.length) (hb:b<p.keepers.length) (hs:k.name.size≤maxLen):
  Calls Tryz.prog 66 #[.agg #[v],.int .i64 a,.int .i64 b,.agg #[.int .i64 k.kind,.string k.name]] w (zgm (zmJ p a b k) w):=by
 obtain⟨A,cap,rfl,hcap,hlen⟩:=h.form
 have hkw:=fun W (hW:Fr No w W)=>h.keep (R':=KprC X W) hW zN (fun _ _ _ h=>h.keep hW zN)
 have HA:=fun W (hW:Fr No w W)=>za6 X p _ a k.name W hp (hkw W hW) ha hs
 have HB:=fun W (hW:Fr No w W)=>za6 X p _ b k.name W hp (hkw W hW) hb hs
 obtain⟨V,hV⟩:∃V,V=zmJ p a b k:=⟨_,rfl⟩
 rw[<-hV]
 have hself:=@zha p a k
 by_cases hab:a=b
 ·subst hab
  rw[hself] at hV
  clear HA HB h hkw hself
  replace hV:=Lib.hid hV
  by_cases hk:k.kind=1
  all_goals
   try have hk':(k.kind == 1)=false:=by simpa using hk
   obtain⟨kd,kn⟩:=k
   dsimp only at *
   try subst hk
   go_enter Tryz.func66,Tryz.ntmps66
   go_wp2
   go_ret
   exact .mk hV.out.symm (by exact frc)
 ·have hab':((a:Int) == (b:Int))=false:=by simp;omega
  have hab2:¬((a:Int)=(b:Int)):=by omega
  unfold zmJ at hV
  obtain⟨kd,kn⟩:=k
  dsimp only at *
  clear hself
  by_cases hk:kd=1
  ·subst hk
   rw[if_pos rfl] at hV
   replace hV:=Lib.hid hV
   clear HA HB h hkw
   go_enter Tryz.func66,Tryz.ntmps66
   go_wp2
   go_ret
   exact .mk hV.out.symm (by exact frc)
  ·rw[if_neg hk] at hV
   have hk':(kd == 1)=false:=by simpa using hk
   have hx:(zmD p a kn).2=1->(zmD p b kn).2=1->(zmD p a kn).1.name=(zmD p b kn).1.name:=fun h1 h2=>by
    obtain⟨k1,i1,_,e1,_⟩:=zmH hp h1
    obtain⟨k2,i2,_,e2,_⟩:=zmH hp h2
    rw[e1,e2]
   unfold refV at HA HB
   generalize zmD p a kn=qa at *
   generalize zmD p b kn=qb at *
   obtain⟨⟨ka,na⟩,ca⟩:=qa
   obtain⟨⟨kb,nb⟩,cb⟩:=qb
   dsimp only at *
   have hcase:(ca=1∧cb=1∧ka=kb)∨(ca=1∧cb=1∧(ka == kb)=false)∨(ca=1∧(cb != 1)=true)∨((ca != 1)=true∧cb=1)∨((ca != 1)=true∧(cb != 1)=true):=by
    by_cases h1:ca=1<;>by_cases h2:cb=1<;>by_cases h3:ka=kb<;>simp[h1,h2,h3]
   clear hk h hkw hab
   replace hV:=Lib.hid hV
   rcases hcase with ⟨rfl,rfl,rfl⟩ | ⟨rfl,rfl,hkk⟩ | ⟨rfl,hc2⟩ | ⟨hc1,rfl⟩ | ⟨hc1,hc2⟩
   all_goals
    have hE:Hid (V=_):=hV
    try obtain rfl:na=nb:=hx rfl rfl
    try have hkk':(kb == ka)=false:=beq_eq_false_iff_ne.2 (Ne.symm (beq_eq_false_iff_ne.1 hkk))
    clear hx
    try have hc1':(ca == 1)=false:=by simpa using hc1
    try have hc2':(cb == 1)=false:=by simpa using hc2
    go_enter Tryz.func66,Tryz.ntmps66
    go_wp2_with fail
    refine(HA _ ?_).mono ?_
    ·exact frc
    rintro e w1 ⟨rfl,hf1⟩
    have hP1:=((Bx.new w 25 #[.slice A p.keepers.length cap]).alloc (.cells #[.int .i64 kd,.string kn] 45)).keep hf1
    have hK1:=(show Bx ((w.alloc (.cells #[.slice A p.keepers.length cap] 25)).alloc (.cells #[.int .i64 kd,.string kn] 45)) (w.heap.size+1) 45 #[.int .i64 kd,.string kn] from Bx.new_ (by simp)).keep hf1
    have p0:=hP1.c1
    obtain⟨a0,a1⟩:=hK1.c2
    have la:=hK1.lt
    have lp:=hP1.lt
    go_wp2_with fail
    refine(HB _ ?_).mono ?_
    ·exact frc
    rintro e w2 ⟨rfl,hf2⟩
    have hR1:=(Bx.new w1 29 #[.int .i64 ka,.string na]).keep hf2
    obtain⟨b0,b1⟩:=hR1.c2
    have lb:=hR1.lt
    clear a0 a1 la p0 lp
    go_wp2
    go_ret
    refine .mk ?_ (by exact frc)
    rw[hE.out]
    simp_all
theorem zkp (X Y:Nat->Prop) (p:Plan) (v:Value) (a b:Nat) (m:Mth) (cs:List Value) (w:World) (hp:lodB p=true) (h:Sl X w 2 (KprC X w) v p.keepers) (ha:a<p.keepers.length) (hb:b<p.keepers.length) (hm:MthC Y w cs m):
  Calls Tryz.prog 56 #[.agg #[v],.int .i64 a,.int .i64 b,.agg cs.toArray] w (zgm (zgM p a b m) w):=by
 obtain⟨va,vc,vm,rfl,hn,hrn,har,hvc,hvm⟩:=hm
 obtain⟨B,capb,rfl,hcapb,hlenb⟩:=har.form
 obtain⟨Ac,cc,rfl,_,_⟩:=hvc.form
 obtain⟨Am,cm,rfl,_,_⟩:=hvm.form
 clear hvc hvm
 obtain⟨A,cap,rfl,hcap,hlen⟩:=h.form
 unfold maxLen at hlenb
 have hkw:=fun W (hW:Fr No w W)=>h.keep (R':=KprC X W) hW zN (fun _ _ _ h=>h.keep hW zN)
 have HR:=fun W (hW:Fr No w W)=>zko X p _ a b m.ret W hp (hkw W hW) ha hb hrn
 obtain⟨hB,hM,hw0⟩:=Bx.two w 25 #[.slice A p.keepers.length cap] 49 #[.string m.name,.slice B m.args.length capb,.int .i64 m.ret.kind,.string m.ret.name,.int .i64 m.locals,.int .i64 m.stack,.slice Ac m.code.length cc,.slice Am m.maps.length cm]
 go_enter Tryz.func56,Tryz.ntmps56
 go_wp2
 go_loopw [9,8] (fun i r wr=>∃k:Nat,k≤m.args.length∧i=.int .i64 k∧r=.bool false∧Hid (m.args.all (zmJ p a b)=(m.args.drop k).all (zmJ p a b)) ∧
  Bx wr w.heap.size 25 #[.slice A p.keepers.length cap] ∧
  Bx wr (w.heap.size+1) 49 #[.string m.name,.slice B m.args.length capb,.int .i64 m.ret.kind,.string m.ret.name,.int .i64 m.locals,.int .i64 m.stack,.slice Ac m.code.length cc,.slice Am m.maps.length cm]∧Fr No w wr) (fun i _ _=>m.args.length-(intOf i).toNat)
 case atStart=>exact⟨0,Nat.zero_le _,rfl,rfl,rfl,hB,hM,hw0⟩
 case round=>
  clear hB hM hw0
  obtain⟨k,hk,rfl,rfl,hd,hB,hM,hw⟩:=hrel
  have p0:=hB.c1
  obtain⟨b0,b1,b2,b3,b4,b5,b6,b7⟩:=hM.c8
  have hBl:=hB.lt
  have hMl:=hM.lt
  by_cases hlt:k<m.args.length
  ·obtain⟨b9,off,rfl,hX,c0,c1,hs⟩:=(har.k0 hw).knd hlt
   have hbl:=lt_of_cell c0
   have H:=fun W (hW:Fr No wr W)=>zko X p _ a b m.args[k] W hp (hkw W (hw.trans0 hW)) ha hb hs
   clear har HR hkw h
   rw[List.drop_eq_getElem_cons hlt,List.all_cons] at hd
   have hd:=Lib.hid hd
   generalize m.args[k]=x at *
   have e0:=fun W (h:Fr No wr W)=>(hB.keep h).c1
   have e1:=fun W (h:Fr No wr W)=>(hM.keep h).c8.2.1
   have q0:=kp c0
   have q1:=kp c1
   go_wp2_with fail
   (refine zgc (X:=No) (by kernel_rfl) (by kernel_rfl) ?_)
   clear p0 b0 b1 b2 b3 b4 b5 b6 b7 c0 c1
   cases hx:zmJ p a b x
   ·rw[hx] at H
    have HS:Hid (zgM p a b m=false):=by show zgM p a b m=false;unfold zgM;rw[hd.out.out,hx];rfl
    clear hx hd
    (repeat((first|go_big_quiet_skip|(go_big_quiet_want;(apply Exists.intro;refine⟨fun W hW=>?_,?_⟩);(focus (first|exact fqc|(go_simp;first|(go_at_call 66;exact(H W hW).mono (fun _ _ h=>zgm.toFr h hW)))));go_big_quiet_on));(try simp only[Act.put,lz0,lz1,lz2])));refine wpQuiet_nil ?_
    intro w1 hf1
    clear e0 e1 q0 q1 H
    go_wp2
    go_ret;exact .mk (by rw[HS.out]) (by exact frc)
   ·rw[hx] at H
    have HS:Hid (m.args.all (zmJ p a b)=(m.args.drop (k+1)).all (zmJ p a b)):=hd.out.out.trans (by rw[hx,Bool.true_and])
    clear hx hd
    (repeat((first|go_big_quiet_skip|(go_big_quiet_want;(apply Exists.intro;refine⟨fun W hW=>?_,?_⟩);(focus (first|exact fqc|(go_simp;first|(go_at_call 66;exact(H W hW).mono (fun _ _ h=>zgm.toFr h hW)))));go_big_quiet_on));(try simp only[Act.put,lz0,lz1,lz2])));refine wpQuiet_nil ?_
    intro w1 hf1
    clear e0 e1 q0 q1 H
    go_wp2
    go_roundw
    case rel=>exact⟨k+1,by omega,by go_num,rfl,HS,hB.keep hf1,hM.keep hf1,by exact frc⟩
    case measure=>simp[intOf];omega
  ·have HS:Hid (zgM p a b m=zmJ p a b m.ret):=by
    show zgM p a b m=_
    unfold zgM
    rw[hd.out,List.drop_eq_nil_of_le (by omega)];rfl
   clear har hd h hkw
   go_wp2_with (go_at_call 66;refine(HR _ (by exact frc)).mono ?_;rintro e w2 ⟨rfl,hf2⟩)
   go_ret
   exact .mk (by rw[HS.out]) (by exact frc)
def zkq (a b:Mth):Bool:=kEq a.ret b.ret&&ksEq a.args b.args
theorem zkr (X Y:Nat->Prop) (a b:Mth) (cs ds:List Value) (w:World) (ha:MthC X w cs a) (hb:MthC Y w ds b):
  Calls Tryz.prog 124 #[.agg cs.toArray,.agg ds.toArray] w (zgm (zkq a b) w):=by
 obtain⟨va,vc,vm,rfl,hn,hrn,har,hvc,hvm⟩:=ha
 obtain⟨ua,uc,um,rfl,gn,grn,gar,guc,gum⟩:=hb
 obtain⟨A,cap,rfl,hcap,hlen⟩:=har.form
 obtain⟨B,cap2,rfl,hcap2,hlen2⟩:=gar.form
 clear hvc hvm guc gum
 unfold maxLen at hlen hlen2
 obtain⟨hA,hB,hw0⟩:=Bx.two w 49 #[.string a.name,.slice A a.args.length cap,.int .i64 a.ret.kind,.string a.ret.name,.int .i64 a.locals,.int .i64 a.stack,vc,vm] 49 #[.string b.name,.slice B b.args.length cap2,.int .i64 b.ret.kind,.string b.ret.name,.int .i64 b.locals,.int .i64 b.stack,uc,um]
 by_cases hll:a.args.length=b.args.length
 ·have hd0:((a.args.length:Int) != (b.args.length:Int))=false:=by simp;omega
  have hcase:((a.ret.kind == b.ret.kind)=true∧(a.ret.name.toList == b.ret.name.toList)=true)∨((a.ret.kind == b.ret.kind)=false)∨((a.ret.kind == b.ret.kind)=true∧(a.ret.name.toList == b.ret.name.toList)=false):=by
   cases(a.ret.kind == b.ret.kind)<;>cases(a.ret.name.toList == b.ret.name.toList)<;>simp
  rcases hcase with ⟨g1,g2⟩|g1 | ⟨g1,g2⟩
  ·have HS0:Hid (zkq a b=ksEq a.args b.args):=by show zkq a b=_;unfold zkq kEq;rw[g1,g2];rfl
   have g3:(a.ret.kind != b.ret.kind)=false:=by rw[bne,g1];rfl
   have g4:(a.ret.name.toList != b.ret.name.toList)=false:=by rw[bne,g2];rfl
   replace hll:=Lib.hid hll
   go_enter Tryz.func124,Tryz.ntmps124
   go_wp2
   clear g1 g2 g3 g4
   go_loopw [5,4] (fun i r wr=>∃k:Nat,k≤a.args.length∧i=.int .i64 k∧r=.bool false∧Hid (ksEq a.args b.args=ksEq (a.args.drop k) (b.args.drop k)) ∧
    Bx wr w.heap.size 49 #[.string a.name,.slice A a.args.length cap,.int .i64 a.ret.kind,.string a.ret.name,.int .i64 a.locals,.int .i64 a.stack,vc,vm] ∧
    Bx wr (w.heap.size+1) 49 #[.string b.name,.slice B b.args.length cap2,.int .i64 b.ret.kind,.string b.ret.name,.int .i64 b.locals,.int .i64 b.stack,uc,um]∧Fr No w wr) (fun i _ _=>a.args.length-(intOf i).toNat)
   case atStart=>exact⟨0,Nat.zero_le _,rfl,rfl,rfl,hA,hB,hw0⟩
   case round=>
    clear hA hB hw0
    obtain⟨k,hk,rfl,rfl,hd,hA,hB,hw⟩:=hrel
    obtain⟨a0,a1,a2,a3,a4,a5,a6,a7⟩:=hA.c8
    obtain⟨b0,b1,b2,b3,b4,b5,b6,b7⟩:=hB.c8
    have hAl:=hA.lt
    have hBl:=hB.lt
    by_cases hlt:k<a.args.length
    ·have hlt2:k<b.args.length:=by have:=hll.out;omega
     obtain⟨b9,off,rfl,hX,c0,c1,_⟩:=(har.k0 hw).knd hlt
     obtain⟨b8,off2,rfl,hX2,d0,d1,_⟩:=(gar.k0 hw).knd hlt2
     rw[List.drop_eq_getElem_cons hlt,List.drop_eq_getElem_cons hlt2,ksEq] at hd
     have hd:=Lib.hid hd
     clear har gar
     generalize a.args[k]=x at *
     generalize b.args[k]=y at *
     have e1:=fun W (h:Fr No wr W)=>(hA.keep h).c8.2.1
     have e2:=fun W (h:Fr No wr W)=>(hB.keep h).c8.2.1
     have q0:=kp c0
     have q1:=kp c1
     have p0:=kp d0
     have p1:=kp d1
     have hcase:((x.kind == y.kind)=true∧(x.name.toList == y.name.toList)=true)∨((x.kind == y.kind)=false)∨((x.kind == y.kind)=true∧(x.name.toList == y.name.toList)=false):=by
      cases(x.kind == y.kind)<;>cases(x.name.toList == y.name.toList)<;>simp
     go_wp2_with fail
     (refine zgc (X:=No) (by kernel_rfl) (by kernel_rfl) ?_)
     clear a0 a1 a2 a3 a4 a5 a6 a7 b0 b1 b2 b3 b4 b5 b6 b7 c0 c1 d0 d1
     rcases hcase with ⟨g1,g2⟩|g1 | ⟨g1,g2⟩
     ·have HS:Hid (ksEq a.args b.args=ksEq (a.args.drop (k+1)) (b.args.drop (k+1))):=by
       have:=hd.out.out;unfold kEq at this;rwa [g1,g2,Bool.true_and,Bool.true_and] at this
      have g3:(x.kind != y.kind)=false:=by rw[bne,g1];rfl
      have g4:(x.name.toList != y.name.toList)=false:=by rw[bne,g2];rfl
      (repeat((first|go_big_quiet_skip|(go_big_quiet_want;(apply Exists.intro;refine⟨fun W hW=>?_,?_⟩);(focus (exact fqc));go_big_quiet_on));(try simp only[Act.put,lz0,lz1,lz2])));refine wpQuiet_nil ?_
      intro w1 hf1
      clear q0 q1 p0 p1 e1 e2
      go_wp2
      go_roundw
      case rel=>exact⟨k+1,by omega,by go_num,rfl,HS,hA.keep hf1,hB.keep hf1,by exact frc⟩
      case measure=>simp[intOf];omega
     all_goals
      have HS:Hid (zkq a b=false):=by
       have:=hd.out.out;unfold kEq at this
       show zkq a b=false
       rw[HS0.out]
       first
        | (rw[g1,g2] at this;simpa using this)
        | (rw[g1] at this;simpa using this)
      (repeat((first|go_big_quiet_skip|(go_big_quiet_want;(apply Exists.intro;refine⟨fun W hW=>?_,?_⟩);(focus (exact fqc));go_big_quiet_on));(try simp only[Act.put,lz0,lz1,lz2])));refine wpQuiet_nil ?_
      intro w1 hf1
      clear q0 q1 p0 p1 e1 e2
      go_wp2
      go_ret
      exact .mk HS.out.symm (by exact frc)
    ·have HS:Hid (zkq a b=true):=by
      have:=hd.out
      rw[List.drop_eq_nil_of_le (by omega),List.drop_eq_nil_of_le (by have:=hll.out;omega)] at this
      exact HS0.out.trans this
     clear har gar hd
     go_wp2
     go_ret
     exact .mk HS.out.symm (by exact frc)
  all_goals
   have HS:Hid (zkq a b=false):=by show zkq a b=false;unfold zkq kEq;first|(rw[g1,g2];rfl)|(rw[g1];rfl)
   clear har gar
   replace hll:=Lib.hid hll
   go_enter Tryz.func124,Tryz.ntmps124
   go_wp2
   go_ret
   exact .mk HS.out.symm (by exact frc)
 ·have HS:Hid (zkq a b=false):=by show zkq a b=false;unfold zkq;rw[zgU hll];simp
  have hd0:((a.args.length:Int) != (b.args.length:Int))=true:=by simp;omega
  clear har gar
  replace hll:=Lib.hid hll
  go_enter Tryz.func124,Tryz.ntmps124
  go_wp2
  go_ret
  exact .mk HS.out.symm (by exact frc)
theorem zks (X Y:Nat->Prop) (p:Plan) (v u:Value) (r0:Ref) (rs:List Ref) (w:World) (hp:lodB p=true) (h:Sl X w 2 (KprC X w) v p.keepers) (hu:Sl Y w 2 RefC u (r0 :: rs)) (hall:zhb p (r0 :: rs)):
  Calls Tryz.prog 108 #[.agg #[v],u] w (zgm (rs.all (zhm p r0)) w):=by
 obtain⟨A,cap,rfl,hcap,hlen⟩:=h.form
 obtain⟨B,cap2,rfl,hcap2,hlen2⟩:=hu.form
 unfold maxLen at hlen2
 have hrl:rs.length+1≤2 ^ 63-1:=hlen2
 have hkw:=fun W (hW:Fr No w W)=>h.keep (R':=KprC X W) hW zN (fun _ _ _ h=>h.keep hW zN)
 obtain⟨hs0,k0,i0,hh0⟩:=hall r0 (by simp)
 obtain⟨rk,s0⟩:=r0
 obtain rfl:rk=(k0:Int):=hh0.1
 have hk0:=hh0.2.1
 obtain⟨Afc,cfc,Amc,cmc,hRc,HC⟩:=zaU X p _ k0 s0 i0 w h hh0 hs0
 obtain⟨cb,coff,rfl,hXc,g0,g1,_⟩:=hu.ref (k:=0) (by simp)
 simp only[List.getElem_cons_zero,Nat.zero_mul,Nat.add_zero] at g0 g1
 have hcbl:=lt_of_cell g0
 have hB:Bx (w.alloc (.cells #[.slice A p.keepers.length cap] 25)) w.heap.size 25 #[.slice A p.keepers.length cap]:=Bx.new_ rfl
 have hwA:Fr No w (w.alloc (.cells #[.slice A p.keepers.length cap] 25)):=(Fr.refl No w).alloc _
 generalize hc:zbG p ⟨k0,s0⟩=c at *
 have hn1:((rs.length+1:Nat):Int)=(rs.length:Int)+1:=by omega
 go_enter Tryz.func108,Tryz.ntmps108
 go_wp2_with fail
 generalize(w.alloc (.cells #[.slice A p.keepers.length cap] 25))=wA at *
 have b0:=hB.c1
 have g0':=hwA.keep0 g0
 have g1':=hwA.keep0 g1
 have lb:=hB.lt
 have lg:=lt_of_cell g0'
 refine zaD (ξ:=Nat) (fun a x a' W=>a'=((((((a.put (some 11) (.agg #[.slice A p.keepers.length cap])).put (some 12) (.slice (some ⟨cb,coff,none⟩) (rs.length+1) cap2)).put (some 13) (.pointer (some ⟨cb,coff,none⟩))).put (some 14) (.agg #[.int .i64 k0,.string s0])).put (some 15) (.agg #[.string c.name,.string c.super,.slice Afc c.fields.length cfc,.slice Amc c.methods.length cmc])).put (some 5) (.pointer (some ⟨x,0,none⟩))) ∧
   Bx W x 41 #[.string c.name,.string c.super,.slice Afc c.fields.length cfc,.slice Amc c.methods.length cmc]∧Fr No wA W∧w.heap.size<x) ?_ ?_
 ·go_region_held3 (fun W=>W.cell? ⟨w.heap.size,0,none⟩=some (.slice A p.keepers.length cap)∧W.cell? ⟨cb,coff,none⟩=some (.int .i64 k0)∧W.cell? ⟨cb,coff+1,none⟩=some (.string s0)) (go_keep)
   (first|(go_at_call 87;refine(HC _ (hwA.trans0 (by exact frc))).mono ?_;rintro e w1 ⟨rfl,hf1⟩;have hq1:Fr No wA w1:=((by exact frc):Fr No wA _).trans0 hf1;have b0':=hq1.keep0 b0;have g0'':=hq1.keep0 g0';have g1'':=hq1.keep0 g1';(try(have hz1:Bx w1 wA.heap.size 41 #[.string ⟨#[]⟩,.string ⟨#[]⟩,.slice none 0 0,.slice none 0 0]:=Bx.keep (Bx.drew (Bx.new_ rfl)) hf1;obtain⟨z0,z1,z2,z3⟩:=hz1.c4;have zf:=(fun j=>hz1.frozen j);have zl:=hz1.lt;have n1:¬(w.heap.size=wA.heap.size):=(by omega);have n2:¬(wA.heap.size=w.heap.size):=(by omega);have n3:¬(cb=wA.heap.size):=(by omega);have n4:¬(wA.heap.size=cb):=(by omega)))))
  all_goals refine⟨rfl,_,rfl,?_,?_,?_⟩
  ·with_reducible exact Bx.new_ rfl
  ·exact frc
  ·have:=hq1.size;omega
  ·with_reducible exact Bx.fill4 hz1
  ·exact frc
  ·omega
 ·rintro b5 a' W5 ⟨rfl,hb5,hf5,hl5⟩
  simp only[Act.put,lz0,lz1,lz2]
  have hB5:=hB.keep hf5
  have hw5:Fr No w W5:=hwA.trans0 hf5
  have hb5l:=hb5.lt
  clear b0 g0' g1' lb lg hB hwA hf5 HC
  clear wA
  obtain⟨vfc,vmc,he,hz0c,hz1c,hfc,hmc⟩:=hRc
  simp only[List.cons.injEq,true_and,and_true] at he
  obtain⟨rfl,rfl⟩:=he
  have hd0:Hid (rs.all (zhm p ⟨k0,s0⟩)=(rs.drop (1-1)).all (zhm p ⟨k0,s0⟩)):=rfl
  go_wp2
  go_loopw [6,4] (fun i r wr=>∃k:Nat,1≤k∧k≤rs.length+1∧i=.int .i64 k∧r=.bool false∧Hid (rs.all (zhm p ⟨k0,s0⟩)=(rs.drop (k-1)).all (zhm p ⟨k0,s0⟩)) ∧
   Bx wr w.heap.size 25 #[.slice A p.keepers.length cap]∧Bx wr b5 41 #[.string c.name,.string c.super,.slice Afc c.fields.length cfc,.slice Amc c.methods.length cmc]∧Fr No w wr) (fun i _ _=>rs.length+1-(intOf i).toNat)
  case atStart=>exact⟨1,by omega,by omega,rfl,rfl,hd0,hB5,hb5,hw5⟩
  case round=>
   clear hB5 hb5 hw5 hd0 hb5l
   clear W5
   obtain⟨k,hk1,hk,rfl,rfl,hd,hB,hb5,hw⟩:=hrel
   have b0:=hB.c1
   have lb:=hB.lt
   obtain⟨d0,d1,d2,d3⟩:=hb5.c4
   have l5:=hb5.lt
   have g0':=hw.keep0 g0
   have g1':=hw.keep0 g1
   have lg:=lt_of_cell g0'
   by_cases hlt:k<rs.length+1
   ·have hkl:k<(({ keeper:=(k0:Int),name:=s0 }:Ref) :: rs).length:=by simp;omega
    obtain⟨cb',coff',he,_,f0,f1,hsr⟩:=(hu.k0 hw).ref hkl
    simp only[Option.some.injEq,Addr.mk.injEq,and_true] at he
    obtain⟨rfl,rfl⟩:=he
    obtain⟨hleft,kr,ir,hhr⟩:=hall _ (List.getElem_mem hkl)
    clear hleft
    have hrs:((({ keeper:=(k0:Int),name:=s0 }:Ref) :: rs)[k]'hkl)=rs[k-1]'(by omega):=by
     obtain⟨k',rfl⟩:∃k',k=k'+1:=⟨k-1,by omega⟩
     rfl
    rw[hrs] at f0 f1 hsr hhr
    rw[List.drop_eq_getElem_cons (show k-1<rs.length by omega),List.all_cons,show k-1+1=k by omega] at hd
    have hd:=Lib.hid hd
    clear hrs
    generalize rs[k-1]'(by omega)=r at *
    obtain⟨rk,s1⟩:=r
    obtain rfl:rk=(kr:Int):=hhr.1
    dsimp only at f0 f1 hsr
    obtain⟨Afu,cfu,Amu,cmu,hRu,HCu⟩:=zaU X p _ kr s1 ir wr (hkw wr hw) hhr hsr
    have hpair:zhm p ⟨k0,s0⟩ ⟨kr,s1⟩=(c.fields.all (fun f=>decide (ixOf (zeT f.name) (zbG p ⟨kr,s1⟩).fields<0))&&c.methods.all (zhl p k0 kr (zbG p ⟨kr,s1⟩))):=by unfold zhm;rw[hc]
    have hkr:=hhr.2.1
    generalize hcu:zbG p ⟨kr,s1⟩=u at *
    clear hcu
    have hpair:=Lib.hid hpair
    clear hhr hkl
    have hdt:decide ((k:Int)<(rs.length:Int)+1)=true:=by simp;omega
    go_wp2_with fail
    try simp only[hdt]
    refine zn0 7 28 [mV (.agg #[.slice A p.keepers.length cap]),mV (.slice (some ⟨cb,coff,none⟩) (rs.length+1) cap2),mV (.int .i64 k),mV (.pointer (some ⟨cb,coff+k * 2,none⟩)),mV (.agg #[.int .i64 kr,.string s1]),mV (.agg #[.string u.name,.string u.super,.slice Afu u.fields.length cfu,.slice Amu u.methods.length cmu]),mB 41 (#[.string ⟨#[]⟩,.string ⟨#[]⟩,.slice none 0 0,.slice none 0 0]) wr.heap.size] (by kernel_rfl) (by kernel_rfl) (by simp) ?_ ?_
    ·refine hc4 ?_ ?_ ?_ ?_ <| hopC ?_ <| hopC ?_ <| hopC ?_ <| hopZ
     all_goals (intro a' W hW hoff hdep;have hbs:=hW.size;have B0:=cr b0;have F0:=cr f0;have F1:=cr f1;have H2:=hoff 2 rfl;have H1:=hoff 1 rfl;have H6:=hoff 6 rfl;refine nE rfl ?_)
     ·exact gx0
     ·simp[execOp,Act.eval,H1,go_sem,zaa];exact fr1 rfl
     ·simp[execOp,Act.eval,H6,go_sem,zaa];exact fr1 rfl
     ·have D23:_=_:=hdep 1 23 rfl;have D24:_=_:=hdep 2 24 rfl;clear hoff hdep;simp[execOp,Act.eval,go_sem,zaa,↓IntWalk.iteOmega, *];exact fr1 rfl
     ·have D25:_=_:=hdep 3 25 rfl;clear hoff hdep;simp[execOp,Act.eval,go_sem,zaa, *];exact fr1 rfl
     ·have D22:_=_:=hdep 0 22 rfl;have D26:_=_:=hdep 4 26 rfl;simp[Act.eval,D22,D26,go_sem,zaa];exact(HCu _ hW).mono fun e w' h=>⟨_,h.1,h.2,rfl⟩
     ·simp[execOp,go_sem,zaa];exact⟨(Fr.refl _ _).alloc _,⟨_,rfl,Bx.new_ rfl,hbs⟩,Nat.le_refl _⟩
    intro vs WR hfr hv hne
    obtain⟨b6,e6,hb6,hl6⟩:=hv 6 (by omega)
    simp only[lz6,List.drop_zero,znP,znK,znR,Nat.zero_add,Nat.reduceAdd,e6]
    simp only[Act.put,lz0,lz1,lz2]
    clear e6 hv
    clear hne
    obtain⟨z0,z1,z2,z3⟩:=hb6.c4
    have zf:=fun j=>hb6.frozen j
    have zl:=hb6.lt
    have B0R:=hB.keep hfr
    have B5R:=hb5.keep hfr
    have hrl0:=hB.lt
    have hrl5:=hb5.lt
    have hsw0:=hw.size
    go_wp2_with fail
    refine zaE (fun W=>Bx W b6 41 #[.string u.name,.string u.super,.slice Afu u.fields.length cfu,.slice Amu u.methods.length cmu]∧Fr No wr W) ⟨Bx.fillZ hb6,frc⟩ ?_
    rintro W7 ⟨hb7,hf7⟩
    clear z0 z1 z2 z3 zf zl B0R B5R hrl0 hrl5 hsw0 hl6 hb6 hfr
    ·skip
     replace hB:=hB.keep hf7
     replace hb5:=hb5.keep hf7
     have hw7:Fr No w W7:=hw.trans0 hf7
     replace g0':=hf7.keep0 g0'
     replace g1':=hf7.keep0 g1'
     replace f0:=hf7.keep0 f0
     replace f1:=hf7.keep0 f1
     obtain⟨vfu,vmu,he,hz0u,hz1u,hfu,hmu⟩:=hRu
     simp only[List.cons.injEq,true_and,and_true] at he
     obtain⟨rfl,rfl⟩:=he
     replace hfu:=hfu.k0 hf7
     replace hmu:=hmu.keep hf7 zN (fun _ _ _ h=>h.keep hf7 zN)
     have hfc7:=hfc.k0 hw7
     have hmc7:=hmc.keep hw7 zN (fun _ _ _ h=>h.keep hw7 zN)
     replace hkw:=fun W (hW:Fr No W7 W)=>hkw W (hw7.trans0 hW)
     have hlens:c.methods.length≤maxLen∧u.methods.length≤maxLen∧c.fields.length≤maxLen∧u.fields.length≤maxLen:=⟨hmc.at_.2.2.1,hmu.at_.2.2.1,hfc.at_.2.2.1,hfu.at_.2.2.1⟩
     unfold maxLen at hlens
     obtain⟨hl1,hl2,hl3,hl4⟩:=hlens
     clear hfc hmc HCu b0 lb d0 d1 d2 d3 l5 lg hw hf7 h hu hall hcbl
     clear wr
     have hm0:Hid (c.methods.all (zhl p k0 kr u)=(c.methods.drop 0).all (zhl p k0 kr u)):=rfl
     go_wp2
     obtain⟨wz,rfl⟩:∃wz:World,wz=W7:=⟨_,rfl⟩
     go_loopw [8,4] (fun i r wq=>∃j:Nat,j≤c.methods.length∧i=.int .i64 j∧r=.bool false∧Hid (c.methods.all (zhl p k0 kr u)=(c.methods.drop j).all (zhl p k0 kr u))∧Fr No wz wq) (fun i _ _=>c.methods.length-(intOf i).toNat)
     case atStart=>exact⟨0,Nat.zero_le _,rfl,rfl,hm0,Fr.refl _ _⟩
     case round=>
      obtain⟨j,hj,rfl,rfl,hd2,hq⟩:=hrel
      replace hB:=hB.keep hq
      replace hb5:=hb5.keep hq
      replace hb7:=hb7.keep hq
      have b0:=hB.c1
      have lb:=hB.lt
      obtain⟨d0,d1,d2,d3⟩:=hb5.c4
      have l5:=hb5.lt
      obtain⟨v0,v1,v2,v3⟩:=hb7.c4
      have l7:=hb7.lt
      replace g0':=hq.keep0 g0'
      replace f0:=hq.keep0 f0
      have lg:=lt_of_cell g0'
      by_cases hlj:j<c.methods.length
      ·obtain⟨bm,om,Aam,cam,Acm,ccm,Axm,cxm,rfl,hXm,c0,c1,c2,c3,c4,c5,c6,c7,hr1,hr2,hr3,hr4,hr5,_,_,_,_,_,_⟩:=(hmc7.keep hq zN (fun _ _ _ h=>h.keep hq zN)).mth hlj
       have hRm:MthC X wr [.string c.methods[j].name,.slice Aam c.methods[j].args.length cam,.int .i64 c.methods[j].ret.kind,.string c.methods[j].ret.name,.int .i64 c.methods[j].locals,.int .i64 c.methods[j].stack,.slice Acm c.methods[j].code.length ccm,.slice Axm c.methods[j].maps.length cxm] c.methods[j]:=⟨_,_,_,rfl,hr1,hr2,hr3,hr4,hr5⟩
       have lm:=lt_of_cell c0
       have HM:=fun W (h:Fr No wr W)=>zeX X _ u.methods c.methods[j].name W (hmu.keep (hq.trans0 h) zN (fun _ _ _ h9=>h9.keep (hq.trans0 h) zN)) hr1
       have HSH:=fun W (h:Fr No wr W)=>zkp X X p _ k0 kr c.methods[j] _ W hp (hkw W (hq.trans0 h)) hk0 hkr (hRm.keep h zN)
       rw[List.drop_eq_getElem_cons hlj,List.all_cons] at hd2
       have hd2:=Lib.hid hd2
       clear hr1 hr2 hr3 hr4 hr5 hmc7 hfc7 hfu hkw
       generalize c.methods[j]=m at *
       have hov:(ixOf (zeU m.name) u.methods=-1∧Hid (zhl p k0 kr u m=true))∨∃(i:Nat) (hi:i<u.methods.length),ixOf (zeU m.name) u.methods=(i:Int)∧Hid (zhl p k0 kr u m=(zkq m u.methods[i]&&zgM p k0 kr m)):=by
        have hr:=zeS (zeU m.name) u.methods
        by_cases h0:ixOf (zeU m.name) u.methods<0
        ·exact .inl ⟨by omega,by show zhl p k0 kr u m=true;unfold zhl;rw[if_pos h0]⟩
        ·refine .inr ⟨(ixOf (zeU m.name) u.methods).toNat,by omega,by omega,?_⟩
         show zhl p k0 kr u m=_
         unfold zhl zkq
         rw[if_neg h0]
         simp[List.getD,lz8 (show(ixOf (zeU m.name) u.methods).toNat<u.methods.length by omega)]
       have e5:=fun W (h:Fr No wr W)=>(hb5.keep h).c4.2.2.2
       have e7:=fun W (h:Fr No wr W)=>(hb7.keep h).c4.2.2.2
       have q0:=kp c0
       have q1:=kp c1
       have q2:=kp c2
       have q3:=kp c3
       have q4:=kp c4
       have q5:=kp c5
       have q6:=kp c6
       have q7:=kp c7
       go_wp2_with fail
       (refine zgc (X:=No) (by kernel_rfl) (by kernel_rfl) ?_)
       have gk:=g0'
       have fk:=f0
       clear b0 d0 d1 d2 d3 v0 v1 v2 v3 c0 c1 c2 c3 c4 c5 c6 c7 g0' f0
       rcases hov with ⟨hix,hov⟩ | ⟨i,hi,hix,hov⟩
       ·rw[hix] at HM
        have HS:Hid (c.methods.all (zhl p k0 kr u)=(c.methods.drop (j+1)).all (zhl p k0 kr u)):=hd2.out.out.trans (by rw[hov.out,Bool.true_and])
        clear hix hov hd2 HSH
        (repeat((first|go_big_quiet_skip|(go_big_quiet_want;(apply Exists.intro;refine⟨fun W hW=>?_,?_⟩);(focus (first|exact fqc|(go_simp;first|(go_at_call 89;exact(HM W hW).mono (fun _ _ h=>zeV.toFr h hW)))));go_big_quiet_on));(try simp only[Act.put,lz0,lz1,lz2])));refine wpQuiet_nil ?_
        intro w1 hf1
        clear e5 e7 q0 q1 q2 q3 q4 q5 q6 q7 HM
        go_wp2_with fail
        (refine zgc (X:=No) (by kernel_rfl) (by kernel_rfl) ?_)
        (repeat((first|go_big_quiet_skip|(go_big_quiet_want;(apply Exists.intro;refine⟨fun W hW=>?_,?_⟩);(focus (exact fqc));go_big_quiet_on));(try simp only[Act.put,lz0,lz1,lz2])));refine wpQuiet_nil ?_
        intro w2 hf2
        go_wp2
        go_roundw
        case rel=>exact⟨j+1,by omega,by go_num,rfl,HS,by exact frc⟩
        case measure=>simp[intOf];omega
       ·rw[hix] at HM
        obtain⟨bn,on,Aan,can,Acn,ccn,Axn,cxn,rfl,hXn,t0,t1,t2,t3,t4,t5,t6,t7,hn1,hn2,hn3,hn4,hn5,_,_,_,_,_,_⟩:=(hmu.keep hq zN (fun _ _ _ h=>h.keep hq zN)).mth hi
        have hRn:MthC X wr [.string u.methods[i].name,.slice Aan u.methods[i].args.length can,.int .i64 u.methods[i].ret.kind,.string u.methods[i].ret.name,.int .i64 u.methods[i].locals,.int .i64 u.methods[i].stack,.slice Acn u.methods[i].code.length ccn,.slice Axn u.methods[i].maps.length cxn] u.methods[i]:=⟨_,_,_,rfl,hn1,hn2,hn3,hn4,hn5⟩
        have HSM:=fun W (h:Fr No wr W)=>zkr X X m u.methods[i] _ _ W (hRm.keep h zN) (hRn.keep h zN)
        have ln:=lt_of_cell t0
        have hii:(i:Int).toNat=i:=by omega
        clear hix hn1 hn2 hn3 hn4 hn5 hRm hRn hmu
        generalize u.methods[i]=mu at *
        have y0:=kp t0
        have y1:=kp t1
        have y2:=kp t2
        have y3:=kp t3
        have y4:=kp t4
        have y5:=kp t5
        have y6:=kp t6
        have y7:=kp t7
        have gk':=kp gk
        have fk':=kp fk
        have bk':=fun W (h:Fr No wr W)=>(hB.keep h).c1
        clear t0 t1 t2 t3 t4 t5 t6 t7 gk fk
        (repeat((first|go_big_quiet_skip|(go_big_quiet_want;(apply Exists.intro;refine⟨fun W hW=>?_,?_⟩);(focus (first|exact fqc|(go_simp;first|(go_at_call 89;exact(HM W hW).mono (fun _ _ h=>zeV.toFr h hW)))));go_big_quiet_on));(try simp only[Act.put,lz0,lz1,lz2])));refine wpQuiet_nil ?_
        intro w1 hf1
        clear HM
        replace e5:=fun W (h:Fr No w1 W)=>e5 W (hf1.trans0 h)
        replace e7:=fun W (h:Fr No w1 W)=>e7 W (hf1.trans0 h)
        replace q0:=fun W (h:Fr No w1 W)=>q0 W (hf1.trans0 h)
        replace q1:=fun W (h:Fr No w1 W)=>q1 W (hf1.trans0 h)
        replace q2:=fun W (h:Fr No w1 W)=>q2 W (hf1.trans0 h)
        replace q3:=fun W (h:Fr No w1 W)=>q3 W (hf1.trans0 h)
        replace q4:=fun W (h:Fr No w1 W)=>q4 W (hf1.trans0 h)
        replace q5:=fun W (h:Fr No w1 W)=>q5 W (hf1.trans0 h)
        replace q6:=fun W (h:Fr No w1 W)=>q6 W (hf1.trans0 h)
        replace q7:=fun W (h:Fr No w1 W)=>q7 W (hf1.trans0 h)
        replace y0:=fun W (h:Fr No w1 W)=>y0 W (hf1.trans0 h)
        replace y1:=fun W (h:Fr No w1 W)=>y1 W (hf1.trans0 h)
        replace y2:=fun W (h:Fr No w1 W)=>y2 W (hf1.trans0 h)
        replace y3:=fun W (h:Fr No w1 W)=>y3 W (hf1.trans0 h)
        replace y4:=fun W (h:Fr No w1 W)=>y4 W (hf1.trans0 h)
        replace y5:=fun W (h:Fr No w1 W)=>y5 W (hf1.trans0 h)
        replace y6:=fun W (h:Fr No w1 W)=>y6 W (hf1.trans0 h)
        replace y7:=fun W (h:Fr No w1 W)=>y7 W (hf1.trans0 h)
        replace gk':=fun W (h:Fr No w1 W)=>gk' W (hf1.trans0 h)
        replace fk':=fun W (h:Fr No w1 W)=>fk' W (hf1.trans0 h)
        replace bk':=fun W (h:Fr No w1 W)=>bk' W (hf1.trans0 h)
        replace HSM:=fun W (h:Fr No w1 W)=>HSM W (hf1.trans0 h)
        replace HSH:=fun W (h:Fr No w1 W)=>HSH W (hf1.trans0 h)
        have hcase:zkq m mu=false∨(zkq m mu=true∧zgM p k0 kr m=false)∨(zkq m mu=true∧zgM p k0 kr m=true):=by
         cases zkq m mu<;>cases zgM p k0 kr m<;>simp
        have hl5':=Nat.lt_of_lt_of_le l5 hf1.size
        have hl6':=Nat.lt_of_lt_of_le l7 hf1.size
        have hlm':=Nat.lt_of_lt_of_le lm hf1.size
        have hln':=Nat.lt_of_lt_of_le ln hf1.size
        have hlb':=Nat.lt_of_lt_of_le lb hf1.size
        have hlg':=Nat.lt_of_lt_of_le lg hf1.size
        go_wp2_with fail
        (refine zgc (X:=No) (by kernel_rfl) (by kernel_rfl) ?_)
        rcases hcase with g1 | ⟨g1,g2⟩ | ⟨g1,g2⟩
        ·rw[g1] at HSM
         have HS:Hid (rs.all (zhm p ⟨k0,s0⟩)=false):=hd.out.out.trans (by rw[hpair.out,hd2.out.out,hov.out,g1];simp)
         clear g1 hov hd2 hd hpair HSH
         (repeat((first|go_big_quiet_skip|(go_big_quiet_want;(apply Exists.intro;refine⟨fun W hW=>?_,?_⟩);(focus (first|exact fqc|(go_simp;first|(go_at_call 124;exact(HSM W hW).mono (fun _ _ h=>zgm.toFr h hW)))));go_big_quiet_on));(try simp only[Act.put,lz0,lz1,lz2])));refine wpQuiet_nil ?_
         intro w2 hf2
         clear e5 e7 q0 q1 q2 q3 q4 q5 q6 q7 y0 y1 y2 y3 y4 y5 y6 y7 gk' fk' bk' HSM
         go_wp2
         go_ret
         exact .mk HS.out.symm (by exact frc)
        ·rw[g1] at HSM
         rw[g2] at HSH
         have HS:Hid (rs.all (zhm p ⟨k0,s0⟩)=false):=hd.out.out.trans (by rw[hpair.out,hd2.out.out,hov.out,g1,g2];simp)
         clear g1 g2 hov hd2 hd hpair
         (repeat((first|go_big_quiet_skip|(go_big_quiet_want;(apply Exists.intro;refine⟨fun W hW=>?_,?_⟩);(focus (first|exact fqc|(go_simp;first|(go_at_call 124;exact(HSM W hW).mono (fun _ _ h=>zgm.toFr h hW))|(go_at_call 56;exact(HSH W hW).mono (fun _ _ h=>zgm.toFr h hW)))));go_big_quiet_on));(try simp only[Act.put,lz0,lz1,lz2])));refine wpQuiet_nil ?_
         intro w2 hf2
         clear e5 e7 q0 q1 q2 q3 q4 q5 q6 q7 y0 y1 y2 y3 y4 y5 y6 y7 gk' fk' bk' HSM HSH
         go_wp2
         go_ret
         exact .mk HS.out.symm (by exact frc)
        ·rw[g1] at HSM
         rw[g2] at HSH
         have HS:Hid (c.methods.all (zhl p k0 kr u)=(c.methods.drop (j+1)).all (zhl p k0 kr u)):=hd2.out.out.trans (by rw[hov.out,g1,g2];rfl)
         clear g1 g2 hov hd2
         (repeat((first|go_big_quiet_skip|(go_big_quiet_want;(apply Exists.intro;refine⟨fun W hW=>?_,?_⟩);(focus (first|exact fqc|(go_simp;first|(go_at_call 124;exact(HSM W hW).mono (fun _ _ h=>zgm.toFr h hW))|(go_at_call 56;exact(HSH W hW).mono (fun _ _ h=>zgm.toFr h hW)))));go_big_quiet_on));(try simp only[Act.put,lz0,lz1,lz2])));refine wpQuiet_nil ?_
         intro w2 hf2
         clear e5 e7 q0 q1 q2 q3 q4 q5 q6 q7 y0 y1 y2 y3 y4 y5 y6 y7 gk' fk' bk' HSM HSH
         go_wp2
         go_roundw
         case rel=>exact⟨j+1,by omega,by go_num,rfl,HS,by exact frc⟩
         case measure=>simp[intOf];omega
      ·have HSm:Hid (c.methods.all (zhl p k0 kr u)=true):=by have:=hd2.out;rwa [List.drop_eq_nil_of_le (by omega)] at this
       have hwq:Fr No w wr:=hw7.trans0 hq
       clear hd2 hmc7 hmu hkw
       go_wp2
       clear b0 lb d0 d1 d2 d3 l5 v0 v1 v2 v3 l7 g0' f0 lg
       obtain⟨wy,rfl⟩:∃wy:World,wy=wr:=⟨_,rfl⟩
       have hf0:Hid (c.fields.all (fun f=>decide (ixOf (zeT f.name) u.fields<0))=(c.fields.drop 0).all (fun f=>decide (ixOf (zeT f.name) u.fields<0))):=rfl
       go_loopw [10,4] (fun i r wx=>∃j:Nat,j≤c.fields.length∧i=.int .i64 j∧r=.bool false∧Hid (c.fields.all (fun f=>decide (ixOf (zeT f.name) u.fields<0))=(c.fields.drop j).all (fun f=>decide (ixOf (zeT f.name) u.fields<0)))∧Fr No wy wx) (fun i _ _=>c.fields.length-(intOf i).toNat)
       case atStart=>exact⟨0,Nat.zero_le _,rfl,rfl,hf0,Fr.refl _ _⟩
       case round=>
        obtain⟨j,hj,rfl,rfl,hd2,hx⟩:=hrel
        clear hf0
        replace hB:=hB.keep hx
        replace hb5:=hb5.keep hx
        replace hb7:=hb7.keep hx
        have hqx:=hq.trans0 hx
        obtain⟨d0,d1,d2,d3⟩:=hb5.c4
        have l5:=hb5.lt
        obtain⟨v0,v1,v2,v3⟩:=hb7.c4
        have l7:=hb7.lt
        by_cases hlj:j<c.fields.length
        ·obtain⟨bm,om,rfl,hXm,c0,c1,c2,hr1,hr2⟩:=(hfc7.k0 hqx).fld hlj
         have lm:=lt_of_cell c0
         have HM:=fun W (h:Fr No wr W)=>zeW X _ u.fields c.fields[j].name W (hfu.keep (hqx.trans0 h) zN (fun _ _ _ h9=>h9)) hr1
         rw[List.drop_eq_getElem_cons hlj,List.all_cons] at hd2
         have hd2:=Lib.hid hd2
         clear hr1 hr2 hfc7 hfu
         generalize c.fields[j]=m at *
         have hov:(ixOf (zeT m.name) u.fields=-1)∨0≤ixOf (zeT m.name) u.fields:=by have:=zeS (zeT m.name) u.fields;omega
         generalize ixOf (zeT m.name) u.fields=ix at *
         have e5:=fun W (h:Fr No wr W)=>(hb5.keep h).c4.2.2.1
         have e7:=fun W (h:Fr No wr W)=>(hb7.keep h).c4.2.2.1
         have q0:=kp c0
         have q1:=kp c1
         have q2:=kp c2
         go_wp2_with fail
         (refine zgc (X:=No) (by kernel_rfl) (by kernel_rfl) ?_)
         clear d0 d1 d2 d3 v0 v1 v2 v3 c0 c1 c2
         rcases hov with rfl|hov
         ·have HS:Hid (c.fields.all (fun f=>decide (ixOf (zeT f.name) u.fields<0))=(c.fields.drop (j+1)).all (fun f=>decide (ixOf (zeT f.name) u.fields<0))):=hd2.out.out.trans (by simp)
          clear hd2
          (repeat((first|go_big_quiet_skip|(go_big_quiet_want;(apply Exists.intro;refine⟨fun W hW=>?_,?_⟩);(focus (first|exact fqc|(go_simp;first|(go_at_call 106;exact(HM W hW).mono (fun _ _ h=>zeV.toFr h hW)))));go_big_quiet_on));(try simp only[Act.put,lz0,lz1,lz2])));refine wpQuiet_nil ?_
          intro w2 hf2
          clear e5 e7 q0 q1 q2 HM
          go_wp2
          go_roundw
          case rel=>exact⟨j+1,by omega,by go_num,rfl,HS,by exact frc⟩
          case measure=>simp[intOf];omega
         ·have HS:Hid (rs.all (zhm p ⟨k0,s0⟩)=false):=hd.out.out.trans (by rw[hpair.out,hd2.out.out,decide_eq_false (show ¬ix<0 by omega)];simp)
          clear hd2 hd hpair
          (repeat((first|go_big_quiet_skip|(go_big_quiet_want;(apply Exists.intro;refine⟨fun W hW=>?_,?_⟩);(focus (first|exact fqc|(go_simp;first|(go_at_call 106;exact(HM W hW).mono (fun _ _ h=>zeV.toFr h hW)))));go_big_quiet_on));(try simp only[Act.put,lz0,lz1,lz2])));refine wpQuiet_nil ?_
          intro w2 hf2
          clear e5 e7 q0 q1 q2 HM
          go_wp2
          go_ret
          exact .mk HS.out.symm (by exact frc)
        ·have HSf:Hid (c.fields.all (fun f=>decide (ixOf (zeT f.name) u.fields<0))=true):=by have:=hd2.out;rwa [List.drop_eq_nil_of_le (by omega)] at this
         have HS:Hid (rs.all (zhm p ⟨k0,s0⟩)=(rs.drop (k+1-1)).all (zhm p ⟨k0,s0⟩)):=hd.out.out.trans (by rw[hpair.out,HSf.out,HSm.out];simp)
         clear hd2 hfc7 hfu hd hpair
         go_wp2
         go_roundw
         case rel=>exact⟨k+1,by omega,by omega,by go_num,rfl,HS,hB,hb5,by exact frc⟩
         case measure=>simp[intOf];omega
   ·have HS:Hid (rs.all (zhm p ⟨k0,s0⟩)=true):=by have:=hd.out;rwa [List.drop_eq_nil_of_le (by omega)] at this
    clear h hkw hu hd hfc hmc
    go_wp2
    go_ret
    exact .mk HS.out.symm (by exact frc)
theorem Sl.drop {α:Type} {X:Nat->Prop} {w:World} {sz:Nat} {R:List Value->α->Prop} {b off n cap k:Nat} {xs:List α} (h:Sl X w sz R (.slice (some ⟨b,off,none⟩) n cap) xs) (hk:k<xs.length):
  Sl X w sz R (.slice (some ⟨b,off+k * sz,none⟩) (n-k) (cap-k)) (xs.drop k):=by
 obtain⟨A',cap',he,h1,h2,h3⟩:=h
 simp only[Value.slice.injEq] at he
 obtain⟨rfl,rfl,rfl⟩:=he
 refine⟨_,_,by rw[List.length_drop],by rw[List.length_drop];omega,by rw[List.length_drop];omega,fun _=>?_⟩
 obtain⟨b',off',he,hX,hc⟩:=h3 (by omega)
 simp only[Option.some.injEq,Addr.mk.injEq,and_true] at he
 obtain⟨rfl,rfl⟩:=he
 refine⟨b,off+k * sz,rfl,hX,fun j hj=>?_⟩
 rw[List.length_drop] at hj
 obtain⟨cs,hR,hl,hcs⟩:=hc (k+j) (by omega)
 refine⟨cs,by rw[List.getElem_drop];exact hR,hl,fun i hi=>?_⟩
 rw[<-hcs i hi,Nat.add_mul,Nat.add_assoc off]
theorem zhb.drop {p:Plan} {rs:List Ref} (h:zhb p rs) (k:Nat):zhb p (rs.drop k):=fun r hr=>h r (List.mem_of_mem_drop hr)
theorem zkt (X:Nat->Prop) (p:Plan) (v:Value) (k0:Nat) (s0:Str) (i0:Nat) (w:World) (hp:lodB p=true) (h:Sl X w 2 (KprC X w) v p.keepers) (hh:Here p ⟨k0,s0⟩ k0 i0) (hs:s0.size≤maxLen):
  Calls Tryz.prog 86 #[.agg #[v],.agg #[.int .i64 k0,.string s0]] w (zgm (zhn p ((chainOf p ⟨k0,s0⟩).getD [])) w):=by
 obtain⟨A,cap,rfl,hcap,hlen⟩:=h.form
 have hkw:=fun W (hW:Fr No w W)=>h.keep (R':=KprC X W) hW zN (fun _ _ _ h=>h.keep hW zN)
 have HC:=fun W (hW:Fr No w W)=>za0 X p _ k0 s0 i0 W hp (hkw W hW) hh hs
 have hB:=(Bx.new w 25 #[.slice A p.keepers.length cap]).alloc (.cells #[.int .i64 k0,.string s0] 29)
 have hall:zhb p ((chainOf p ⟨k0,s0⟩).getD []):=by
  cases hc:chainOf p ⟨k0,s0⟩ with
  | none=>intro x hx;cases hx
  | some rs=>exact zhf hp hh hc
 have hl6:((chainOf p ⟨k0,s0⟩).getD []).length≤6:=by
  cases hc:chainOf p ⟨k0,s0⟩ with
  | none=>simp
  | some rs=>exact zhh hc
 unfold zaV at HC
 generalize(chainOf p ⟨k0,s0⟩).isSome=ok at *
 generalize(chainOf p ⟨k0,s0⟩).getD []=xs at *
 go_enter Tryz.func86,Tryz.ntmps86
 go_wp2_with fail
 refine(HC _ (by exact frc)).mono ?_
 rintro e w1 ⟨v2,rfl,hsl,hf1⟩
 obtain⟨A2,c2,rfl,hc2,_⟩:=hsl.form
 have hB1:=hB.keep hf1
 have hw1:Fr No w w1:=by exact frc
 clear HC hB hf1
 go_wp2
 obtain⟨wz,rfl⟩:∃wz:World,wz=w1:=⟨_,rfl⟩
 go_loopw [7,4] (fun i r wr=>∃k:Nat,k≤xs.length∧i=.int .i64 k∧r=.bool false∧Hid (zhn p xs=zhn p (xs.drop k))∧Fr No wz wr) (fun i _ _=>xs.length-(intOf i).toNat)
 case atStart=>exact⟨0,Nat.zero_le _,rfl,rfl,rfl,Fr.refl _ _⟩
 case round=>
  obtain⟨k,hk,rfl,rfl,hd,hf⟩:=hrel
  replace hB1:=hB1.keep hf
  have b0:=hB1.c1
  have hBl:=hB1.lt
  by_cases hlt:k<xs.length
  ·have hslr:=hsl.k0 hf
   obtain⟨b,off,rfl,_,c0,c1,_⟩:=hslr.ref hlt
   have hbl:=lt_of_cell c0
   have hdr:=hslr.drop hlt
   have ha2:=hall.drop k
   rw[List.drop_eq_getElem_cons hlt] at hdr ha2 hd
   have HO:=fun W (hW:Fr No wr W)=>zks X No p _ _ xs[k] (xs.drop (k+1)) W hp (hkw W ((hw1.trans0 hf).trans0 hW)) (hdr.k0 hW) ha2
   rw[zhn] at hd
   have hd:=Lib.hid hd
   have hkk:(k:Int).toNat=k:=by omega
   have hkc:k≤c2:=by omega
   clear hslr hdr ha2 hall hsl hkw h hh
   generalize(xs.drop (k+1)).all (zhm p xs[k])=ok2 at *
   have e0:=fun W (h:Fr No wr W)=>(hB1.keep h).c1
   go_wp2_with fail
   (refine zgc (X:=No) (by kernel_rfl) (by kernel_rfl) ?_)
   clear b0 c0 c1
   cases ok2
   ·have HS:Hid (zhn p xs=false):=hd.out.out.trans (by simp)
    clear hd
    (repeat((first|go_big_quiet_skip|(go_big_quiet_want;(apply Exists.intro;refine⟨fun W hW=>?_,?_⟩);(focus (first|exact fqc|(go_simp;first|(go_at_call 108;exact(HO W hW).mono (fun _ _ h=>zgm.toFr h hW)))));go_big_quiet_on));(try simp only[Act.put,lz0,lz1,lz2])));refine wpQuiet_nil ?_
    intro w3 hf3
    clear e0 HO
    go_wp2
    go_ret;exact .mk HS.out.symm (by exact frc)
   ·have HS:Hid (zhn p xs=zhn p (xs.drop (k+1))):=hd.out.out.trans (by simp)
    clear hd
    (repeat((first|go_big_quiet_skip|(go_big_quiet_want;(apply Exists.intro;refine⟨fun W hW=>?_,?_⟩);(focus (first|exact fqc|(go_simp;first|(go_at_call 108;exact(HO W hW).mono (fun _ _ h=>zgm.toFr h hW)))));go_big_quiet_on));(try simp only[Act.put,lz0,lz1,lz2])));refine wpQuiet_nil ?_
    intro w3 hf3
    clear e0 HO
    go_wp2
    go_roundw
    case rel=>exact⟨k+1,by omega,by go_num,rfl,HS,by exact frc⟩
    case measure=>simp[intOf];omega
  ·have HS:Hid (zhn p xs=true):=by have:=hd.out;rwa [List.drop_eq_nil_of_le (by omega)] at this
   clear h hkw hd hsl
   go_wp2
   go_ret;exact .mk HS.out.symm (by exact frc)
def zku:Option (Ref×Int)->Value
 | none=>.tuple #[.agg #[.int .i64 0,.string ⟨#[]⟩,.int .i64 0],.bool false]
 | some (r,i)=>.tuple #[.agg #[.int .i64 r.keeper,.string r.name,.int .i64 i],.bool true]
def ztH (p:Plan) (r:Ref) (s:Str):Option (Ref×Int):=if lodB p then zhp p r s else none
theorem Gives.toFr {X:Nat->Prop} {v:Value} {a W w':World} {e:Ending} (h:Gives v W e w') (hW:Fr X a W):e=.returned v∧Fr X a w':=⟨h.1,hW.trans0 h.2⟩
theorem Gives.mk1 {v u:Value} {w w':World} (h:u=v) (hf:Fr No w w'):Gives v w (.returned u) w':=⟨by rw[h],hf⟩
theorem zkv (X Y:Nat->Prop) (p:Plan) (v u:Value) (xs:List Ref) (s:Str) (w:World) (h:Sl X w 2 (KprC X w) v p.keepers) (hu:Sl Y w 2 RefC u xs) (hall:zhb p xs) (hs:s.size≤maxLen):
  Calls Tryz.prog 55 #[.agg #[v],u,.string s] w (Gives (zku (zho p s xs)) w):=by
 obtain⟨A,cap,rfl,hcap,hlen⟩:=h.form
 obtain⟨B,cap2,rfl,hcap2,hlen2⟩:=hu.form
 unfold maxLen at hlen2
 have hkw:=fun W (hW:Fr No w W)=>h.keep (R':=KprC X W) hW zN (fun _ _ _ h=>h.keep hW zN)
 obtain⟨hB,hZ,hw0⟩:=Bx.two w 25 #[.slice A p.keepers.length cap] 31 #[.int .i64 0,.string ⟨#[]⟩,.int .i64 0]
 go_enter Tryz.func55,Tryz.ntmps55
 go_wp2
 go_loopw [8,7] (fun i r wr=>∃k:Nat,k≤xs.length∧i=.int .i64 k∧r=.bool false∧Hid (zho p s xs=zho p s (xs.drop k)) ∧
  Bx wr w.heap.size 25 #[.slice A p.keepers.length cap]∧Bx wr (w.heap.size+1) 31 #[.int .i64 0,.string ⟨#[]⟩,.int .i64 0]∧Fr No w wr) (fun i _ _=>xs.length-(intOf i).toNat)
 case atStart=>exact⟨0,Nat.zero_le _,rfl,rfl,rfl,hB,hZ,hw0⟩
 case round=>
  clear hB hZ hw0
  obtain⟨k,hk,rfl,rfl,hd,hB,hZ,hw⟩:=hrel
  have b0:=hB.c1
  obtain⟨z0,z1,z2⟩:=hZ.c3
  have hBl:=hB.lt
  have hZl:=hZ.lt
  have zf:=fun j=>hZ.frozen j
  by_cases hlt:k<xs.length
  ·obtain⟨b,off,rfl,_,c0,c1,hsr⟩:=(hu.k0 hw).ref hlt
   have hbl:=lt_of_cell c0
   obtain⟨hleft,kr,ir,hhr⟩:=hall _ (List.getElem_mem hlt)
   clear hleft
   rw[List.drop_eq_getElem_cons hlt,zho] at hd
   have hd:=Lib.hid hd
   generalize xs[k]=r at *
   obtain⟨rk,s1⟩:=r
   obtain rfl:rk=(kr:Int):=hhr.1
   dsimp only at c0 c1 hsr
   obtain⟨Af,cf,Am,cm,hR,HC⟩:=zaU X p _ kr s1 ir wr (hkw wr hw) hhr hsr
   obtain⟨vf,vm,he,_,_,_,hm⟩:=hR
   simp only[List.cons.injEq,true_and,and_true] at he
   obtain⟨rfl,rfl⟩:=he
   have HM:=fun W (hW:Fr No wr W)=>zeX X _ (zbG p ⟨kr,s1⟩).methods s W (hm.keep hW zN (fun _ _ _ h=>h.keep hW zN)) hs
   have hrg:=zeS (zeU s) (zbG p ⟨kr,s1⟩).methods
   clear hm hu hkw h hall hhr
   generalize zbG p ⟨kr,s1⟩=c at *
   generalize ixOf (zeU s) c.methods=ix at *
   have e0:=fun W (h:Fr No wr W)=>(hB.keep h).c1
   have q0:=kp c0
   have q1:=kp c1
   go_wp2_with fail
   (refine zgc (X:=No) (by kernel_rfl) (by kernel_rfl) ?_)
   have k0:=c0
   have k1:=c1
   clear b0 z0 z1 z2 zf c0 c1
   by_cases hix:ix<0
   ·have hix':ix=-1:=by omega
    subst hix'
    have HS:Hid (zho p s xs=zho p s (xs.drop (k+1))):=hd.out.out.trans (if_pos (by decide))
    clear hd hrg hix
    (repeat((first|go_big_quiet_skip|(go_big_quiet_want;(apply Exists.intro;refine⟨fun W hW=>?_,?_⟩);(focus (first|exact fqc|(go_simp;first|(go_at_call 87;exact(HC W hW).mono (fun _ _ h=>Gives.toFr h hW))|(go_at_call 89;exact(HM W hW).mono (fun _ _ h=>zeV.toFr h hW)))));go_big_quiet_on));(try simp only[Act.put,lz0,lz1,lz2])));refine wpQuiet_nil ?_
    intro w1 hf1
    clear e0 q0 q1 HC HM k0 k1
    go_wp2
    go_roundw
    case rel=>exact⟨k+1,by omega,by go_num,rfl,HS,hB.keep hf1,hZ.keep hf1,by exact frc⟩
    case measure=>simp[intOf];omega
   ·obtain⟨ix,rfl⟩:=Int.eq_ofNat_of_zero_le (show 0≤ix by omega)
    have HS:Hid (zho p s xs=some (⟨kr,s1⟩,(ix:Int))):=hd.out.out.trans (if_neg (by omega))
    clear hd hrg hix
    (repeat((first|go_big_quiet_skip|(go_big_quiet_want;(apply Exists.intro;refine⟨fun W hW=>?_,?_⟩);(focus (first|exact fqc|(go_simp;first|(go_at_call 87;exact(HC W hW).mono (fun _ _ h=>Gives.toFr h hW))|(go_at_call 89;exact(HM W hW).mono (fun _ _ h=>zeV.toFr h hW)))));go_big_quiet_on));(try simp only[Act.put,lz0,lz1,lz2])));refine wpQuiet_nil ?_
    intro w1 hf1
    clear e0 q0 q1 HC HM
    replace hZ:=hZ.keep hf1
    obtain⟨z0,z1,z2⟩:=hZ.c3
    have hZl1:=hZ.lt
    have zf:=fun j=>hZ.frozen j
    replace k0:=hf1.keep0 k0
    replace k1:=hf1.keep0 k1
    have hkl:=lt_of_cell k0
    go_wp2
    refine bodyPost_ret (v:=.tuple #[.agg #[.int .i64 kr,.string s1,.int .i64 ix],.bool true]) (by simp[results,Tryz.results55,go_sem, *]) rfl ?_
    exact .mk1 (by rw[HS.out];rfl) (by exact frc)
  ·have HS:Hid (zho p s xs=none):=hd.out.trans (by rw[List.drop_eq_nil_of_le (by omega)];rfl)
   clear h hkw hu hd
   go_wp2
   refine bodyPost_ret (v:=.tuple #[.agg #[.int .i64 0,.string ⟨#[]⟩,.int .i64 0],.bool false]) (by simp[results,Tryz.results55,go_sem, *]) rfl ?_
   exact .mk1 (by rw[HS.out];rfl) (by exact frc)
end Go.Proofs.YtbfmeklfpackjaaGreatDoor
