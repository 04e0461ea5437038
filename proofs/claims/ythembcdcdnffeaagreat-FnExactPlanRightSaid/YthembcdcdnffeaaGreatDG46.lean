/- The reference's LookClass. -/
import Derived.Test.YthembcdcdnffeaaGreatDG34
import Derived.Test.YthembcdcdnffeaaGreatDG45
set_option maxHeartbeats 8000000
set_option maxRecDepth 100000
namespace Go.Proofs.YthembcdcdnffeaaGreat
open Go.RowKit
def slkV (c:Int):Value->World->Prop:=fun v _=>∃u,v=.tuple #[u,.int .i64 c]
theorem zia (c:Int):MonP (slkV c):=fun _ _ _ h _=>h
def exV:Value->World->Prop:=fun v _=>∃u,v=u
theorem zib:MonP exV:=fun _ _ _ h _=>h
theorem zic (X:Nat->Prop) (p:Plan) (v:Value) (r:Ref) (w:World) (h:Sl X w 2 (KprC X w) v p.keepers) (hXn:∀b,w.heap.size≤b->X b) (hr:r.name.size≤maxLen):
  Calls Tryz.prog 8 #[.agg #[v],.agg #[.int .i64 r.keeper,.string r.name]] w (zgm (lkcS p r) w):=by
 have hkw:=fun W (hW:Fr No w W)=>h.keep (R':=KprC X W) hW (fun _ h=>h.elim) (fun _ _ _ h=>h.keep hW (fun _ h=>h.elim))
 have HL:=fun W (hW:Fr No w W)=>zdc X p v r W (hkw W hW) hr
 have HK:=fun(hp:lodB p=true) (k:Nat) (m:Mth) (ms:List Value) W (hW:Fr No w W) (hk0:k<p.keepers.length) (hm:MthC X W ms m) (hok:mthB m=true)=>zdu X X p v k r.name m ms W hp (hkw W hW) (fun b hb=>hXn b (Nat.le_trans hW.size hb)) hk0 hm (fun b hb=>hXn b (Nat.le_trans hW.size hb)) hr hok
 have HC:=fun(k i:Nat) (s:Str) W (hW:Fr No w W) (hh:Here p ⟨k,s⟩ k i) (hs:s.size≤maxLen)=>zaU X p v k s i W (hkw W hW) hh hs
 have hlk:lkcS p r=(lodB p&&zcO p r):=rfl
 have hcs:canS p r=(lodB p&&canB p r):=rfl
 obtain⟨A,cap,rfl,_,_⟩:=h.form
 clear h hkw
 obtain⟨wA,hwA⟩:∃wA,wA=((w.alloc (.cells #[.slice A p.keepers.length cap] 32)).alloc (.cells #[.int .i64 r.keeper,.string r.name] 34)):=⟨_,rfl⟩
 have hfA:Fr No w wA:=hwA▸frc
 have B0:=(hwA▸bxc:Bx wA w.heap.size 32 #[.slice A p.keepers.length cap])
 have B1:=(hwA▸bxc:Bx wA (w.heap.size+1) 34 #[.int .i64 r.keeper,.string r.name])
 have HLA:=HL wA hfA
 go_enter Tryz.func8,Tryz.ntmps8
 cases hcan:canS p r with
 | false=>
  have hV:lkcS p r=false:=by
   rw[hlk,zla,<-Bool.and_assoc,<-hcs,hcan,Bool.false_and]
  rw[hcan] at HLA
  rw[hV]
  clear HL HK HC hlk hcs hV
  go_wp2_with (go_at_call 22;rw[<-hwA];refine HLA.mono ?_;rintro e w1 ⟨rfl,hf1⟩;replace hwA:=Lib.hid hwA)
  go_ret
  exact .mk rfl frc
 | true=>
  rw[hcan] at HLA
  rw[hcan] at hcs
  have hp:lodB p=true:=(Bool.and_eq_true_iff.1 hcs.symm).1
  have hcb:canB p r=true:=by rw[hp] at hcs;simpa using hcs.symm
  obtain⟨k,ix,hh⟩:=zlh hp hcb
  have hV:lkcS p r=(zbG p r).methods.all (okM p r):=by rw[hlk,hp,zla,hcb];rfl
  rw[hV]
  obtain⟨rk,rn⟩:=r
  obtain rfl:rk=(k:Int):=hh.1
  have hk0:k<p.keepers.length:=hh.2.1
  have hcls:=Here.clsB hp hh
  have hmok:=zg1 hcls
  have hm4:=zlg hcls
  have hoke:∀m,okM p ⟨k,rn⟩ m=decide ((zcN p k rn m).2=0):=fun _=>rfl
  dsimp only at *
  have HK2:=fun m ms W (hW:Fr No w W) (hm:MthC X W ms m) (hok:mthB m=true)=>HK hp k m ms W hW hk0 hm hok
  obtain⟨Af,cf,Am,cm,hR,HCw⟩:=HC k ix rn wA hfA hh hr
  clear HL HK HC hlk hcs hV hcan hcb hcls
  generalize zbG p ⟨k,rn⟩=c at *
  obtain⟨vf,vm,he,_,_,_,hm⟩:=hR
  simp only[List.cons.injEq,true_and,and_true] at he
  obtain⟨rfl,rfl⟩:=he
  go_wp2_with (go_at_call 22;rw[<-hwA];refine HLA.mono ?_;rintro e w1 ⟨rfl,hf1⟩;replace hwA:=Lib.hid hwA;have C0:=B0.keep hf1;have C1:=B1.keep hf1;have z0:=C0.c1;have zl:=C0.lt;obtain⟨t0,t1⟩:=C1.c2;have tl:=C1.lt)
  refine(HCw w1 hf1).mono ?_
  rintro e w2 ⟨rfl,hf2⟩
  obtain⟨w3,hw3⟩:∃w3,w3=(w2.alloc (.cells #[.string c.name,.string c.super,.slice Af c.fields.length cf,.slice Am c.methods.length cm] 51)):=⟨_,rfl⟩
  have hf3:Fr No w2 w3:=hw3▸frc
  have BC:=(hw3▸bxc:Bx w3 w2.heap.size 51 #[.string c.name,.string c.super,.slice Af c.fields.length cf,.slice Am c.methods.length cm])
  have h13:=hf2.trans0 hf3
  have D0:=C0.keep h13
  have D1:=C1.keep h13
  have q3:=(hfA.trans0 hf1).trans0 h13
  have hm3:=hm.keep (R':=MthC X w3) (hf1.trans0 h13) (fun _ h=>h.elim) (fun _ _ _ h=>h.keep (hf1.trans0 h13) (fun _ h=>h.elim))
  clear z0 zl t0 t1 tl C0 C1 B0 B1 HLA HCw hm
  go_wp2_with fail
  refine zaE (fun W=>W=w3) (by rw[hw3]) ?_
  rintro W0 hW0
  rw[hW0]
  clear hW0
  replace hw3:=Lib.hid hw3
  obtain⟨R,hRe⟩:∃R,R=c.methods.all (okM p ⟨k,rn⟩):=⟨_,rfl⟩
  have hI0:Hid ((c.methods.take 0).all (okM p ⟨k,rn⟩)=true):=rfl
  go_loopw [6] (fun i wr=>∃j:Nat,j≤c.methods.length∧i=.int .i64 j∧Hid ((c.methods.take j).all (okM p ⟨k,rn⟩)=true)∧Fr No w3 wr) (fun i _=>c.methods.length-(intOf i).toNat)
  case atStart=>exact⟨0,Nat.zero_le _,rfl,hI0,Fr.refl _ _⟩
  case round=>
   clear hI0
   obtain⟨j,hj,rfl,hall,hf⟩:=hrel
   have KA:=(D0.keep hf).r1
   have KR:=(D1.keep hf).r2
   have KC:=(BC.keep hf).r4
   by_cases hlt:j<c.methods.length
   ·have hmr:=hm3.keep (R':=MthC X wr) hf (fun _ h=>h.elim) (fun _ _ _ h=>h.keep hf (fun _ h=>h.elim))
    obtain⟨bm,om,Aa,ca,Ac,cc,Ax,cx,rfl,_,d0,d1,d2,d3,d4,d5,d6,d7,hr1,hr2,hr3,hr4,hr5,_⟩:=hmr.mth hlt
    have ht:=zle (okM p ⟨k,rn⟩) c.methods j hlt
    rw[hall.out,Bool.true_and] at ht
    have hno:=zlf (okM p ⟨k,rn⟩) c.methods j hlt
    rw[hoke c.methods[j]] at ht hno
    have hHK:=fun W (hW:Fr No wr W)=>HK2 c.methods[j] [.string c.methods[j].name,.slice Aa c.methods[j].args.length ca,.int .i64 c.methods[j].ret.kind,.string c.methods[j].ret.name,.int .i64 c.methods[j].locals,.int .i64 c.methods[j].stack,.slice Ac c.methods[j].code.length cc,.slice Ax c.methods[j].maps.length cx] W ((q3.trans0 hf).trans0 hW) (MthC.keep (X:=X) (w:=wr) ⟨_,_,_,rfl,hr1,hr2,hr3,hr4,hr5⟩ hW (fun _ h=>h.elim)) (hmok _ (List.getElem_mem hlt))
    unfold zdE at hHK
    generalize zcN p (k:Int) rn c.methods[j]=L at *
    generalize c.methods[j]=m at *
    obtain⟨L1,L2⟩:=L
    dsimp only at ht hno hHK
    have KX0:=cr d0
    have KX1:=cr d1
    have KX2:=cr d2
    have KX3:=cr d3
    have KX4:=cr d4
    have KX5:=cr d5
    have KX6:=cr d6
    have KX7:=cr d7
    obtain⟨g0,g1,g2,g3,_,gl⟩:=KC wr (Fr.refl _ _)
    replace ht:=Lib.hid ht
    replace hno:=Lib.hid hno
    replace hHK:=Lib.hid hHK
    clear hmr hr1 hr2 hr3 hr4 hr5 d0 d1 d2 d3 d4 d5 d6 d7 HK2 hoke hmok
    go_wp2_with fail
    clear g0 g1 g2 g3 gl
    refine zn0 14 37 [mV (.agg #[.slice A p.keepers.length cap]),mV (.pointer (some ⟨w.heap.size+1,0,none⟩)),mV (.int .i64 k),mV (.pointer (some ⟨w.heap.size+1,1,none⟩)),mV (.string rn),mV (.pointer (some ⟨w2.heap.size,3,none⟩)),mV (.slice (some ⟨bm,om,none⟩) c.methods.length cm),mV (.int .i64 j),mV (.pointer (some ⟨bm,om+j * 8,none⟩)),mV (.agg #[.string m.name,.slice Aa m.args.length ca,.int .i64 m.ret.kind,.string m.ret.name,.int .i64 m.locals,.int .i64 m.stack,.slice Ac m.code.length cc,.slice Ax m.maps.length cx]),mC (slkV L2) (zia _),mC (slkV L2) (zia _),mC (exV) (zib),mE (mV (.int .i64 L2))] (by kernel_rfl) (by kernel_rfl) (by simp) ?_ ?_
    ·refine hopC ?_ <| hopC ?_ <| hopC ?_ <| hopC ?_ <| hopC ?_ <| hopC ?_ <| hopC ?_ <| hopC ?_ <| hopC ?_ <| hopC ?_ <| hopC ?_ <| hopC ?_ <| hopC ?_ <| hopC ?_ <| hopZ
     all_goals (intro a' W hW hoff hdep;have hbs:=hW.size;have H2:=hoff 2 rfl;have H3:=hoff 3 rfl;have H5:=hoff 5 rfl;have H6:=hoff 6 rfl)
     ·refine nE rfl ?_;clear hoff hdep;simp[execOp,Act.eval,go_sem,zaa, *];exact fr1 rfl
     ·refine nE rfl ?_;simp[execOp,Act.eval,H3,go_sem,zaa];exact fr1 rfl
     ·have D25:_=_:=hdep 1 25 rfl;refine nE rfl ?_;clear hoff hdep;simp[execOp,Act.eval,go_sem,zaa, *];exact fr1 rfl
     ·refine nE rfl ?_;simp[execOp,Act.eval,H3,go_sem,zaa];exact fr1 rfl
     ·have D27:_=_:=hdep 3 27 rfl;refine nE rfl ?_;clear hoff hdep;simp[execOp,Act.eval,go_sem,zaa, *];exact fr1 rfl
     ·refine nE rfl ?_;simp[execOp,Act.eval,H5,go_sem,zaa];exact fr1 rfl
     ·have D29:_=_:=hdep 5 29 rfl;refine nE rfl ?_;clear hoff hdep;simp[execOp,Act.eval,go_sem,zaa, *];exact fr1 rfl
     ·refine nE rfl ?_;simp[execOp,Act.eval,H6,go_sem,zaa];exact fr1 rfl
     ·have D30:_=_:=hdep 6 30 rfl;have D31:_=_:=hdep 7 31 rfl;refine nE rfl ?_;clear hoff hdep;simp[execOp,Act.eval,go_sem,zaa, *];exact fr1 rfl
     ·have D32:_=_:=hdep 8 32 rfl;refine nE rfl ?_;clear hoff hdep;simp[execOp,Act.eval,go_sem,zaa, *];exact fr1 rfl
     ·have D24:_=_:=hdep 0 24 rfl;have D26:_=_:=hdep 2 26 rfl;have D28:_=_:=hdep 4 28 rfl;have D33:_=_:=hdep 9 33 rfl;refine nE rfl ?_;simp[Act.eval,D24,D26,D28,D33,go_sem,zaa];exact(hHK.out _ hW).mono fun e w'' h=>(let ⟨h1,v,h2,_⟩:=h;⟨_,h2,h1,v,rfl⟩)
     ·obtain⟨u9,D34⟩:(slkV L2) _ W:=hdep 10 34 rfl;refine nE rfl ?_;simp[execOp,Act.eval,D34,go_sem,zaa];exact⟨Fr.refl _ _,_,rfl⟩
     ·obtain⟨u9,D23⟩:(slkV L2) _ W:=hdep 11 23 rfl;refine nE rfl ?_;simp[execOp,Act.eval,D23,go_sem,zaa];exact⟨Fr.refl _ _,_,rfl⟩
     ·obtain⟨u9,D23⟩:(slkV L2) _ W:=hdep 11 23 rfl;exact yE rfl ⟨.int .i64 L2,fun W=>by simp[execOp,Act.eval,D23,go_sem],rfl,rfl⟩
    intro vs WR hWR hv hne
    obtain⟨u9R10,e10⟩:=hv 10 (by omega)
    obtain⟨u9R11,e11⟩:=hv 11 (by omega)
    obtain⟨u9R12,e12⟩:=hv 12 (by omega)
    simp only[lz6,List.drop_zero,znM,znL,znK,znR,Nat.zero_add,Nat.reduceAdd,e10,e11,e12]
    simp only[Act.put,lz0,lz1,lz2]
    clear e10 e11 e12 hv
    clear KA KR KC KX0 KX1 KX2 KX3 KX4 KX5 KX6 KX7 hHK
    have hq:=(q3.trans0 hf).trans0 hWR
    by_cases hL:L2=0
    ·subst hL
     have ht':Hid ((c.methods.take (j+1)).all (okM p ⟨k,rn⟩)=true):=ht.out
     go_wp2
     go_roundw
     case rel=>exact⟨j+1,by omega,by go_num,ht',hf.trans0 hWR⟩
     case measure=>simp[intOf];omega
    ·have hLb:(L2 != 0)=true:=by simpa using hL
     have hno':R=false:=hRe.trans (hno.out (by simpa using hL))
     go_wp2
     go_ret
     exact .mk (hRe.symm.trans hno').symm hq
   ·obtain rfl:j=c.methods.length:=by omega
    have hall2:=hall.out
    rw[List.take_length] at hall2
    replace hall2:=Lib.hid hall2
    obtain⟨g0,g1,g2,g3,_,gl⟩:=KC wr (Fr.refl _ _)
    have hq:=q3.trans0 hf
    clear HK2 KA KR KC hall hoke hmok
    go_wp2
    go_ret
    exact .mk hall2.out.symm hq
end Go.Proofs.YthembcdcdnffeaaGreat
