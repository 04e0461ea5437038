/- A method that is there, in memory, while other blocks turn. -/
import Derived.Test.YthembcdcdnffeaaGreatEG23
set_option maxHeartbeats 4000000
set_option maxRecDepth 100000
namespace Go.Proofs.YthembcdcdnffeaaGreat
open Go.RowKit
def zc6 (X:Nat->Prop) (w:World) (l:Nat) (p:Plan):Prop:=
 lodB p=true∧∃A cap bo ba bl,Bx w l 106 #[.slice A p.keepers.length cap,.map (some bo),.map (some ba),.map (some bl)]∧Sl X w 2 (KprC X w) (.slice A p.keepers.length cap) p.keepers∧MapF w bo 15 (ownF p)
theorem LkE.lodge {K:LkP} (E:LkE K) {w:World} (hf:Fr K.late K.w0 w):zc6 K.late w K.l K.p:=by
 obtain⟨n,g,⟨h0,A,cap,bo,ba,k1,k2,k3,k4,k5,k6,k7,k8⟩,_⟩:=E.lg
 have nb:∀b,b<K.w0.heap.size->b≠K.bl->¬K.late b:=fun b h1 h2 h=>by rcases h with h|h<;>omega
 exact⟨h0,A,cap,bo,ba,_,k1.keepX hf (nb _ k1.lt k2),k5.late (by decide) hf (fun _ _ _ h=>(h.oldX.weaken (Y:=K.late) (fun _ h=>h)).keep hf (fun _ h=>h)),k6.keepX hf (nb bo k6.lt k3)⟩
theorem zc7 (X:Nat->Prop) (l:Nat) (p:Plan) (k:Nat) (s:Str) (i:Nat) (w:World) (h:zc6 X w l p) (hk:k<p.keepers.length) (hs:s.size≤maxLen)
  (y:Kpr) (hy:zbC p k=y) (hi:i<y.owns.length) (hix:zbx (zbp s) y.owns=some (i:Int)):
  ∃Af cf Am cm,ClsC X w [.string y.owns[i].name,.string y.owns[i].super,.slice Af y.owns[i].fields.length cf,.slice Am y.owns[i].methods.length cm] y.owns[i] ∧
   ∀W,Fr No w W->Calls Tryz.prog 52 #[.pointer (some ⟨l,0,none⟩),.agg #[.int .i64 k,.string s]] W (Gives (.agg #[.string y.owns[i].name,.string y.owns[i].super,.slice Af y.owns[i].fields.length cf,.slice Am y.owns[i].methods.length cm]) W):=by
 obtain⟨hp,A,cap,bo,ba,bl,hB,hP,hO⟩:=h
 have h3:=zbM hp
 have hkl:=hk
 have hix:ownF p (k:Int) s=some (i:Int):=by rw[za9 hk,hy];exact hix
 have wk:(Lit.int .i64 (k:Int)).wf=true:=zb3 (by omega) (by omega)
 have hlook:=fun W (h:Fr No w W)=>(hO.keep h).look wk hs
 rw[hix] at hlook
 simp only[Option.getD_some] at hlook
 rw[zbN hk] at hy
 obtain⟨b,off,Ao,co,Aa,ca,rfl,hX,c0,c1,hown,_,hoc,hom,_,_⟩:=hP.kpr hk
 rw[hy] at c0 c1 hown hoc hom
 clear hy
 obtain⟨b2,off2,Af,cf,Am,cm,rfl,hX2,d0,d1,d2,d3,hz0,hz1,hcf,hcm,_,_,_,_⟩:=hown.cls hi
 have hR:ClsC X w [.string y.owns[i].name,.string y.owns[i].super,.slice Af y.owns[i].fields.length cf,.slice Am y.owns[i].methods.length cm] y.owns[i]:=⟨_,_,rfl,hz0,hz1,hcf,hcm⟩
 clear hP hown hcf hcm hO hix hp
 unfold maxLen at hom
 generalize y.owns[i]=c at *
 refine⟨Af,cf,Am,cm,hR,fun W hW=>?_⟩
 replace hB:=hB.keep hW
 replace c0:=hW.keep0 c0
 replace c1:=hW.keep0 c1
 replace d0:=hW.keep0 d0
 replace d1:=hW.keep0 d1
 replace d2:=hW.keep0 d2
 replace d3:=hW.keep0 d3
 replace hlook:=fun W' (h:Fr No W W')=>hlook W' (hW.trans0 h)
 clear hR hW
 clear hX hX2 hz0 hz1
 generalize hwW:W=w at *
 clear hwW
 obtain⟨e0,e1,e2,e3⟩:=hB.c4
 have hl:=hB.lt
 have hbl:=lt_of_cell c0
 have hbl2:=lt_of_cell d0
 have hkk:(k:Int).toNat=k:=by omega
 have hii:(i:Int).toNat=i:=by omega
 have hfA:Fr No w ((w.alloc (.cells #[.int .i64 k,.string s] 34)).alloc (.cells #[.string ⟨#[]⟩,.string ⟨#[]⟩,.slice none 0 0,.slice none 0 0] 51)):=((Fr.refl No w).alloc _).alloc _
 have hBA:=hB.keep hfA
 obtain⟨hKA,hRA, -⟩:=Bx.two w 34 #[.int .i64 k,.string s] 51 #[.string ⟨#[]⟩,.string ⟨#[]⟩,.slice none 0 0,.slice none 0 0]
 have hlk:=hlook (World.drew ((w.alloc (.cells #[.int .i64 k,.string s] 34)).alloc (.cells #[.string ⟨#[]⟩,.string ⟨#[]⟩,.slice none 0 0,.slice none 0 0] 51))) hfA.drew
 replace c0:=hfA.keep0 c0
 replace c1:=hfA.keep0 c1
 replace d0:=hfA.keep0 d0
 replace d1:=hfA.keep0 d1
 replace d2:=hfA.keep0 d2
 replace d3:=hfA.keep0 d3
 clear hlook hB e0 e1 e2 e3
 go_enter Tryz.func52,Tryz.ntmps52
 go_wp2
 generalize((w.alloc (.cells #[.int .i64 k,.string s] 34)).alloc (.cells #[.string ⟨#[]⟩,.string ⟨#[]⟩,.slice none 0 0,.slice none 0 0] 51))=wA at *
 have hdr:Fr No wA wA.drew:=(Fr.refl No wA).drew
 replace hBA:=hBA.keep hdr
 replace hKA:=hKA.keep hdr
 replace hRA:=hRA.keep hdr
 replace c0:=hdr.keep0 c0
 replace c1:=hdr.keep0 c1
 replace d0:=hdr.keep0 d0
 replace d1:=hdr.keep0 d1
 replace d2:=hdr.keep0 d2
 replace d3:=hdr.keep0 d3
 replace hfA:=hfA.trans0 hdr
 clear hdr
 (refine wp_region_still_tail 17 (by kernel_rfl) (by kernel_rfl) ?_);(change wpStill _ _ (World.drew _) (fun a'=>wpList _ _ _ _ a' (World.drew _)) _ _)
 generalize wA.drew=wD at *
 obtain⟨e0,e1,e2,e3⟩:=hBA.c4
 obtain⟨k0,k1⟩:=hKA.c2
 obtain⟨r0,r1,r2,r3⟩:=hRA.c4
 have fr:=fun j=>hRA.frozen j
 have hl1:=hBA.lt
 have hl2:=hKA.lt
 have hl3:=hRA.lt
 have hb1:=lt_of_cell c0
 have hb2:=lt_of_cell d0
 (simp only[lz7,List.take_zero,lz6,List.drop_zero]);(repeat still_step);(try refine wpStill_nil ?_)
 go_wp2
 refine bodyPost_ret (v:=.agg #[.string c.name,.string c.super,.slice Af c.fields.length cf,.slice Am c.methods.length cm]) (by simp[results,Tryz.results52,go_sem, *]) rfl ?_
 exact .mk0 (by exact frc)
theorem zc8 {X:Nat->Prop} {l:Nat} {p:Plan} {k i:Nat} {s:Str} {w:World} (h:zc6 X w l p) (hh:Here p ⟨k,s⟩ k i) (hs:s.size≤maxLen):
  ∃Af cf Am cm,ClsC X w [.string (zbG p ⟨k,s⟩).name,.string (zbG p ⟨k,s⟩).super,.slice Af (zbG p ⟨k,s⟩).fields.length cf,.slice Am (zbG p ⟨k,s⟩).methods.length cm] (zbG p ⟨k,s⟩) ∧
   ∀W,Fr No w W->Calls Tryz.prog 52 #[.pointer (some ⟨l,0,none⟩),.agg #[.int .i64 k,.string s]] W (Gives (.agg #[.string (zbG p ⟨k,s⟩).name,.string (zbG p ⟨k,s⟩).super,.slice Af (zbG p ⟨k,s⟩).fields.length cf,.slice Am (zbG p ⟨k,s⟩).methods.length cm]) W):=by
 obtain⟨Af,cf,Am,cm,hR,HC⟩:=zc7 X l p k s i w h hh.2.1 hs (zbC p k) rfl hh.2.2.1 hh.2.2.2
 rw[<-hh.cls] at hR HC
 exact⟨Af,cf,Am,cm,hR,HC⟩
theorem zc9 {X:Nat->Prop} {l:Nat} {p:Plan} {k i a:Nat} {s:Str} {w:World} (h:zc6 X w l p) (hh:Here p ⟨k,s⟩ k i) (hs:s.size≤maxLen) (ha:a<(zbG p ⟨k,s⟩).methods.length):
  ∃cs:List Value,MthC X w cs (zbG p ⟨k,s⟩).methods[a]∧∀W,Fr No w W->Calls Tryz.prog 58 #[.pointer (some ⟨l,0,none⟩),.agg #[.int .i64 k,.string s,.int .i64 a]] W (Gives (.agg cs.toArray) W):=by
 obtain⟨Af,cf,Am,cm,hR,HC⟩:=zc8 h hh hs
 generalize zbG p ⟨k,s⟩=c at *
 obtain⟨vf,vm,he,_,_,_,hm⟩:=hR
 simp only[List.cons.injEq,true_and,and_true] at he
 obtain⟨rfl,rfl⟩:=he
 have hml:=hm.at_.2.2.1
 unfold maxLen at hml
 obtain⟨bm,om,Aa,ca,Ac,cc,Ax,cx,rfl,_,d0,d1,d2,d3,d4,d5,d6,d7,hr1,hr2,hr3,hr4,hr5,_,_,_,_,_,_⟩:=hm.mth ha
 refine⟨[.string c.methods[a].name,.slice Aa c.methods[a].args.length ca,.int .i64 c.methods[a].ret.kind,.string c.methods[a].ret.name,.int .i64 c.methods[a].locals,.int .i64 c.methods[a].stack,.slice Ac c.methods[a].code.length cc,.slice Ax c.methods[a].maps.length cx],⟨_,_,_,rfl,hr1,hr2,hr3,hr4,hr5⟩,fun w0 hW=>?_⟩
 clear hm hr1 hr2 hr3 hr4 hr5
 generalize c.methods[a]=m at *
 replace d0:=hW.keep0 d0
 replace d1:=hW.keep0 d1
 replace d2:=hW.keep0 d2
 replace d3:=hW.keep0 d3
 replace d4:=hW.keep0 d4
 replace d5:=hW.keep0 d5
 replace d6:=hW.keep0 d6
 replace d7:=hW.keep0 d7
 replace HC:=fun W' (h:Fr No w0 W')=>HC W' (hW.trans0 h)
 have hk0:(0:Int)≤(a:Int):=by omega
 have hka:(a:Int)<(c.methods.length:Int):=by omega
 clear hW h hh
 obtain⟨wA,hwA⟩:∃wA,wA=((w0.alloc (.cells #[.int .i64 k,.string s,.int .i64 a] 71)).alloc (.cells #[.string ⟨#[]⟩,.slice none 0 0,.int .i64 0,.string ⟨#[]⟩,.int .i64 0,.int .i64 0,.slice none 0 0,.slice none 0 0] 60)):=⟨_,rfl⟩
 have hfA:Fr No w0 wA:=hwA▸frc
 have B0:Bx wA w0.heap.size 71 #[.int .i64 k,.string s,.int .i64 a]:=hwA▸bxc
 have B1:Bx wA (w0.heap.size+1) 60 #[.string ⟨#[]⟩,.slice none 0 0,.int .i64 0,.string ⟨#[]⟩,.int .i64 0,.int .i64 0,.slice none 0 0,.slice none 0 0]:=hwA▸bxc
 replace d0:=cr (hfA.keep0 d0)
 replace d1:=cr (hfA.keep0 d1)
 replace d2:=cr (hfA.keep0 d2)
 replace d3:=cr (hfA.keep0 d3)
 replace d4:=cr (hfA.keep0 d4)
 replace d5:=cr (hfA.keep0 d5)
 replace d6:=cr (hfA.keep0 d6)
 replace d7:=cr (hfA.keep0 d7)
 have K0:=B0.r3
 go_enter Tryz.func58,Tryz.ntmps58
 go_wp2_with fail
 rw[<-hwA]
 clear hwA
 refine zn0 9 14 [mV (.pointer (some ⟨l,0,none⟩)),mV (.pointer (some ⟨w0.heap.size,0,none⟩)),mV (.agg #[.int .i64 k,.string s]),mV (.agg #[.string c.name,.string c.super,.slice Af c.fields.length cf,.slice (some ⟨bm,om,none⟩) c.methods.length cm]),mV (.slice (some ⟨bm,om,none⟩) c.methods.length cm),mV (.pointer (some ⟨w0.heap.size,2,none⟩)),mV (.int .i64 a),mV (.pointer (some ⟨bm,om+a * 8,none⟩)),mV (.agg #[.string m.name,.slice Aa m.args.length ca,.int .i64 m.ret.kind,.string m.ret.name,.int .i64 m.locals,.int .i64 m.stack,.slice Ac m.code.length cc,.slice Ax m.maps.length cx])] (by kernel_rfl) (by kernel_rfl) (by simp) ?_ ?_
 ·refine hc4 ?_ ?_ ?_ ?_ <| hc4 ?_ ?_ ?_ ?_ <| hopC ?_ <| hopZ
  all_goals (intro a' W hW hoff hdep;have hbs:=hW.size;have H0:=hoff 0 rfl;have H3:=hoff 3 rfl;refine nE rfl ?_)
  ·simp[execOp,Act.eval,H0,go_sem,zaa];exact fr1 rfl
  ·simp[execOp,Act.eval,H3,go_sem,zaa];exact fr1 rfl
  ·have D6:_=_:=hdep 1 6 rfl;clear hoff hdep;simp[execOp,Act.eval,go_sem,zaa, *];exact fr1 rfl
  ·have D5:_=_:=hdep 0 5 rfl;have D7:_=_:=hdep 2 7 rfl;simp[Act.eval,D5,D7,go_sem,zaa];exact(HC _ (hfA.trans0 hW)).mono fun e w'' h=>⟨_,h.1,h.2,rfl⟩
  ·have D8:_=_:=hdep 3 8 rfl;simp[execOp,Act.eval,D8,go_sem,zaa];exact fr1 rfl
  ·simp[execOp,Act.eval,H3,go_sem,zaa];exact fr1 rfl
  ·have D10:_=_:=hdep 5 10 rfl;clear hoff hdep;simp[execOp,Act.eval,go_sem,zaa, *];exact fr1 rfl
  ·have D9:_=_:=hdep 4 9 rfl;have D11:_=_:=hdep 6 11 rfl;clear hoff hdep;simp[execOp,Act.eval,go_sem,zaa, *];exact fr1 rfl
  ·have D12:_=_:=hdep 7 12 rfl;clear hoff hdep;simp[execOp,Act.eval,go_sem,zaa, *];exact fr1 rfl
 intro vs WR hWR hv hne
 simp only[lz6,List.drop_zero,znK,znR,Nat.zero_add,Nat.reduceAdd]
 simp only[Act.put,lz0,lz1,lz2]
 clear hv
 have q1:Fr No w0 WR:=hfA.trans0 hWR
 have B1':=B1.keep hWR
 obtain⟨z0,z1,z2,z3,z4,z5,z6,z7⟩:=B1'.c8
 have zf:=fun j=>B1'.frozen j
 have zl:=B1'.lt
 go_wp2
 refine bodyPost_ret (v:=.agg #[.string m.name,.slice Aa m.args.length ca,.int .i64 m.ret.kind,.string m.ret.name,.int .i64 m.locals,.int .i64 m.stack,.slice Ac m.code.length cc,.slice Ax m.maps.length cx]) (by simp[results,Tryz.results58,go_sem, *]) rfl ?_
 exact .mk1 rfl frc
end Go.Proofs.YthembcdcdnffeaaGreat
