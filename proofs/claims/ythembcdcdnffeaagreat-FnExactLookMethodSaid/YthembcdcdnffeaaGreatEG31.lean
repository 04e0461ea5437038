/- The reference's l5Plain: a place taken, or put. -/
import Derived.Test.YthembcdcdnffeaaGreatEG30
set_option maxHeartbeats 8000000
set_option maxRecDepth 100000
namespace Go.Proofs.YthembcdcdnffeaaGreat
open Go.RowKit
theorem zcB (X Y:Nat->Prop) (p:Plan) (v vl vs:Value) (k0:Nat) (m:Mth) (ms:List Value) (f:Frm) (i:Ins) (w:World) (_:lodB p=true) (h:Sl X w 2 (KprC X w) v p.keepers) (_:k0<p.keepers.length) (hm:MthC Y w ms m) (h5:m.stack≤5) (hI:FrmI w vl vs f) (_:f.stack.length≤1000) (hn:i.name.size≤maxLen) (hop:i.op=2) (ha0:0≤i.a) (ha1:i.a<f.locals.length) (_:f.locals.length≤1000):
  Calls Tryz.prog 76 #[.agg #[v],.int .i64 k0,.agg ms.toArray,.agg #[vl,vs],.agg #[.int .i64 i.op,.int .i64 i.a,.string i.name,.string i.member]] w (zfb vl vs (insF p k0 m f i) w):=by
 have hkw:=fun W (hW:Fr No w W)=>h.keep (R':=KprC X W) hW zN (fun _ _ _ h=>h.keep hW zN)
 have hmw:=fun W (hW:Fr No w W)=>hm.keep (Y:=No) hW zN
 have HP:=fun(x:Tag) (hx:x.name.size≤maxLen) W (hW:Fr No w W)=>(zfh Y m ms vl vs f x W (hmw W hW) h5 (hI.keep0 hW) hx).mono (fun _ _ h=>h.2)
 have hO:=zcs (p:=p) (k:=(k0:Int)) (m:=m) (f:=f) (i:=i) hop
 generalize insF p k0 m f i=O at *
 have hlt:=fun q (h:rB vl vs q)=>hI.lt h
 obtain⟨A,cap,rfl,_,_⟩:=h.form
 obtain⟨va,vc,vm,rfl,_,_,har,hcr,hxr⟩:=hm
 obtain⟨Aa,ca,rfl,_,_⟩:=har.form
 obtain⟨Ac,cc,rfl,_,_⟩:=hcr.form
 obtain⟨Ax,cx,rfl,_,_⟩:=hxr.form
 obtain⟨io,ia,inm,im⟩:=i
 dsimp only at *
 obtain⟨a,rfl⟩:∃a:Nat,ia=a:=⟨ia.toNat,by omega⟩
 have ha:a<f.locals.length:=by omega
 have hat:(a:Int).toNat=a:=by omega
 obtain⟨g,c,rfl,hgq,hc1,hc2,t0,t1,hxn,_⟩:=hI.loc.get2 ha
 obtain⟨As,cs,hv,_,_⟩:=hI.stk.1.form
 subst hv
 have hx0:f.locals.getD (a:Int).toNat noT=f.locals[a]:=by simp[ha]
 rw[hx0] at hO
 have HPx:=HP f.locals[a] hxn
 generalize f.locals[a]=x at *
 clear HP hx0
 clear h hkw hmw har hcr hxr
 subst hop
 obtain⟨wA,hwA⟩:∃wA,wA=((((((w.alloc (.cells #[.slice A p.keepers.length cap] 32)).alloc (.cells #[.string m.name,.slice Aa m.args.length ca,.int .i64 m.ret.kind,.string m.ret.name,.int .i64 m.locals,.int .i64 m.stack,.slice Ac m.code.length cc,.slice Ax m.maps.length cx] 60)).alloc (.cells #[.slice (some ⟨g,0,none⟩) f.locals.length c,.slice As f.stack.length cs] tFr)).alloc (.cells #[.int .i64 2,.int .i64 a,.string inm,.string im] 101)).alloc (.cells #[.slice none 0 0,.slice none 0 0] tFr)).alloc (.cells #[.int .i64 1,.string ⟨#[]⟩] tTag)):=⟨_,rfl⟩
 have hfA:Fr No w wA:=hwA▸frc
 have hsA:wA.heap.size=w.heap.size+6:=by rw[hwA];simp
 have B0:=(hwA▸bxc:Bx wA w.heap.size 32 #[.slice A p.keepers.length cap])
 have B1:=(hwA▸bxc:Bx wA (w.heap.size+1) 60 #[.string m.name,.slice Aa m.args.length ca,.int .i64 m.ret.kind,.string m.ret.name,.int .i64 m.locals,.int .i64 m.stack,.slice Ac m.code.length cc,.slice Ax m.maps.length cx])
 have B2:=(hwA▸bxc:Bx wA (w.heap.size+2) tFr #[.slice (some ⟨g,0,none⟩) f.locals.length c,.slice As f.stack.length cs])
 have B3:=(hwA▸bxc:Bx wA (w.heap.size+3) 101 #[.int .i64 2,.int .i64 a,.string inm,.string im])
 have B4:=(hwA▸bxc:Bx wA (w.heap.size+4) tFr #[.slice none 0 0,.slice none 0 0])
 have B5:=(hwA▸bxc:Bx wA (w.heap.size+5) tTag #[.int .i64 1,.string ⟨#[]⟩])
 have KT0:=cr (hfA.keep0 t0)
 have KT1:=cr (hfA.keep0 t1)
 go_enter Tryz.func76,Tryz.ntmps76
 by_cases hk:x.kind=0
 ·rw[if_pos hk] at hO
  subst hO
  have hkb:(x.kind == 0)=true:=by simpa using hk
  have x0:=(KT0 wA (Fr.refl _ _)).1
  rw[hwA] at x0
  clear HPx KT0 KT1 hk t0 t1 B0 B1 B2 B3 B4 B5
  go_wp2
  refine bodyPost_ret (v:=.tuple #[.agg #[.slice (some ⟨g,0,none⟩) f.locals.length c,.slice As f.stack.length cs],.bool false]) (by simp[results,Tryz.results76,go_sem, *]) rfl ?_
  refine⟨Fr.of0 ?_,_,_,_,_,_,_,rfl⟩
  exact frc
 ·rw[if_neg hk] at hO
  have hkb:(x.kind == 0)=false:=by simpa using hk
  have x0:=(KT0 wA (Fr.refl _ _)).1
  rw[hwA] at x0
  clear t0 t1
  go_wp2_with fail
  rw[<-hwA]
  clear x0
  replace hwA:=Lib.hid hwA
  have K1:=B1.r8
  have K2:=B2.r2
  have K3:=B3.r4
  refine znI 11 51 [mV (.agg #[.string m.name,.slice Aa m.args.length ca,.int .i64 m.ret.kind,.string m.ret.name,.int .i64 m.locals,.int .i64 m.stack,.slice Ac m.code.length cc,.slice Ax m.maps.length cx]),mV (.agg #[.slice (some ⟨g,0,none⟩) f.locals.length c,.slice As f.stack.length cs]),mV (.pointer (some ⟨w.heap.size+2,0,none⟩)),mV (.slice (some ⟨g,0,none⟩) f.locals.length c),mV (.pointer (some ⟨w.heap.size+3,1,none⟩)),mV (.int .i64 a),mV (.pointer (some ⟨g,a * 2,none⟩)),mV (.agg #[.int .i64 x.kind,.string x.name]),mC (resV (.slice (some ⟨g,0,none⟩) f.locals.length c) (.slice As f.stack.length cs) O w.heap.size) (zlF _ _ _ _),mC (resA (.slice (some ⟨g,0,none⟩) f.locals.length c) (.slice As f.stack.length cs) O w.heap.size) (zlG _ _ _ _),mV (.bool O.isSome)] [mV (.agg #[.string m.name,.slice Aa m.args.length ca,.int .i64 m.ret.kind,.string m.ret.name,.int .i64 m.locals,.int .i64 m.stack,.slice Ac m.code.length cc,.slice Ax m.maps.length cx]),mV (.agg #[.slice (some ⟨g,0,none⟩) f.locals.length c,.slice As f.stack.length cs]),mV (.pointer (some ⟨w.heap.size+2,0,none⟩)),mV (.slice (some ⟨g,0,none⟩) f.locals.length c),mV (.pointer (some ⟨w.heap.size+3,1,none⟩)),mV (.int .i64 a),mV (.pointer (some ⟨g,a * 2,none⟩)),mV (.agg #[.int .i64 x.kind,.string x.name]),mC (resV (.slice (some ⟨g,0,none⟩) f.locals.length c) (.slice As f.stack.length cs) O w.heap.size) (zlF _ _ _ _),mC (resA (.slice (some ⟨g,0,none⟩) f.locals.length c) (.slice As f.stack.length cs) O w.heap.size) (zlG _ _ _ _),mV (.bool O.isSome)] [0,0,0,0,0,0,0,0,3,1,1] 8 (fun _ _=>False) (fun W=>Fr (rB (.slice (some ⟨g,0,none⟩) f.locals.length c) (.slice As f.stack.length cs)) wA W) (fun _ _=>True) (by kernel_rfl) (by kernel_rfl) (by simp) (fun W W' h hf=>h.trans0 hf) ?_ ?_ ?_ ?_ ?_ ?_
  ·exact fun v W W' hs=>⟨fun _ h=>h,⟨fun _ h=>h,⟨fun _ h=>h,⟨fun _ h=>h,⟨fun _ h=>h,⟨fun _ h=>h,⟨fun _ h=>h,⟨fun _ h=>h,⟨fun h=>absurd h (by decide),⟨fun h=>absurd h (by decide),⟨fun h=>absurd h (by decide),trivial⟩⟩⟩⟩⟩⟩⟩⟩⟩⟩⟩
  ·refine⟨fun _=>?_,⟨fun _=>?_,⟨fun _=>?_,⟨fun _=>?_,⟨fun _=>?_,⟨fun _=>?_,⟨fun _=>?_,⟨fun _=>?_,⟨fun h=>absurd h (by decide),⟨fun h=>absurd h (by decide),⟨fun h=>absurd h (by decide),trivial⟩⟩⟩⟩⟩⟩⟩⟩⟩⟩⟩
   all_goals (intro a' W hW hoff hdep;have hbs:=hW.size;have H7:=hoff 7 rfl;have H8:=hoff 8 rfl;have H9:=hoff 9 rfl;refine nE rfl ?_)
   ·clear hoff hdep;simp[execOp,Act.eval,go_sem,zaa, *]
    exact fr1 rfl
   ·clear hoff hdep;simp[execOp,Act.eval,go_sem,zaa, *]
    exact fr1 rfl
   ·simp[execOp,Act.eval,H8,go_sem,zaa]
    exact fr1 rfl
   ·have D42:_=_:=hdep 2 42 rfl
    clear hoff hdep;simp[execOp,Act.eval,go_sem,zaa, *]
    exact fr1 rfl
   ·simp[execOp,Act.eval,H9,go_sem,zaa]
    exact fr1 rfl
   ·have D44:_=_:=hdep 4 44 rfl
    clear hoff hdep;simp[execOp,Act.eval,go_sem,zaa, *]
    exact fr1 rfl
   ·have D43:_=_:=hdep 3 43 rfl
    have D45:_=_:=hdep 5 45 rfl
    clear hoff hdep;simp[execOp,Act.eval,go_sem,zaa, *]
    exact fr1 rfl
   ·have D46:_=_:=hdep 6 46 rfl
    clear hoff hdep;simp[execOp,Act.eval,go_sem,zaa, *]
    exact fr1 rfl
  ·refine⟨fun h=>absurd h (by decide),⟨fun h=>absurd h (by decide),⟨fun h=>absurd h (by decide),⟨fun h=>absurd h (by decide),⟨fun h=>absurd h (by decide),⟨fun h=>absurd h (by decide),⟨fun h=>absurd h (by decide),⟨fun h=>absurd h (by decide),⟨fun h=>absurd h (by decide),⟨fun _=>?_,⟨fun _=>?_,trivial⟩⟩⟩⟩⟩⟩⟩⟩⟩⟩⟩
   all_goals (intro a' W hW hoff hdep;have hbs:=(fun W h=>h.size) W hW;refine nE rfl ?_)
   ·obtain⟨A1,n1,c1,A2,n2,c2,D48,hr⟩:(resV (.slice (some ⟨g,0,none⟩) f.locals.length c) (.slice As f.stack.length cs) O w.heap.size) _ W:=hdep 8 48 rfl
    simp[execOp,Act.eval,D48,go_sem,zaa]
    exact⟨Fr.refl _ _,_,_,_,_,_,_,rfl,hr⟩
   ·obtain⟨A1,n1,c1,A2,n2,c2,D48,hr⟩:(resV (.slice (some ⟨g,0,none⟩) f.locals.length c) (.slice As f.stack.length cs) O w.heap.size) _ W:=hdep 8 48 rfl
    simp[execOp,Act.eval,D48,go_sem,zaa]
    exact fr1 rfl
  ·intro o r ho hr a' W hW hoff hdep
   have hbs:=hW.size
   cases ho;cases hr
   have D40:_=_:=hdep 0 40 rfl
   have D41:_=_:=hdep 1 41 rfl
   have D47:_=_:=hdep 7 47 rfl
   simp[Act.eval,D40,D41,D47,go_sem,zlP]
   exact(HPx W (hfA.trans0 hW)).mono fun e w'' h=>(let ⟨v,h1,h2,h3⟩:=zcy (hfA.trans0 hW) rfl (hO▸h);⟨v,h1,hW.of0.same h2,h3⟩)
  ·exact fun _ _ _ _ h=>h.elim
  intro vs WR hWR hv hne
  obtain⟨A1R8,n1R8,c1R8,A2R8,n2R8,c2R8,e8,hrR8⟩:=hv 8 (by omega)
  obtain⟨A1R9,n1R9,c1R9,A2R9,n2R9,c2R9,e9,hrR9⟩:=hv 9 (by omega)
  simp only[lz6,List.drop_zero,znM,znK,znR,Nat.zero_add,Nat.reduceAdd,e8,e9]
  simp only[Act.put,lz0,lz1,lz2]
  clear e8 e9 hv
  have F4:=B4.keepX hWR (fun h=>by have:=hlt _ h;omega)
  obtain⟨e0,e1⟩:=F4.c2
  have ef:=fun i=>F4.frozen i
  have el:=F4.lt
  clear K1 K2 K3 KT0 KT1 HPx
  go_wp2
  refine bodyPost_ret (v:=.tuple #[.agg #[.slice A1R9 n1R9 c1R9,.slice A2R9 n2R9 c2R9],.bool O.isSome]) (by simp[results,Tryz.results76,go_sem, *]) rfl ?_
  have hst:Fr (fun b=>b=w.heap.size+4) WR ((WR.setCell ⟨w.heap.size+4,0,none⟩ (.slice A1R9 n1R9 c1R9)).setCell ⟨w.heap.size+4,1,none⟩ (.slice A2R9 n2R9 c2R9)):=((Fr.refl (fun b=>b=w.heap.size+4) WR).setCellX (p:=⟨w.heap.size+4,0,none⟩) (Eq.refl (w.heap.size+4)) _).setCellX (p:=⟨w.heap.size+4,1,none⟩) (Eq.refl (w.heap.size+4)) _
  exact⟨((hfA.of0).same hWR).trans hst (fun b hb e=>by omega),hrR9.store F4⟩
theorem zcC (X Y:Nat->Prop) (p:Plan) (v vl vs:Value) (k0:Nat) (m:Mth) (ms:List Value) (f:Frm) (i:Ins) (w:World) (hp:lodB p=true) (h:Sl X w 2 (KprC X w) v p.keepers) (hk0:k0<p.keepers.length) (hm:MthC Y w ms m) (hI:FrmI w vl vs f) (hXr:∀q,rB vl vs q->X q) (hl:f.stack.length≤1000) (hop:i.op=3) (ha0:0≤i.a) (ha1:i.a<f.locals.length) (_:f.locals.length≤1000):
  Calls Tryz.prog 76 #[.agg #[v],.int .i64 k0,.agg ms.toArray,.agg #[vl,vs],.agg #[.int .i64 i.op,.int .i64 i.a,.string i.name,.string i.member]] w (zfb vl vs (insF p k0 m f i) w):=by
 have HP:=fun(g:Frm) W (hW:Fr (rB vl vs) w W) (hJ:FrmI W vl vs g) (hl:g.stack.length≤1000)=>zkJ X p v vl vs k0 g noT W hp (h.keep (R':=KprC X W) hW hXr (fun _ _ _ h=>h.keep hW hXr)) hk0 hJ hl (Nat.zero_le _)
 have hO:=zct (p:=p) (k:=(k0:Int)) (m:=m) (f:=f) (i:=i) hop
 generalize insF p k0 m f i=O at *
 have hlt:=fun q (h:rB vl vs q)=>hI.lt h
 obtain⟨A,cap,rfl,_,_⟩:=h.form
 obtain⟨va,vc,vm,rfl,_,_,har,hcr,hxr⟩:=hm
 obtain⟨Aa,ca,rfl,_,_⟩:=har.form
 obtain⟨Ac,cc,rfl,_,_⟩:=hcr.form
 obtain⟨Ax,cx,rfl,_,_⟩:=hxr.form
 obtain⟨io,ia,inm,im⟩:=i
 dsimp only at *
 obtain⟨a,rfl⟩:∃a:Nat,ia=a:=⟨ia.toNat,by omega⟩
 have ha:a<f.locals.length:=by omega
 rw[show(a:Int).toNat=a by omega] at hO
 obtain⟨g,c,rfl,hgq,hc1,hc2,_,_,_,_⟩:=hI.loc.get2 ha
 clear h har hcr hxr
 subst hop
 rcases ze2 f.stack with ⟨h0,ht0⟩ | ⟨ys,x,h0,ht0⟩
 ·rw[ht0] at hO
  subst hO
  obtain⟨As,cs,hv,_,_⟩:=(h0▸hI.stk).1.form
  rw[List.length_nil] at hv
  subst hv
  clear HP hI ht0 h0
  go_enter Tryz.func76,Tryz.ntmps76
  go_wp2
  refine bodyPost_ret (v:=.tuple #[.agg #[.slice (some ⟨g,0,none⟩) f.locals.length c,.slice As 0 cs],.bool false]) (by simp[results,Tryz.results76,go_sem]) rfl ?_
  refine⟨Fr.of0 ?_,_,_,_,_,_,_,rfl⟩
  exact frc
 ·rw[ht0,Option.map_some] at hO
  have hsl:f.stack.length=ys.length+1:=by rw[h0];simp
  obtain⟨gs,cs,rfl,hq,hs1,hs2,t0,t1,hxn⟩:=(h0▸hI.stk).top
  obtain⟨wA,hwA⟩:∃wA,wA=((((((w.alloc (.cells #[.slice A p.keepers.length cap] 32)).alloc (.cells #[.string m.name,.slice Aa m.args.length ca,.int .i64 m.ret.kind,.string m.ret.name,.int .i64 m.locals,.int .i64 m.stack,.slice Ac m.code.length cc,.slice Ax m.maps.length cx] 60)).alloc (.cells #[.slice (some ⟨g,0,none⟩) f.locals.length c,.slice (some ⟨gs,0,none⟩) (ys.length+1) cs] tFr)).alloc (.cells #[.int .i64 3,.int .i64 a,.string inm,.string im] 101)).alloc (.cells #[.slice none 0 0,.slice none 0 0] tFr)).alloc (.cells #[.int .i64 1,.string ⟨#[]⟩] tTag)):=⟨_,rfl⟩
  have hfA:Fr No w wA:=hwA▸frc
  have hsA:wA.heap.size=w.heap.size+6:=by rw[hwA];simp
  have B0:=(hwA▸bxc:Bx wA w.heap.size 32 #[.slice A p.keepers.length cap])
  have B2:=(hwA▸bxc:Bx wA (w.heap.size+2) tFr #[.slice (some ⟨g,0,none⟩) f.locals.length c,.slice (some ⟨gs,0,none⟩) (ys.length+1) cs])
  have B3:=(hwA▸bxc:Bx wA (w.heap.size+3) 101 #[.int .i64 3,.int .i64 a,.string inm,.string im])
  have B4:=(hwA▸bxc:Bx wA (w.heap.size+4) tFr #[.slice none 0 0,.slice none 0 0])
  have K2:=B2.r2
  have K3:=B3.r4
  have KT0:=cr (hfA.keep0 t0)
  have KT1:=cr (hfA.keep0 t1)
  have hsub:IntKind.i64.wrap (ys.length:Int)=(ys.length:Int):=IntWalk.i64_in _ (by omega)
  have hb0:((ys.length:Int)+1 == 0)=false:=by simp only[beq_eq_false_iff_ne,ne_eq];omega
  unfold maxLen at hs2 hc2
  have hJ0:=hI.keep0 hfA
  clear ht0 t0 t1
  replace hI:=Lib.hid hI
  replace hJ0:=Lib.hid hJ0
  replace h0:=Lib.hid h0
  replace hsl:=Lib.hid hsl
  go_enter Tryz.func76,Tryz.ntmps76
  go_wp2_with fail
  rw[<-hwA]
  replace hwA:=Lib.hid hwA
  refine zn0 11 70 [mV (.pointer (some ⟨w.heap.size+2,0,none⟩)),mV (.slice (some ⟨g,0,none⟩) f.locals.length c),mV (.pointer (some ⟨w.heap.size+3,1,none⟩)),mV (.int .i64 a),mV (.pointer (some ⟨w.heap.size+2,1,none⟩)),mV (.slice (some ⟨gs,0,none⟩) (ys.length+1) cs),mV (.int .i64 ((ys.length+1:Nat):Int)),mV (.int .i64 ys.length),mV (.pointer (some ⟨gs,ys.length * 2,none⟩)),mV (.agg #[.int .i64 x.kind,.string x.name]),mV (.pointer (some ⟨g,a * 2,none⟩))] (by kernel_rfl) (by kernel_rfl) (by simp) ?_ ?_
  ·refine hc4 ?_ ?_ ?_ ?_ <| hc4 ?_ ?_ ?_ ?_ <| hopC ?_ <| hopC ?_ <| hopC ?_ <| hopZ
   all_goals (intro a' W hW hoff hdep;have hbs:=hW.size;have H8:=hoff 8 rfl;have H9:=hoff 9 rfl;have H13:=hoff 13 rfl;refine nE rfl ?_)
   ·simp[execOp,Act.eval,H8,go_sem,zaa];exact fr1 rfl
   ·have D59:_=_:=hdep 0 59 rfl;clear hoff hdep;simp[execOp,Act.eval,go_sem,zaa, *];exact fr1 rfl
   ·simp[execOp,Act.eval,H9,go_sem,zaa];exact fr1 rfl
   ·have D61:_=_:=hdep 2 61 rfl;clear hoff hdep;simp[execOp,Act.eval,go_sem,zaa, *];exact fr1 rfl
   ·simp[execOp,Act.eval,H8,go_sem,zaa];exact fr1 rfl
   ·have D63:_=_:=hdep 4 63 rfl;clear hoff hdep;simp[execOp,Act.eval,go_sem,zaa, *];exact fr1 rfl
   ·simp[execOp,Act.eval,H13,go_sem,zaa];exact fr1 rfl
   ·have D65:_=_:=hdep 6 65 rfl;simp[execOp,Act.eval,D65,go_sem,zaa];exact⟨Fr.refl _ _,by show Value.int _ _=_;rw[hsub]⟩
   ·have D64:_=_:=hdep 5 64 rfl;have D66:_=_:=hdep 7 66 rfl;clear hoff hdep;simp[execOp,Act.eval,go_sem,zaa,↓IntWalk.iteOmega, *];exact fr1 rfl
   ·have D67:_=_:=hdep 8 67 rfl;clear hoff hdep;simp[execOp,Act.eval,go_sem,zaa, *];exact fr1 rfl
   ·have D60:_=_:=hdep 1 60 rfl;have D62:_=_:=hdep 3 62 rfl;clear hoff hdep;simp[execOp,Act.eval,go_sem,zaa, *];exact fr1 rfl
  intro vs WR hWR hv hne
  simp only[lz6,List.drop_zero,znK,znR,Nat.zero_add,Nat.reduceAdd]
  simp only[Act.put,lz0,lz1,lz2]
  clear hv
  have hJR:=hJ0.out.keep0 hWR
  obtain⟨hJS,hfS⟩:=hJR.set ha hxn
  obtain⟨g',c',he,_,_,_,u0,u1,_,uf⟩:=hJR.loc.get2 ha
  cases he
  have ul:=lt_of_cell u0
  have hq1:Fr No w WR:=hfA.trans0 hWR
  have hF:=(hq1.of0).same hfS
  have F0:=(B0.keep hWR).keepX hfS (fun h=>by have:=hlt _ h;omega)
  have F2:=(B2.keep hWR).keepX hfS (fun h=>by have:=hlt _ h;omega)
  have F4:=(B4.keep hWR).keepX hfS (fun h=>by have:=hlt _ h;omega)
  have HPS:=HP ⟨f.locals.set a x,f.stack⟩ _ hF hJS hl
  have hpf:popF p k0 f.stack noT=some ys:=by rw[h0.out,zkG (ze1 ys x),zcw];rfl
  dsimp only at HPS
  rw[hpf] at HPS
  have z0:=F0.c1
  have zl:=F0.lt
  obtain⟨d0,d1⟩:=F2.c2
  have dl:=F2.lt
  have hO2:Hid (O=(some ys).map (⟨f.locals.set a x,·⟩)):=hO
  clear K2 K3 KT0 KT1 HP hpf hO
  replace hJS:=Lib.hid hJS
  replace hfS:=Lib.hid hfS
  replace hF:=Lib.hid hF
  replace F4:=Lib.hid F4
  have hlen:(f.locals.set a x).length=f.locals.length:=by simp
  go_wp2_with fail
  refine HPS.mono ?_
  rintro e w3 hres
  have hres1:=hres.n hJS.out
  have hf3:=hres1.1
  have G4:=F4.out.keep hf3
  have hres2:=hres1.2.then (vl:=.slice (some ⟨g,0,none⟩) f.locals.length c) (vs:=.slice (some ⟨gs,0,none⟩) (ys.length+1) cs) (w0:=w) hF.out.size (fun q h=>.inl h)
  have hF3:=hF.out.trans hf3 (fun b hb h=>h.elim)
  have hO3:=hO2.out
  rw[<-hO3] at hres2
  obtain⟨A1,n1,c1,A2,n2,c2,rfl⟩:=hres2.is
  clear z0 zl d0 d1 dl u0 u1 uf ul hres hres1 HPS hO2 hO3
  obtain⟨e0,e1⟩:=G4.c2
  have ef:=fun i=>G4.frozen i
  have el:=G4.lt
  replace hF3:=Lib.hid hF3
  replace hres2:=Lib.hid hres2
  go_wp2
  refine bodyPost_ret (v:=.tuple #[.agg #[.slice A1 n1 c1,.slice A2 n2 c2],.bool O.isSome]) (by simp[results,Tryz.results76,go_sem, *]) rfl ?_
  have hst:Fr (fun b=>b=w.heap.size+4) w3 ((w3.setCell ⟨w.heap.size+4,0,none⟩ (.slice A1 n1 c1)).setCell ⟨w.heap.size+4,1,none⟩ (.slice A2 n2 c2)):=((Fr.refl (fun b=>b=w.heap.size+4) w3).setCellX (p:=⟨w.heap.size+4,0,none⟩) (Eq.refl (w.heap.size+4)) _).setCellX (p:=⟨w.heap.size+4,1,none⟩) (Eq.refl (w.heap.size+4)) _
  exact⟨hF3.out.trans hst (fun b hb e=>by omega),hres2.out.store G4⟩
theorem zid {p:Plan} {k:Int} {m:Mth} {f:Frm} {i:Ins} (h:i.op=7):insF p k m f i=if (getB p k i.name i.member).2=1 then zlM p k m f i else none:=by unfold insF zlM;simp[h]
theorem zie {p:Plan} {k:Int} {m:Mth} {f:Frm} {i:Ins} (h:i.op=8):insF p k m f i=if (getB p k i.name i.member).2=1 then zlN p k f i else none:=by unfold insF zlN;simp[h]
theorem zif {p:Plan} {k:Int} {m:Mth} {f:Frm} {i:Ins} (h:i.op=9):insF p k m f i=if (zd4 p k i.name i.member).2=1 then zcp p k m f i else none:=by unfold insF zcp;simp[h]
theorem zih {p:Plan} {k:Int} {m:Mth} {f:Frm} {i:Ins} (h:i.op=10):insF p k m f i=(popF p k f.stack (zel m.ret)).map (⟨f.locals,·⟩):=by unfold insF;simp[h]
theorem zii {i:Ins} (h:insB i=true):i.op=1∨i.op=2∨i.op=3∨i.op=4∨i.op=5∨i.op=6∨i.op=7∨i.op=8∨i.op=9∨i.op=10∨i.op=11∨i.op=12∨i.op=13∨i.op=14∨i.op=15:=by
 unfold insB at h
 split at h
 ·rename_i h1;simp[zft] at h1;omega
 ·split at h
  ·rename_i h1;simp[zfu] at h1;omega
  ·split at h
   ·rename_i h1;simp[zfv] at h1;omega
   ·simp[zfw] at h;omega
theorem zij {i:Ins} (h:insB i=true) (ho:i.op=7∨i.op=8∨i.op=9):namB i.member=true:=by
 unfold insB at h
 rcases ho with ho|ho|ho<;>(simp[zft,zfu,zfv,ho] at h;exact h.2)
theorem zik {l n:Int} {i:Ins} (h:zfV l n i=true) (ho:i.op=2∨i.op=3):0≤i.a∧i.a<l:=by
 unfold zfV at h
 rw[lz5] at h
 obtain⟨h1,h2⟩:=h
 unfold insB at h1
 rcases ho with ho|ho<;>(simp[zft,zfx,ho] at h1 h2;exact⟨by omega,h2⟩)
theorem zil (X Y:Nat->Prop) (p:Plan) (v vl vs:Value) (k0:Nat) (m:Mth) (ms:List Value) (f:Frm) (i:Ins) (w:World) (hp:lodB p=true) (h:Sl X w 2 (KprC X w) v p.keepers) (hk0:k0<p.keepers.length) (hm:MthC Y w ms m) (h5:m.stack≤5) (h6:m.locals≤6) (hI:FrmI w vl vs f) (hXr:∀q,rB vl vs q->X q) (hl:f.stack.length≤1000) (hll:(f.locals.length:Int)=m.locals) (hn:i.name.size≤maxLen) {n:Int} (hia:zfV m.locals n i=true) (ho:i.op≠7∧i.op≠8∧i.op≠9∧i.op≠10):
  Calls Tryz.prog 76 #[.agg #[v],.int .i64 k0,.agg ms.toArray,.agg #[vl,vs],.agg #[.int .i64 i.op,.int .i64 i.a,.string i.name,.string i.member]] w (zfb vl vs (insF p k0 m f i) w):=by
 have hib:insB i=true:=by unfold zfV at hia;rw[lz5] at hia;exact hia.1
 have hpc:=zik hia
 rcases zii hib with h1|h1|h1|h1|h1|h1|h1|h1|h1|h1|h1|h1|h1|h1|h1
 ·exact zpQ X Y p v vl vs k0 m ms f i w hp h hk0 hm h5 hI hl hn (by omega)
 ·obtain⟨a0,a1⟩:=hpc (.inl h1)
  exact zcB X Y p v vl vs k0 m ms f i w hp h hk0 hm h5 hI hl hn h1 a0 (by omega) (by omega)
 ·obtain⟨a0,a1⟩:=hpc (.inr h1)
  exact zcC X Y p v vl vs k0 m ms f i w hp h hk0 hm hI hXr hl h1 a0 (by omega) (by omega)
 ·exact zcz X Y p v vl vs k0 m ms f i w hp h hk0 hm h5 hI hl hn h1
 ·exact zpQ X Y p v vl vs k0 m ms f i w hp h hk0 hm h5 hI hl hn (by omega)
 ·exact zpQ X Y p v vl vs k0 m ms f i w hp h hk0 hm h5 hI hl hn (by omega)
 ·exact absurd h1 ho.1
 ·exact absurd h1 ho.2.1
 ·exact absurd h1 ho.2.2.1
 ·exact absurd h1 ho.2.2.2
 ·exact zpQ X Y p v vl vs k0 m ms f i w hp h hk0 hm h5 hI hl hn (by omega)
 ·exact zpQ X Y p v vl vs k0 m ms f i w hp h hk0 hm h5 hI hl hn (by omega)
 ·exact zm2 X Y p v vl vs k0 m ms f i w hp h hk0 hm h5 hI hl hn h1
 ·exact zpQ X Y p v vl vs k0 m ms f i w hp h hk0 hm h5 hI hl hn (by omega)
 ·exact zcA X Y p v vl vs k0 m ms f i w hp h hk0 hm h5 hI hl hn h1
theorem zim (X Y:Nat->Prop) (p:Plan) (v vl vs:Value) (k0:Nat) (m:Mth) (ms:List Value) (f:Frm) (i:Ins) (w:World) (hp:lodB p=true) (h:Sl X w 2 (KprC X w) v p.keepers) (hk0:k0<p.keepers.length) (hm:MthC Y w ms m) (h5:m.stack≤5) (hI:FrmI w vl vs f) (hl:f.stack.length≤1000) (hn:i.name.size≤maxLen) (hx:i.member.size≤maxLen) (hib:insB i=true) (ho:i.op=7∨i.op=8∨i.op=9):
  Calls Tryz.prog 74 #[.agg #[v],.int .i64 k0,.agg ms.toArray,.agg #[vl,vs],.agg #[.int .i64 i.op,.int .i64 i.a,.string i.name,.string i.member]] w (zfb vl vs (insF p k0 m f i) w):=by
 have hmem:=zij hib ho
 rcases ho with h1|h1|h1
 ·rw[zid h1]
  exact(zlO X Y p v vl vs k0 m ms f i w hp h hk0 hm h5 hI hl hn hx hmem h1).mono fun _ _ h=>h.post
 ·rw[zie h1]
  exact(zcl X Y p v vl vs k0 m ms f i w hp h hk0 hm hI hl hn hx hmem h1).mono fun _ _ h=>h.post
 ·rw[zif h1]
  exact(zcr X Y p v vl vs k0 m ms f i w hp h hk0 hm h5 hI hl hn hx hmem h1).mono fun _ _ h=>h.post
theorem zin (X Y:Nat->Prop) (p:Plan) (v vl vs:Value) (k0:Nat) (m:Mth) (ms:List Value) (f:Frm) (i:Ins) (w:World) (hp:lodB p=true) (h:Sl X w 2 (KprC X w) v p.keepers) (hk0:k0<p.keepers.length) (hm:MthC Y w ms m) (h5:m.stack≤5) (h6:m.locals≤6) (hI:FrmI w vl vs f) (hXr:∀q,rB vl vs q->X q) (hl:f.stack.length≤1000) (hll:(f.locals.length:Int)=m.locals) (hn:i.name.size≤maxLen) (hx:i.member.size≤maxLen) {n:Int} (hia:zfV m.locals n i=true):
  Calls Tryz.prog 47 #[.agg #[v],.int .i64 k0,.agg ms.toArray,.agg #[vl,vs],.agg #[.int .i64 i.op,.int .i64 i.a,.string i.name,.string i.member]] w (zfb vl vs (insF p k0 m f i) w):=by
 have hib:insB i=true:=by unfold zfV at hia;rw[lz5] at hia;exact hia.1
 have hkw:=fun W (hW:Fr No w W)=>h.keep (R':=KprC X W) hW zN (fun _ _ _ h=>h.keep hW zN)
 have hmw:=fun W (hW:Fr No w W)=>hm.keep (Y:=No) hW zN
 have HM:=fun(ho:i.op=7∨i.op=8∨i.op=9) W (hW:Fr No w W)=>zim X Y p v vl vs k0 m ms f i W hp (hkw W hW) hk0 (hmw W hW) h5 (hI.keep0 hW) hl hn hx hib ho
 have HPl:=fun(ho:i.op≠7∧i.op≠8∧i.op≠9∧i.op≠10) W (hW:Fr No w W)=>zil X Y p v vl vs k0 m ms f i W hp (hkw W hW) hk0 (hmw W hW) h5 h6 (hI.keep0 hW) hXr hl hll hn hia ho
 have HR:=fun(hr:(zel m.ret).name.size≤maxLen) W (hW:Fr No w W)=>(zkJ X p v vl vs k0 f (zel m.ret) W hp (hkw W hW) hk0 (hI.keep0 hW) hl hr).mono (fun _ _ h=>PopP.n (hI.keep0 hW) h)
 have hO:=zih (p:=p) (k:=(k0:Int)) (m:=m) (f:=f) (i:=i)
 have hlt:=fun q (h:rB vl vs q)=>hI.lt h
 generalize insF p k0 m f i=O at *
 obtain⟨A,cap,rfl,_,_⟩:=h.form
 obtain⟨va,vc,vm,rfl,_,hrn,har,hcr,hxr⟩:=hm
 have hts:=zkS hrn
 have HT:=fun W=>zkM m.ret W hrn
 have HRw:=HR hts
 generalize zel m.ret=tg at *
 obtain⟨Aa,ca,rfl,_,_⟩:=har.form
 obtain⟨Ac,cc,rfl,_,_⟩:=hcr.form
 obtain⟨Ax,cx,rfl,_,_⟩:=hxr.form
 obtain⟨Al,cl,As,cs,rfl,rfl,_,_,_,_⟩:=hI.form
 obtain⟨io,ia,inm,im⟩:=i
 dsimp only at *
 clear h hkw hmw har hcr hxr hI HR hia
 obtain⟨wA,hwA⟩:∃wA,wA=(((((w.alloc (.cells #[.slice A p.keepers.length cap] 32)).alloc (.cells #[.string m.name,.slice Aa m.args.length ca,.int .i64 m.ret.kind,.string m.ret.name,.int .i64 m.locals,.int .i64 m.stack,.slice Ac m.code.length cc,.slice Ax m.maps.length cx] 60)).alloc (.cells #[.slice Al f.locals.length cl,.slice As f.stack.length cs] tFr)).alloc (.cells #[.int .i64 io,.int .i64 ia,.string inm,.string im] 101)).alloc (.cells #[.slice none 0 0,.slice none 0 0] tFr)):=⟨_,rfl⟩
 have hfA:Fr No w wA:=hwA▸frc
 have hsA:wA.heap.size=w.heap.size+5:=by rw[hwA];simp
 have B0:=(hwA▸bxc:Bx wA w.heap.size 32 #[.slice A p.keepers.length cap])
 have B1:=(hwA▸bxc:Bx wA (w.heap.size+1) 60 #[.string m.name,.slice Aa m.args.length ca,.int .i64 m.ret.kind,.string m.ret.name,.int .i64 m.locals,.int .i64 m.stack,.slice Ac m.code.length cc,.slice Ax m.maps.length cx])
 have B2:=(hwA▸bxc:Bx wA (w.heap.size+2) tFr #[.slice Al f.locals.length cl,.slice As f.stack.length cs])
 have B4:=(hwA▸bxc:Bx wA (w.heap.size+4) tFr #[.slice none 0 0,.slice none 0 0])
 have hfin:∀w1 e (A1 A2:Option Addr) (n1 c1 n2 c2:Nat),zfb (.slice Al f.locals.length cl) (.slice As f.stack.length cs) O wA e w1->e=.returned (.tuple #[.agg #[.slice A1 n1 c1,.slice A2 n2 c2],.bool O.isSome])->zfb (.slice Al f.locals.length cl) (.slice As f.stack.length cs) O w e ((w1.setCell ⟨w.heap.size+4,0,none⟩ (.slice A1 n1 c1)).setCell ⟨w.heap.size+4,1,none⟩ (.slice A2 n2 c2)):=fun w1 e A1 A2 n1 c1 n2 c2 hres he=>by
  subst he
  have C4:=B4.keepX hres.1 (fun h=>by have:=hlt _ h;omega)
  replace hres:=hres.from hfA
  have hst:Fr (fun b=>b=w.heap.size+4) w1 ((w1.setCell ⟨w.heap.size+4,0,none⟩ (.slice A1 n1 c1)).setCell ⟨w.heap.size+4,1,none⟩ (.slice A2 n2 c2)):=((Fr.refl (fun b=>b=w.heap.size+4) w1).setCellX (p:=⟨w.heap.size+4,0,none⟩) (Eq.refl (w.heap.size+4)) _).setCellX (p:=⟨w.heap.size+4,1,none⟩) (Eq.refl (w.heap.size+4)) _
  exact⟨hres.1.trans hst (fun b hb e=>by omega),hres.2.store C4⟩
 go_enter Tryz.func47,Tryz.ntmps47
 have hcase:(io=7∨io=8∨io=9)∨io=10∨(io≠7∧io≠8∧io≠9∧io≠10):=by omega
 rcases hcase with ho|ho|ho
 ·have HC:=HM ho wA hfA
  clear HM HPl HRw HT hO B0 B1 B2
  rcases ho with rfl|rfl|rfl
  all_goals
   go_wp2_with fail
   rw[<-hwA]
   replace hwA:=Lib.hid hwA
   refine HC.mono ?_
   rintro e w1 hres
   have C4:=B4.keepX hres.1 (fun h=>by have:=hlt _ h;omega)
   obtain⟨A1,n1,c1,A2,n2,c2,rfl⟩:=hres.2.is
   have hf:=hfin w1 _ A1 A2 n1 c1 n2 c2 hres rfl
   obtain⟨e0,e1⟩:=C4.c2
   have ef:=fun i=>C4.frozen i
   have el:=C4.lt
   replace hf:=Lib.hid hf
   clear HC hfin hres
   go_wp2
   refine bodyPost_ret (v:=.tuple #[.agg #[.slice A1 n1 c1,.slice A2 n2 c2],.bool O.isSome]) (by simp[results,Tryz.results47,go_sem, *]) rfl ?_
   exact hf.out
 ·subst ho
  have hO10:=hO rfl
  rw[<-hO10] at HRw
  have K0:=B0.r1
  have K1:=B1.r8
  have K2:=B2.r2
  clear HM HPl hO B0 B1 B2
  replace hfin:=Lib.hid hfin
  go_wp2_with fail
  rw[<-hwA]
  replace hwA:=Lib.hid hwA
  refine zn0 9 37 [mV (.agg #[.slice A p.keepers.length cap]),mV (.int .i64 k0),mV (.agg #[.slice Al f.locals.length cl,.slice As f.stack.length cs]),mV (.pointer (some ⟨w.heap.size+1,2,none⟩)),mV (.agg #[.int .i64 m.ret.kind,.string m.ret.name]),mV (.agg #[.int .i64 tg.kind,.string tg.name]),mC (resV (.slice Al f.locals.length cl) (.slice As f.stack.length cs) O wA.heap.size) (zlF _ _ _ _),mC (resA (.slice Al f.locals.length cl) (.slice As f.stack.length cs) O wA.heap.size) (zlG _ _ _ _),mV (.bool O.isSome)] (by kernel_rfl) (by kernel_rfl) (by simp) ?_ ?_
  ·refine hc4 ?_ ?_ ?_ ?_ <| hc4 ?_ ?_ ?_ ?_ <| hopC ?_ <| hopZ
   all_goals (intro a' W hW hoff hdep;have hbs:=hW.size;have H5:=hoff 5 rfl;have H1:=hoff 1 rfl;have H8:=hoff 8 rfl;have H7:=hoff 7 rfl;refine nE rfl ?_)
   ·exact gx0
   ·simp[execOp,Act.eval,H1,go_sem,zaa];exact fr1 rfl
   ·exact gx0
   ·simp[execOp,Act.eval,H7,go_sem,zaa];exact fr1 rfl
   ·have D31:_=_:=hdep 3 31 rfl;clear hoff hdep;simp[execOp,Act.eval,go_sem,zaa, *];exact fr1 rfl
   ·have D32:_=_:=hdep 4 32 rfl;simp[Act.eval,D32,go_sem,zaa];exact(HT W).mono fun e w'' h=>⟨_,h.1,h.2,rfl⟩
   ·have D28:_=_:=hdep 0 28 rfl;have D29:_=_:=hdep 1 29 rfl;have D30:_=_:=hdep 2 30 rfl;have D33:_=_:=hdep 5 33 rfl;simp[Act.eval,D28,D29,D30,D33,go_sem,zaa];exact(HRw W (hfA.trans0 hW)).mono fun e w'' h=>zlH hW rfl h
   ·obtain⟨A1,n1,c1,A2,n2,c2,D34,hr⟩:(resV (.slice Al f.locals.length cl) (.slice As f.stack.length cs) O wA.heap.size) _ W:=hdep 6 34 rfl;simp[execOp,Act.eval,D34,go_sem,zaa];exact⟨Fr.refl _ _,_,_,_,_,_,_,rfl,hr⟩
   ·obtain⟨A1,n1,c1,A2,n2,c2,D34,hr⟩:(resV (.slice Al f.locals.length cl) (.slice As f.stack.length cs) O wA.heap.size) _ W:=hdep 6 34 rfl;simp[execOp,Act.eval,D34,go_sem,zaa];exact fr1 rfl
  intro vs WR hWR hv hne
  obtain⟨A1R6,n1R6,c1R6,A2R6,n2R6,c2R6,e6,hrR6⟩:=hv 6 (by omega)
  obtain⟨A1R7,n1R7,c1R7,A2R7,n2R7,c2R7,e7,hrR7⟩:=hv 7 (by omega)
  simp only[lz6,List.drop_zero,znM,znK,znR,Nat.zero_add,Nat.reduceAdd,e6,e7]
  simp only[Act.put,lz0,lz1,lz2]
  clear e6 e7 hv
  have C4:=B4.keep hWR
  have hf:=hfin.out WR _ A1R7 A2R7 n1R7 c1R7 n2R7 c2R7 ⟨hWR.of0,hrR7⟩ rfl
  obtain⟨e0,e1⟩:=C4.c2
  have ef:=fun i=>C4.frozen i
  have el:=C4.lt
  replace hf:=Lib.hid hf
  clear K0 K1 K2 HRw HT hrR7 hfin
  go_wp2
  refine bodyPost_ret (v:=.tuple #[.agg #[.slice A1R7 n1R7 c1R7,.slice A2R7 n2R7 c2R7],.bool O.isSome]) (by simp[results,Tryz.results47,go_sem, *]) rfl ?_
  exact hf.out
 ·have HC:=HPl ho wA hfA
  have h7:(io == 7)=false:=by simpa using ho.1
  have h8:(io == 8)=false:=by simpa using ho.2.1
  have h9:(io == 9)=false:=by simpa using ho.2.2.1
  have h10:(io == 10)=false:=by simpa using ho.2.2.2
  clear HM HPl HRw HT hO B0 B1 B2 ho
  go_wp2_with fail
  rw[<-hwA]
  replace hwA:=Lib.hid hwA
  refine HC.mono ?_
  rintro e w1 hres
  have C4:=B4.keepX hres.1 (fun h=>by have:=hlt _ h;omega)
  obtain⟨A1,n1,c1,A2,n2,c2,rfl⟩:=hres.2.is
  have hf:=hfin w1 _ A1 A2 n1 c1 n2 c2 hres rfl
  obtain⟨e0,e1⟩:=C4.c2
  have ef:=fun i=>C4.frozen i
  have el:=C4.lt
  replace hf:=Lib.hid hf
  clear HC hfin hres
  go_wp2
  refine bodyPost_ret (v:=.tuple #[.agg #[.slice A1 n1 c1,.slice A2 n2 c2],.bool O.isSome]) (by simp[results,Tryz.results47,go_sem, *]) rfl ?_
  exact hf.out
theorem zio (X Y Z:Nat->Prop) (p:Plan) (v u1 u2:Value) (k0:Nat) (xs ys:List Tag) (w:World) (hp:lodB p=true) (h:Sl X w 2 (KprC X w) v p.keepers) (hk0:k0<p.keepers.length) (hx:Sl Y w 2 TagC u1 xs) (hy:Sl Z w 2 TagC u2 ys):
  Calls Tryz.prog 73 #[.agg #[v],.int .i64 k0,u1,u2] w (zgm (zen p k0 xs ys) w):=by
 obtain⟨A,cap,rfl,_,_⟩:=h.form
 obtain⟨Ax,cx,rfl,_,hlx⟩:=hx.form
 obtain⟨Ay,cy,rfl,_,hly⟩:=hy.form
 unfold maxLen at hlx hly
 by_cases hle:xs.length=ys.length
 ·obtain⟨wA,hwA⟩:∃wA,wA=w.alloc (.cells #[.slice A p.keepers.length cap] 32):=⟨_,rfl⟩
  have hfA:Fr No w wA:=hwA▸frc
  have K0:=(hwA▸bxc:Bx wA w.heap.size 32 #[.slice A p.keepers.length cap]).r1
  have HM:=fun(i:Nat) (h1:i<xs.length) (h2:i<ys.length) W (hW:Fr No w W) (z1:xs[i].name.size≤maxLen) (z2:ys[i].name.size≤maxLen)=>znl X p _ k0 xs[i] ys[i] W hp (h.keep (R':=KprC X W) hW zN (fun _ _ _ h=>h.keep hW zN)) hk0 z1 z2
  have hY:=fun(hm:∀(i:Nat) (h1:i<xs.length) (h2:i<ys.length),mayK p k0 xs[i] ys[i]=true)=>zep hle hm
  have hN:=fun(i:Nat) (h1:i<xs.length) (h2:i<ys.length) (hm:mayK p k0 xs[i] ys[i]=false)=>zeq i h1 h2 hm
  generalize zen p k0 xs ys=V at *
  clear h
  go_enter Tryz.func73,Tryz.ntmps73
  go_wp2
  rw[<-hwA]
  replace hwA:=Lib.hid hwA
  go_loopw [9] (fun i wr=>∃j:Nat,j≤xs.length∧i=.int .i64 j∧Hid (∀(i:Nat) (h1:i<xs.length) (h2:i<ys.length),i<j->mayK p k0 xs[i] ys[i]=true)∧Fr No wA wr) (fun i _=>xs.length-(intOf i).toNat)
  case atStart=>exact⟨0,Nat.zero_le _,rfl,fun i _ _ h=>by omega,Fr.refl _ _⟩
  case round=>
   obtain⟨j,hj,rfl,hn,hf⟩:=hrel
   by_cases hlt:j<xs.length
   ·have hlt2:j<ys.length:=by omega
    obtain⟨b,bf,rfl,_,c0,c1,z⟩:=(hx.keep (R':=TagC) (hfA.trans0 hf) zN (fun _ _ _ h=>h)).tag hlt
    obtain⟨d,df,rfl,_,e0,e1,y⟩:=(hy.keep (R':=TagC) (hfA.trans0 hf) zN (fun _ _ _ h=>h)).tag hlt2
    clear hx hy
    have H:=fun W (hW:Fr No wr W)=>HM j hlt hlt2 W ((hfA.trans0 hf).trans0 hW) z y
    have hN2:=hN j hlt hlt2
    have hn2:mayK p k0 xs[j] ys[j]=true->Hid (∀(i:Nat) (h1:i<xs.length) (h2:i<ys.length),i<j+1->mayK p k0 xs[i] ys[i]=true):=fun hm i h1 h2 hi=>by
     by_cases he:i=j
     ·subst he;exact hm
     ·exact hn.out i h1 h2 (by omega)
    clear hn HM hN hY
    generalize mayK p k0 xs[j] ys[j]=M at *
    generalize xs[j]=x at *
    generalize ys[j]=t at *
    have c0:=kp c0
    have c1:=kp c1
    have e0:=kp e0
    have e1:=kp e1
    have K0:=fun W (h:Fr No wr W)=>(K0 W (hf.trans0 h)).1
    go_wp2_with fail
    first
     | ((refine zgc (X:=No) (by kernel_rfl) (by kernel_rfl) ?_);(repeat(first|(apply zgb;(focus (exact rfl));simp only[Act.put,lz0,lz1,lz2])|(apply zga;(focus (exact rfl));(focus (intro W hW;go_simp;first|done|exact rfl|(go_at_call 121;exact(H W hW).mono (fun _ _ h=>⟨h.1,hW.trans0 h.2⟩))));simp only[Act.put,lz0,lz1,lz2])));refine wpQuiet_nil ?_)
    intro w1 hf1
    clear c0 c1 e0 e1 H
    cases M
    ·have hV:=hN2 rfl
     clear hN2 hn2
     go_wp2
     go_ret
     exact .mk hV.symm (by exact frc)
    ·have hV:=hn2 rfl
     clear hN2 hn2
     go_wp2
     go_roundw
     case rel=>exact⟨j+1,by omega,by go_num,hV,by exact frc⟩
     case measure=>simp[intOf];omega
   ·clear hx hy HM hN
    have hV:=hY (fun i h1 h2=>hn.out i h1 h2 (by omega))
    clear hY hn
    go_wp2
    go_ret
    exact .mk hV.symm (by exact frc)
 ·have hV:=zeo (p:=p) (k:=k0) hle
  have hle2:¬((xs.length:Int)=ys.length):=by omega
  clear h hx hy
  go_enter Tryz.func73,Tryz.ntmps73
  go_wp2
  go_ret
  exact .mk hV.symm frc
theorem ziq (X Y Z:Nat->Prop) (p:Plan) (v fl fs ml ms:Value) (k0:Nat) (f:Frm) (x:Mp) (w:World) (hp:lodB p=true) (h:Sl X w 2 (KprC X w) v p.keepers) (hk0:k0<p.keepers.length) (h1:Sl Y w 2 TagC fl f.locals) (h2:Sl Y w 2 TagC fs f.stack) (g1:Sl Z w 2 TagC ml x.locals) (g2:Sl Z w 2 TagC ms x.stack):
  Calls Tryz.prog 45 #[.agg #[v],.int .i64 k0,.agg #[fl,fs],.agg #[.int .i64 x.at_,ml,ms]] w (zgm (zcH p k0 f x) w):=by
 have H:=fun W (hW:Fr No w W)=>zio X Y Z p v fl ml k0 f.locals x.locals W hp (h.keep (R':=KprC X W) hW zN (fun _ _ _ h=>h.keep hW zN)) hk0 (h1.k0 hW) (g1.k0 hW)
 have G:=fun W (hW:Fr No w W)=>zio X Y Z p v fs ms k0 f.stack x.stack W hp (h.keep (R':=KprC X W) hW zN (fun _ _ _ h=>h.keep hW zN)) hk0 (h2.k0 hW) (g2.k0 hW)
 obtain⟨A,cap,rfl,_,_⟩:=h.form
 obtain⟨A1,c1,rfl,_,_⟩:=h1.form
 obtain⟨A2,c2,rfl,_,_⟩:=h2.form
 obtain⟨A3,c3,rfl,_,_⟩:=g1.form
 obtain⟨A4,c4,rfl,_,_⟩:=g2.form
 have hV:zcH p k0 f x=(zen p k0 f.locals x.locals&&zen p k0 f.stack x.stack):=rfl
 rw[hV]
 clear h h1 h2 g1 g2 hV
 obtain⟨wA,hwA⟩:∃wA,wA=(((w.alloc (.cells #[.slice A p.keepers.length cap] 32)).alloc (.cells #[.slice A1 f.locals.length c1,.slice A2 f.stack.length c2] 77)).alloc (.cells #[.int .i64 x.at_,.slice A3 x.locals.length c3,.slice A4 x.stack.length c4] 93)):=⟨_,rfl⟩
 have hfA:Fr No w wA:=hwA▸frc
 have K0:=(hwA▸bxc:Bx wA w.heap.size 32 #[.slice A p.keepers.length cap]).r1
 have K1:=(hwA▸bxc:Bx wA (w.heap.size+1) 77 #[.slice A1 f.locals.length c1,.slice A2 f.stack.length c2]).r2
 have K2:=(hwA▸bxc:Bx wA (w.heap.size+2) 93 #[.int .i64 x.at_,.slice A3 x.locals.length c3,.slice A4 x.stack.length c4]).r3
 generalize zen p k0 f.locals x.locals=a at *
 generalize zen p k0 f.stack x.stack=b at *
 cases a
 ·clear G
  go_enter Tryz.func45,Tryz.ntmps45
  go_wp2_with fail
  rw[<-hwA]
  replace hwA:=Lib.hid hwA
  refine(H _ hfA).mono ?_
  rintro e w1 ⟨rfl,hf1⟩
  go_wp2
  go_ret
  exact .mk rfl (by exact frc)
 ·go_enter Tryz.func45,Tryz.ntmps45
  go_wp2_with fail
  rw[<-hwA]
  replace hwA:=Lib.hid hwA
  refine(H _ hfA).mono ?_
  rintro e w1 ⟨rfl,hf1⟩
  have z0:=K0 w1 hf1
  have z1:=K1 w1 hf1
  have z2:=K2 w1 hf1
  go_wp2_with fail
  refine(G _ (hfA.trans0 hf1)).mono ?_
  rintro e w2 ⟨rfl,hf2⟩
  clear z0 z1 z2
  go_wp2
  go_ret
  exact .mk (by cases b<;>rfl) (by exact frc)
end Go.Proofs.YthembcdcdnffeaaGreat
