/- The reference's l5Member: what is known behind an instruction about a field. -/
import Derived.Test.YthembcdcdnffeaaGreatEG26
import Derived.Test.YthembcdcdnffeaaGreatEG27
import Derived.Laws.CopyOwn
set_option maxHeartbeats 8000000
set_option maxRecDepth 100000
namespace Go.Proofs.YthembcdcdnffeaaGreat
open Go.RowKit
def resV (vl vs:Value) (o:Option Frm) (n:Nat):Value->World->Prop:=fun v W=>∃A1 n1 c1 A2 n2 c2,v=.tuple #[.agg #[.slice A1 n1 c1,.slice A2 n2 c2],.bool o.isSome]∧zfa vl vs o n (.returned (.tuple #[.agg #[.slice A1 n1 c1,.slice A2 n2 c2],.bool o.isSome])) W
def resA (vl vs:Value) (o:Option Frm) (n:Nat):Value->World->Prop:=fun v W=>∃A1 n1 c1 A2 n2 c2,v=.agg #[.slice A1 n1 c1,.slice A2 n2 c2]∧zfa vl vs o n (.returned (.tuple #[.agg #[.slice A1 n1 c1,.slice A2 n2 c2],.bool o.isSome])) W
theorem zfa.keep0 {vl vs:Value} {o:Option Frm} {e:Ending} {n:Nat} {W W':World} (h:zfa vl vs o n e W) (hf:Fr No W W'):zfa vl vs o n e W':=h.keep hf (fun _ _ _ _ _ h=>h) rfl
theorem zlF (vl vs:Value) (o:Option Frm) (n:Nat):MonP (resV vl vs o n):=fun _ _ _ ⟨A1,n1,c1,A2,n2,c2,h1,h2⟩ hf=>⟨A1,n1,c1,A2,n2,c2,h1,h2.keep0 hf⟩
theorem zlG (vl vs:Value) (o:Option Frm) (n:Nat):MonP (resA vl vs o n):=fun _ _ _ ⟨A1,n1,c1,A2,n2,c2,h1,h2⟩ hf=>⟨A1,n1,c1,A2,n2,c2,h1,h2.keep0 hf⟩
theorem zfa.is {vl vs:Value} {o:Option Frm} {n:Nat} {e:Ending} {w:World} (h:zfa vl vs o n e w):∃A1 n1 c1 A2 n2 c2,e=.returned (.tuple #[.agg #[.slice A1 n1 c1,.slice A2 n2 c2],.bool o.isSome]):=by
 cases o with
 | none=>obtain⟨A1,n1,c1,A2,n2,c2,h⟩:=h;exact⟨A1,n1,c1,A2,n2,c2,h⟩
 | some g=>obtain⟨A1,c1,A2,c2,h,_⟩:=h;exact⟨A1,_,c1,A2,_,c2,h⟩
theorem zlH {vl vs:Value} {o:Option Frm} {n:Nat} {w0 w w':World} {e:Ending} (h0:Fr No w0 w) (hn:n=w0.heap.size) (h:FrmN vl vs o w e w'):∃v,e=.returned v∧Fr No w w'∧resV vl vs o n v w':=by
 subst hn
 have h2:=(h.from h0).2
 obtain⟨A1,n1,c1,A2,n2,c2,rfl⟩:=h2.is
 exact⟨_,rfl,h.1,A1,n1,c1,A2,n2,c2,rfl,h2⟩
theorem zlI {p:Plan} {k:Int} {s m:Str} (h:namB m=true):getB p k s m=getG p k m (zdR p k s):=by unfold getB zdS;rw[if_pos h]
theorem zlJ {p:Plan} {k:Int} {s m:Str} (h:namB m=true):zd4 p k s m=zd3 p k m (zdR p k s):=by unfold zd4 zdS;rw[if_pos h]
theorem zlK {p:Plan} {k:Int} {m:Str}:∀(F:List (Ref×Fld)) (i:Nat),(∀x∈F,x.1.name.size≤maxLen∧x.2.kind.name.size≤maxLen)->(zjN p k m i F).1.of_.name.size≤maxLen∧(zjN p k m i F).1.kind.name.size≤maxLen
 | [],_,_=>⟨Nat.zero_le _,Nat.zero_le _⟩
 | x :: xs,i,h=>by
  rw[zjN]
  split
  ·split
   ·exact h x (by simp)
   ·exact⟨Nat.zero_le _,Nat.zero_le _⟩
  ·exact zlK xs (i+1) (fun y hy=>h y (by simp[hy]))
theorem zlL {p:Plan} (hp:lodB p=true) (k:Int) (s m:Str):(getB p k s m).1.kind.name.size≤maxLen:=by
 unfold getB getG
 split
 ·refine(zlK _ _ (fun x hx=>?_)).2
  have hall:zhb p (zmF p (zdS p k s m).1).reverse:=fun x hx=>zhj hp _ x (by simpa using hx)
  obtain⟨h1,h2⟩:=zjF hx
  obtain⟨h3,_,_,hh⟩:=hall _ h1
  exact⟨h3,(zef hp hh _ h2).2⟩
 ·exact Nat.zero_le _
def zlM (p:Plan) (k:Int) (m:Mth) (f:Frm) (i:Ins):Option Frm:=((popF p k f.stack (clsT i.name)).bind fun s=>zcE m.stack s (zel (getB p k i.name i.member).1.kind)).map (⟨f.locals,·⟩)
def zlN (p:Plan) (k:Int) (f:Frm) (i:Ins):Option Frm:=((popF p k f.stack (zel (getB p k i.name i.member).1.kind)).bind fun s=>popF p k s (clsT i.name)).map (⟨f.locals,·⟩)
theorem zlO (X Y:Nat->Prop) (p:Plan) (v vl vs:Value) (k0:Nat) (m:Mth) (ms:List Value) (f:Frm) (i:Ins) (w:World) (hp:lodB p=true) (h:Sl X w 2 (KprC X w) v p.keepers) (hk0:k0<p.keepers.length) (hm:MthC Y w ms m) (h5:m.stack≤5) (hI:FrmI w vl vs f) (hl:f.stack.length≤1000) (hn:i.name.size≤maxLen) (hx:i.member.size≤maxLen) (hmem:namB i.member=true) (hop:i.op=7):
  Calls Tryz.prog 74 #[.agg #[v],.int .i64 k0,.agg ms.toArray,.agg #[vl,vs],.agg #[.int .i64 i.op,.int .i64 i.a,.string i.name,.string i.member]] w (FrmN vl vs (if (getB p k0 i.name i.member).2=1 then zlM p k0 m f i else none) w):=by
 have HG:=fun W (hW:Fr No w W)=>zlE X p v k0 i.name i.member W hp (h.keep (R':=KprC X W) hW zN (fun _ _ _ h=>h.keep hW zN)) hk0 hn hx
 rw[<-zlI (p:=p) (k:=(k0:Int)) (s:=i.name) hmem] at HG
 have hsm:=zlL hp (k0:Int) i.name i.member
 have HS:=fun(t:Tag) (ht:t.name.size≤maxLen) W (hW:Fr No w W)=>zkO X Y p v vl vs k0 m ms f (clsT i.name) t W hp (h.keep (R':=KprC X W) hW zN (fun _ _ _ h=>h.keep hW zN)) hk0 (hm.keep hW zN) h5 (hI.keep0 hW) hl hn ht
 have hO:zlM p k0 m f i=((popF p k0 f.stack (clsT i.name)).bind fun s=>zcE m.stack s (zel (getB p k0 i.name i.member).1.kind)).map (⟨f.locals,·⟩):=rfl
 generalize zlM p k0 m f i=O at *
 generalize getB p k0 i.name i.member=q at *
 have HT:=fun W=>zkM q.1.kind W hsm
 have HS2:=HS (zel q.1.kind) (zkS hsm)
 rw[<-hO] at HS2
 clear HS hO
 obtain⟨⟨⟨qk,qn⟩,qa,⟨kk,kn⟩⟩,qc⟩:=q
 dsimp only[clsT] at *
 generalize zel ⟨kk,kn⟩=tg at *
 unfold getV lfV at HG
 dsimp only at HG
 obtain⟨A,cap,rfl,_,_⟩:=h.form
 obtain⟨va,vc,vm,rfl,_,_,har,hcr,hxr⟩:=hm
 obtain⟨Aa,ca,rfl,_,_⟩:=har.form
 obtain⟨Ac,cc,rfl,_,_⟩:=hcr.form
 obtain⟨Ax,cx,rfl,_,_⟩:=hxr.form
 obtain⟨Al,cl,As,cs,rfl,rfl,_,_,_,_⟩:=hI.form
 obtain⟨io,ia,inm,im⟩:=i
 dsimp only at *
 subst hop
 clear h har hcr hxr hI
 obtain⟨wA,hwA⟩:∃wA,wA=((((((w.alloc (.cells #[.slice A p.keepers.length cap] 32)).alloc (.cells #[.string m.name,.slice Aa m.args.length ca,.int .i64 m.ret.kind,.string m.ret.name,.int .i64 m.locals,.int .i64 m.stack,.slice Ac m.code.length cc,.slice Ax m.maps.length cx] 60)).alloc (.cells #[.slice Al f.locals.length cl,.slice As f.stack.length cs] tFr)).alloc (.cells #[.int .i64 7,.int .i64 ia,.string inm,.string im] 101)).alloc (.cells #[.slice none 0 0,.slice none 0 0] tFr)).alloc (.cells #[.int .i64 2,.string inm] tTag)):=⟨_,rfl⟩
 have hfA:Fr No w wA:=hwA▸frc
 have hsA:wA.heap.size=w.heap.size+6:=by rw[hwA];simp
 have B0:=(hwA▸bxc:Bx wA w.heap.size 32 #[.slice A p.keepers.length cap])
 have B1:=(hwA▸bxc:Bx wA (w.heap.size+1) 60 #[.string m.name,.slice Aa m.args.length ca,.int .i64 m.ret.kind,.string m.ret.name,.int .i64 m.locals,.int .i64 m.stack,.slice Ac m.code.length cc,.slice Ax m.maps.length cx])
 have B2:=(hwA▸bxc:Bx wA (w.heap.size+2) tFr #[.slice Al f.locals.length cl,.slice As f.stack.length cs])
 have B3:=(hwA▸bxc:Bx wA (w.heap.size+3) 101 #[.int .i64 7,.int .i64 ia,.string inm,.string im])
 have B4:=(hwA▸bxc:Bx wA (w.heap.size+4) tFr #[.slice none 0 0,.slice none 0 0])
 have B5:=(hwA▸bxc:Bx wA (w.heap.size+5) tTag #[.int .i64 2,.string inm])
 go_enter Tryz.func74,Tryz.ntmps74
 by_cases hc:qc=1
 ·subst hc
  rw[if_pos rfl]
  go_wp2_with fail
  rw[<-hwA]
  replace hwA:=Lib.hid hwA
  refine(HG wA hfA).mono ?_
  rintro e w1 ⟨rfl,hf1⟩
  have C3:=B3.keep hf1
  obtain⟨i0,i1,i2,i3⟩:=C3.c4
  have il:=C3.lt
  go_wp2_with fail
  obtain⟨w2,hw2⟩:∃w2,w2=(w1.alloc (.cells #[.int .i64 qk,.string qn,.int .i64 qa,.int .i64 kk,.string kn] 178)):=⟨_,rfl⟩
  have hf2:Fr No w1 w2:=hw2▸frc
  have BF:=(hw2▸bxc:Bx w2 w1.heap.size 178 #[.int .i64 qk,.string qn,.int .i64 qa,.int .i64 kk,.string kn])
  have hq2:=hf1.trans0 hf2
  have K0:=(B0.keep hq2).r1
  have K1:=(B1.keep hq2).r8
  have K2:=(B2.keep hq2).r2
  have K5:=(B5.keep hq2).r2
  have KF:=BF.r5
  have C4:=B4.keep hq2
  have HSw:=fun W (hW:Fr No w2 W)=>HS2 W ((hfA.trans0 hq2).trans0 hW)
  clear HG HS2 B0 B1 B2 B3 B4 B5 BF i0 i1 i2 i3 il
  rw[<-hw2]
  replace hw2:=Lib.hid hw2
  refine zn0 11 94 [mV (.agg #[.slice A p.keepers.length cap]),mV (.int .i64 k0),mV (.agg #[.string m.name,.slice Aa m.args.length ca,.int .i64 m.ret.kind,.string m.ret.name,.int .i64 m.locals,.int .i64 m.stack,.slice Ac m.code.length cc,.slice Ax m.maps.length cx]),mV (.agg #[.slice Al f.locals.length cl,.slice As f.stack.length cs]),mV (.agg #[.int .i64 2,.string inm]),mV (.pointer (some ⟨w1.heap.size,3,none⟩)),mV (.agg #[.int .i64 kk,.string kn]),mV (.agg #[.int .i64 tg.kind,.string tg.name]),mC (resV (.slice Al f.locals.length cl) (.slice As f.stack.length cs) O w.heap.size) (zlF _ _ _ _),mC (resA (.slice Al f.locals.length cl) (.slice As f.stack.length cs) O w.heap.size) (zlG _ _ _ _),mV (.bool O.isSome)] (by kernel_rfl) (by kernel_rfl) (by simp) ?_ ?_
  ·refine hc4 ?_ ?_ ?_ ?_ <| hc4 ?_ ?_ ?_ ?_ <| hopC ?_ <| hopC ?_ <| hopC ?_ <| hopZ
   all_goals (intro a' W hW hoff hdep;have hbs:=hW.size;have H5:=hoff 5 rfl;have H1:=hoff 1 rfl;have H7:=hoff 7 rfl;have H8:=hoff 8 rfl;have H12:=hoff 12 rfl;have H18:=hoff 18 rfl;refine nE rfl ?_)
   ·exact gx0
   ·simp[execOp,Act.eval,H1,go_sem,zaa];exact fr1 rfl
   ·exact gx0
   ·exact gx0
   ·exact gx0
   ·simp[execOp,Act.eval,H18,go_sem,zaa];exact fr1 rfl
   ·have D88:_=_:=hdep 5 88 rfl;clear hoff hdep;simp[execOp,Act.eval,go_sem,zaa, *];exact fr1 rfl
   ·have D89:_=_:=hdep 6 89 rfl;simp[Act.eval,D89,go_sem,zaa];exact(HT W).mono fun e w'' h=>⟨_,h.1,h.2,rfl⟩
   ·have D83:_=_:=hdep 0 83 rfl;have D84:_=_:=hdep 1 84 rfl;have D85:_=_:=hdep 2 85 rfl;have D86:_=_:=hdep 3 86 rfl;have D87:_=_:=hdep 4 87 rfl;have D90:_=_:=hdep 7 90 rfl;simp[Act.eval,D83,D84,D85,D86,D87,D90,go_sem,zaa];exact(HSw W hW).mono fun e w'' h=>zlH ((hfA.trans0 hq2).trans0 hW) rfl h
   ·obtain⟨A1,n1,c1,A2,n2,c2,D91,hr⟩:(resV (.slice Al f.locals.length cl) (.slice As f.stack.length cs) O w.heap.size) _ W:=hdep 8 91 rfl;simp[execOp,Act.eval,D91,go_sem,zaa];exact⟨Fr.refl _ _,_,_,_,_,_,_,rfl,hr⟩
   ·obtain⟨A1,n1,c1,A2,n2,c2,D91,hr⟩:(resV (.slice Al f.locals.length cl) (.slice As f.stack.length cs) O w.heap.size) _ W:=hdep 8 91 rfl;simp[execOp,Act.eval,D91,go_sem,zaa];exact fr1 rfl
  intro vs WR hWR hv hne
  obtain⟨A1R8,n1R8,c1R8,A2R8,n2R8,c2R8,e8,hrR8⟩:=hv 8 (by omega)
  obtain⟨A1R9,n1R9,c1R9,A2R9,n2R9,c2R9,e9,hrR9⟩:=hv 9 (by omega)
  simp only[lz6,List.drop_zero,znM,znK,znR,Nat.zero_add,Nat.reduceAdd,e8,e9]
  simp only[Act.put,lz0,lz1,lz2]
  clear e8 e9 hv
  have C4':=C4.keep hWR
  obtain⟨e0,e1⟩:=C4'.c2
  have ef:=fun i=>C4'.frozen i
  have el:=C4'.lt
  clear K0 K1 K2 K5 KF HSw HT
  go_wp2
  refine bodyPost_ret (v:=.tuple #[.agg #[.slice A1R9 n1R9 c1R9,.slice A2R9 n2R9 c2R9],.bool O.isSome]) (by simp[results,Tryz.results74,go_sem, *]) rfl ?_
  exact⟨frc,hrR9.store C4'⟩
 ·rw[if_neg hc]
  have hcb:(qc != 1)=true:=by simpa using hc
  go_wp2_with fail
  rw[<-hwA]
  replace hwA:=Lib.hid hwA
  refine(HG wA hfA).mono ?_
  rintro e w1 ⟨rfl,hf1⟩
  obtain⟨i0,i1,i2,i3⟩:=(B3.keep hf1).c4
  have il:=(B3.keep hf1).lt
  obtain⟨d0,d1⟩:=(B2.keep hf1).c2
  have dl:=(B2.keep hf1).lt
  have C4:=B4.keep hf1
  obtain⟨e0,e1⟩:=C4.c2
  have ef:=fun i=>C4.frozen i
  have el:=C4.lt
  clear HG HS2 HT B0 B1 B2 B3 B4 B5
  go_wp2
  refine bodyPost_ret (v:=.tuple #[.agg #[.slice Al f.locals.length cl,.slice As f.stack.length cs],.bool false]) (by simp[results,Tryz.results74,go_sem, *]) rfl ?_
  exact⟨frc,_,_,_,_,_,_,rfl⟩
theorem zck {p:Plan} {k:Int} {st r:List Tag} {t:Tag} (h:popF p k st t=some r) (hl:st.length≤1000):r.length≤1000:=Nat.le_trans (zkU h) hl
theorem zcl (X Y:Nat->Prop) (p:Plan) (v vl vs:Value) (k0:Nat) (m:Mth) (ms:List Value) (f:Frm) (i:Ins) (w:World) (hp:lodB p=true) (h:Sl X w 2 (KprC X w) v p.keepers) (hk0:k0<p.keepers.length) (hm:MthC Y w ms m) (hI:FrmI w vl vs f) (hl:f.stack.length≤1000) (hn:i.name.size≤maxLen) (hx:i.member.size≤maxLen) (hmem:namB i.member=true) (hop:i.op=8):
  Calls Tryz.prog 74 #[.agg #[v],.int .i64 k0,.agg ms.toArray,.agg #[vl,vs],.agg #[.int .i64 i.op,.int .i64 i.a,.string i.name,.string i.member]] w (FrmN vl vs (if (getB p k0 i.name i.member).2=1 then zlN p k0 f i else none) w):=by
 have HG:=fun W (hW:Fr No w W)=>zlE X p v k0 i.name i.member W hp (h.keep (R':=KprC X W) hW zN (fun _ _ _ h=>h.keep hW zN)) hk0 hn hx
 rw[<-zlI (p:=p) (k:=(k0:Int)) (s:=i.name) hmem] at HG
 have hsm:=zlL hp (k0:Int) i.name i.member
 have HP:=fun(t:Tag) (ht:t.name.size≤maxLen) W (hW:Fr No w W)=>zkJ X p v vl vs k0 f t W hp (h.keep (R':=KprC X W) hW zN (fun _ _ _ h=>h.keep hW zN)) hk0 (hI.keep0 hW) hl ht
 have HQ:=fun(us:Value) (st:List Tag) W (hW:Fr No w W) (hJ:FrmI W vl us ⟨f.locals,st⟩) (hl:st.length≤1000)=>zkJ X p v vl us k0 ⟨f.locals,st⟩ (clsT i.name) W hp (h.keep (R':=KprC X W) hW zN (fun _ _ _ h=>h.keep hW zN)) hk0 hJ hl hn
 have hO:zlN p k0 f i=((popF p k0 f.stack (zel (getB p k0 i.name i.member).1.kind)).bind fun s=>popF p k0 s (clsT i.name)).map (⟨f.locals,·⟩):=rfl
 generalize zlN p k0 f i=O at *
 generalize getB p k0 i.name i.member=q at *
 have HT:=fun W=>zkM q.1.kind W hsm
 have HP2:=HP (zel q.1.kind) (zkS hsm)
 clear HP
 obtain⟨⟨⟨qk,qn⟩,qa,⟨kk,kn⟩⟩,qc⟩:=q
 dsimp only[clsT] at *
 generalize zel ⟨kk,kn⟩=tg at *
 unfold getV lfV at HG
 dsimp only at HG
 obtain⟨A,cap,rfl,_,_⟩:=h.form
 obtain⟨va,vc,vm,rfl,_,_,har,hcr,hxr⟩:=hm
 obtain⟨Aa,ca,rfl,_,_⟩:=har.form
 obtain⟨Ac,cc,rfl,_,_⟩:=hcr.form
 obtain⟨Ax,cx,rfl,_,_⟩:=hxr.form
 obtain⟨Al,cl,As,cs,rfl,rfl,_,_,_,_⟩:=hI.form
 obtain⟨io,ia,inm,im⟩:=i
 dsimp only at *
 subst hop
 clear h har hcr hxr hI
 obtain⟨wA,hwA⟩:∃wA,wA=((((((w.alloc (.cells #[.slice A p.keepers.length cap] 32)).alloc (.cells #[.string m.name,.slice Aa m.args.length ca,.int .i64 m.ret.kind,.string m.ret.name,.int .i64 m.locals,.int .i64 m.stack,.slice Ac m.code.length cc,.slice Ax m.maps.length cx] 60)).alloc (.cells #[.slice Al f.locals.length cl,.slice As f.stack.length cs] tFr)).alloc (.cells #[.int .i64 8,.int .i64 ia,.string inm,.string im] 101)).alloc (.cells #[.slice none 0 0,.slice none 0 0] tFr)).alloc (.cells #[.int .i64 2,.string inm] tTag)):=⟨_,rfl⟩
 have hfA:Fr No w wA:=hwA▸frc
 have hsA:wA.heap.size=w.heap.size+6:=by rw[hwA];simp
 have B0:=(hwA▸bxc:Bx wA w.heap.size 32 #[.slice A p.keepers.length cap])
 have B2:=(hwA▸bxc:Bx wA (w.heap.size+2) tFr #[.slice Al f.locals.length cl,.slice As f.stack.length cs])
 have B3:=(hwA▸bxc:Bx wA (w.heap.size+3) 101 #[.int .i64 8,.int .i64 ia,.string inm,.string im])
 have B4:=(hwA▸bxc:Bx wA (w.heap.size+4) tFr #[.slice none 0 0,.slice none 0 0])
 have B5:=(hwA▸bxc:Bx wA (w.heap.size+5) tTag #[.int .i64 2,.string inm])
 go_enter Tryz.func74,Tryz.ntmps74
 by_cases hc:qc=1
 ·subst hc
  rw[if_pos rfl]
  go_wp2_with fail
  rw[<-hwA]
  replace hwA:=Lib.hid hwA
  refine(HG wA hfA).mono ?_
  rintro e w1 ⟨rfl,hf1⟩
  have C3:=B3.keep hf1
  obtain⟨i0,i1,i2,i3⟩:=C3.c4
  have il:=C3.lt
  go_wp2_with fail
  obtain⟨w2,hw2⟩:∃w2,w2=(w1.alloc (.cells #[.int .i64 qk,.string qn,.int .i64 qa,.int .i64 kk,.string kn] 178)):=⟨_,rfl⟩
  have hf2:Fr No w1 w2:=hw2▸frc
  have BF:=(hw2▸bxc:Bx w2 w1.heap.size 178 #[.int .i64 qk,.string qn,.int .i64 qa,.int .i64 kk,.string kn])
  have hq2:=hf1.trans0 hf2
  have C0:=B0.keep hq2
  have C2:=B2.keep hq2
  have C5:=B5.keep hq2
  have K0:=C0.r1
  have K2:=C2.r2
  have KF:=BF.r5
  have C4:=B4.keep hq2
  have h2s:=hq2.size
  have HPw:=fun W (hW:Fr No w2 W)=>HP2 W ((hfA.trans0 hq2).trans0 hW)
  clear HG HP2 B0 B2 B3 B4 B5 BF i0 i1 i2 i3 il
  rw[<-hw2]
  replace hw2:=Lib.hid hw2
  cases ho:popF p k0 f.stack tg with
  | none=>
   simp only[ho,Option.map_none,Option.bind_none] at hO HPw
   subst hO
   clear HQ ho
   refine zn0 11 104 [mV (.agg #[.slice A p.keepers.length cap]),mV (.int .i64 k0),mV (.agg #[.slice Al f.locals.length cl,.slice As f.stack.length cs]),mV (.pointer (some ⟨w1.heap.size,3,none⟩)),mV (.agg #[.int .i64 kk,.string kn]),mV (.agg #[.int .i64 tg.kind,.string tg.name]),mV (.tuple #[.agg #[.slice Al f.locals.length cl,.slice As f.stack.length cs],.bool false]),mV (.tuple #[.agg #[.slice Al f.locals.length cl,.slice As f.stack.length cs],.bool false]),mV (.agg #[.slice Al f.locals.length cl,.slice As f.stack.length cs]),mE (mV (.bool false)),mB 77 (#[.slice none 0 0,.slice none 0 0]) w2.heap.size] (by kernel_rfl) (by kernel_rfl) (by simp) ?_ ?_
   ·refine hc4 ?_ ?_ ?_ ?_ <| hc4 ?_ ?_ ?_ ?_ <| hopC ?_ <| hopC ?_ <| hopC ?_ <| hopZ
    all_goals (intro a' W hW hoff hdep;have hbs:=hW.size;have H5:=hoff 5 rfl;have H1:=hoff 1 rfl;have H8:=hoff 8 rfl;have H18:=hoff 18 rfl)
    ·exact nE rfl gx0
    ·refine nE rfl ?_;simp[execOp,Act.eval,H1,go_sem,zaa];exact fr1 rfl
    ·exact nE rfl gx0
    ·refine nE rfl ?_;simp[execOp,Act.eval,H18,go_sem,zaa];exact fr1 rfl
    ·have D98:_=_:=hdep 3 98 rfl;refine nE rfl ?_;clear hoff hdep;simp[execOp,Act.eval,go_sem,zaa, *];exact fr1 rfl
    ·have D99:_=_:=hdep 4 99 rfl;refine nE rfl ?_;simp[Act.eval,D99,go_sem,zaa];exact(HT W).mono fun e w'' h=>⟨_,h.1,h.2,rfl⟩
    ·have D95:_=_:=hdep 0 95 rfl;have D96:_=_:=hdep 1 96 rfl;have D97:_=_:=hdep 2 97 rfl;have D100:_=_:=hdep 5 100 rfl;refine nE rfl ?_;simp[Act.eval,D95,D96,D97,D100,go_sem,zaa];exact(HPw _ hW).mono fun e w'' h=>⟨_,h.2,h.1,rfl⟩
    ·have D101:_=_:=hdep 6 101 rfl;refine nE rfl ?_;simp[execOp,Act.eval,D101,go_sem,zaa];exact fr1 rfl
    ·have D94:_=_:=hdep 7 94 rfl;refine nE rfl ?_;simp[execOp,Act.eval,D94,go_sem,zaa];exact fr1 rfl
    ·have D94:_=_:=hdep 7 94 rfl;exact yE rfl ⟨.bool false,fun W=>by simp[execOp,Act.eval,D94,go_sem],rfl,rfl⟩
    ·refine nE rfl ?_;simp[execOp,go_sem,zaa];exact⟨(Fr.refl _ _).alloc _,⟨_,rfl,Bx.new_ rfl,hbs⟩,Nat.le_refl _⟩
   intro vs WR hWR hv hne
   obtain⟨b10,e10,hb10,hl10⟩:=hv 10 (by omega)
   simp only[lz6,List.drop_zero,znP,znL,znK,znR,Nat.zero_add,Nat.reduceAdd,e10]
   simp only[Act.put,lz0,lz1,lz2]
   clear e10 hv
   obtain⟨g0,g1⟩:=hb10.c2
   have gf:=fun i=>hb10.frozen i
   have gl:=hb10.lt
   obtain⟨d0,d1⟩:=(C2.keep hWR).c2
   have dl:=(C2.keep hWR).lt
   obtain⟨e0,e1⟩:=(C4.keep hWR).c2
   have ef:=fun i=>(C4.keep hWR).frozen i
   have el:=(C4.keep hWR).lt
   clear K0 K2 KF HPw HT
   go_wp2
   refine bodyPost_ret (v:=.tuple #[.agg #[.slice Al f.locals.length cl,.slice As f.stack.length cs],.bool false]) (by simp[results,Tryz.results74,go_sem, *]) rfl ?_
   exact⟨frc,_,_,_,_,_,_,rfl⟩
  | some r=>
   have hrl:=zck ho hl
   simp only[ho,Option.map_some,Option.bind_some] at hO HPw
   clear ho
   refine zn0 11 104 [mV (.agg #[.slice A p.keepers.length cap]),mV (.int .i64 k0),mV (.agg #[.slice Al f.locals.length cl,.slice As f.stack.length cs]),mV (.pointer (some ⟨w1.heap.size,3,none⟩)),mV (.agg #[.int .i64 kk,.string kn]),mV (.agg #[.int .i64 tg.kind,.string tg.name]),mC (popV (.slice Al f.locals.length cl) f.locals r w2.heap.size) (zkP _ _ _ _),mC (popV (.slice Al f.locals.length cl) f.locals r w2.heap.size) (zkP _ _ _ _),mC (popA (.slice Al f.locals.length cl) f.locals r w2.heap.size) (zkQ _ _ _ _),mE (mV (.bool true)),mB 77 (#[.slice none 0 0,.slice none 0 0]) w2.heap.size] (by kernel_rfl) (by kernel_rfl) (by simp) ?_ ?_
   ·refine hc4 ?_ ?_ ?_ ?_ <| hc4 ?_ ?_ ?_ ?_ <| hopC ?_ <| hopC ?_ <| hopC ?_ <| hopZ
    all_goals (intro a' W hW hoff hdep;have hbs:=hW.size;have H5:=hoff 5 rfl;have H1:=hoff 1 rfl;have H8:=hoff 8 rfl;have H18:=hoff 18 rfl)
    ·exact nE rfl gx0
    ·refine nE rfl ?_;simp[execOp,Act.eval,H1,go_sem,zaa];exact fr1 rfl
    ·exact nE rfl gx0
    ·refine nE rfl ?_;simp[execOp,Act.eval,H18,go_sem,zaa];exact fr1 rfl
    ·have D98:_=_:=hdep 3 98 rfl;refine nE rfl ?_;clear hoff hdep;simp[execOp,Act.eval,go_sem,zaa, *];exact fr1 rfl
    ·have D99:_=_:=hdep 4 99 rfl;refine nE rfl ?_;simp[Act.eval,D99,go_sem,zaa];exact(HT W).mono fun e w'' h=>⟨_,h.1,h.2,rfl⟩
    ·have D95:_=_:=hdep 0 95 rfl;have D96:_=_:=hdep 1 96 rfl;have D97:_=_:=hdep 2 97 rfl;have D100:_=_:=hdep 5 100 rfl;refine nE rfl ?_;simp[Act.eval,D95,D96,D97,D100,go_sem,zaa];exact(HPw _ hW).mono fun e w'' h=>zkR hbs h
    ·obtain⟨As9,cs9,D101,hI9,hq9⟩:(popV (.slice Al f.locals.length cl) f.locals r w2.heap.size) _ W:=hdep 6 101 rfl;refine nE rfl ?_;simp[execOp,Act.eval,D101,go_sem,zaa];exact⟨Fr.refl _ _,_,_,rfl,hI9,hq9⟩
    ·obtain⟨As9,cs9,D94,hI9,hq9⟩:(popV (.slice Al f.locals.length cl) f.locals r w2.heap.size) _ W:=hdep 7 94 rfl;refine nE rfl ?_;simp[execOp,Act.eval,D94,go_sem,zaa];exact⟨Fr.refl _ _,_,_,rfl,hI9,hq9⟩
    ·obtain⟨As9,cs9,D94,hI9,hq9⟩:(popV (.slice Al f.locals.length cl) f.locals r w2.heap.size) _ W:=hdep 7 94 rfl;exact yE rfl ⟨.bool true,fun W=>by simp[execOp,Act.eval,D94,go_sem],rfl,rfl⟩
    ·refine nE rfl ?_;simp[execOp,go_sem,zaa];exact⟨(Fr.refl _ _).alloc _,⟨_,rfl,Bx.new_ rfl,hbs⟩,Nat.le_refl _⟩
   intro vs WR hWR hv hne
   obtain⟨As9R6,cs9R6,e6,hI9R6,hq9R6⟩:=hv 6 (by omega)
   obtain⟨As9R7,cs9R7,e7,hI9R7,hq9R7⟩:=hv 7 (by omega)
   obtain⟨As9R8,cs9R8,e8,hI9R8,hq9R8⟩:=hv 8 (by omega)
   obtain⟨b10,e10,hb10,hl10⟩:=hv 10 (by omega)
   simp only[lz6,List.drop_zero,znP,znM,znL,znK,znR,Nat.zero_add,Nat.reduceAdd,e6,e7,e8,e10]
   simp only[Act.put,lz0,lz1,lz2]
   clear e6 e7 e8 e10 hv
   have hWw:=hWR
   obtain⟨g0,g1⟩:=hb10.c2
   have gf:=fun i=>hb10.frozen i
   have gl:=hb10.lt
   have D0:=C0.keep hWR
   have D5:=C5.keep hWR
   have D4:=C4.keep hWR
   have z0:=D0.c1
   have zl:=D0.lt
   obtain⟨t0,t1⟩:=D5.c2
   have tl:=D5.lt
   have hZ:=fun W (hW:Fr No w2 W)=>(hfA.trans0 hq2).trans0 hW
   clear K0 K2 KF HPw HT
   have hst:Fr (fun b=>b=b10) WR ((WR.setCell ⟨b10,0,none⟩ (.slice Al f.locals.length cl)).setCell ⟨b10,1,none⟩ (.slice As9R8 r.length cs9R8)):=((Fr.refl (fun b=>b=b10) WR).setCellX (p:=⟨b10,0,none⟩) (Eq.refl b10) _).setCellX (p:=⟨b10,1,none⟩) (Eq.refl b10) _
   have hst0:Fr No w2 ((WR.setCell ⟨b10,0,none⟩ (.slice Al f.locals.length cl)).setCell ⟨b10,1,none⟩ (.slice As9R8 r.length cs9R8)):=hWR.trans hst (fun b hb e=>by omega)
   have hJ:=hI9R8.keep hst (fun q hq e=>by subst e;exact hI9R8.ne hb10 zkN hq)
   have HQ':=HQ _ r _ (hZ _ hst0) hJ hrl
   have E4:=D4.keepX hst (fun e=>by omega)
   clear HQ
   go_wp2_with fail
   refine HQ'.mono ?_
   rintro e w5 hres
   have hres1:=hres.n hJ
   have hres2:=hres1.2.then (vl:=.slice Al f.locals.length cl) (vs:=.slice As f.stack.length cs) (w0:=w) (hZ _ hst0).size (fun q h=>h.elim (fun h=>.inl (.inl h)) (fun h=>.inr (by have:=hq9R8 q h;have:=(hfA.trans0 hq2).size;omega)))
   have hf5:=hres1.1
   rw[<-hO] at hres2
   obtain⟨A1,n1,c1,A2,n2,c2,rfl⟩:=hres2.is
   have F4:=E4.keep hf5
   have hfw:=(hZ _ hst0).trans0 hf5
   clear g0 g1 gf gl z0 zl t0 t1 tl hres hres1 HQ'
   obtain⟨e0,e1⟩:=F4.c2
   have ef:=fun i=>F4.frozen i
   have el:=F4.lt
   go_wp2
   refine bodyPost_ret (v:=.tuple #[.agg #[.slice A1 n1 c1,.slice A2 n2 c2],.bool O.isSome]) (by simp[results,Tryz.results74,go_sem, *]) rfl ?_
   exact⟨frc,hres2.store F4⟩
 ·rw[if_neg hc]
  have hcb:(qc != 1)=true:=by simpa using hc
  go_wp2_with fail
  rw[<-hwA]
  replace hwA:=Lib.hid hwA
  refine(HG wA hfA).mono ?_
  rintro e w1 ⟨rfl,hf1⟩
  obtain⟨i0,i1,i2,i3⟩:=(B3.keep hf1).c4
  have il:=(B3.keep hf1).lt
  obtain⟨d0,d1⟩:=(B2.keep hf1).c2
  have dl:=(B2.keep hf1).lt
  have C4:=B4.keep hf1
  obtain⟨e0,e1⟩:=C4.c2
  have ef:=fun i=>C4.frozen i
  have el:=C4.lt
  clear HG HP2 HQ HT B0 B2 B3 B4 B5
  go_wp2
  refine bodyPost_ret (v:=.tuple #[.agg #[.slice Al f.locals.length cl,.slice As f.stack.length cs],.bool false]) (by simp[results,Tryz.results74,go_sem, *]) rfl ?_
  exact⟨frc,_,_,_,_,_,_,rfl⟩
theorem zcm {p:Plan} (hp:lodB p=true) {k:Int} {s m:Str} (h:(zd4 p k s m).2=1):(zd4 p k s m).1.1.name.size≤maxLen∧∃kq ix a:Nat,Here p (zd4 p k s m).1.1 kq ix∧(zd4 p k s m).1.2=a∧a<(zbG p (zd4 p k s m).1.1).methods.length:=by
 unfold zd4 zd3 at h ⊢
 split at h
 ·rename_i h1
  rw[if_pos h1]
  cases hq:zhp p (zdS p k s m).1 m with
  | none=>rw[hq] at h;cases h
  | some q=>
   obtain⟨q,a⟩:=q
   rw[hq] at h
   dsimp only at h ⊢
   split at h
   ·rename_i h2
    rw[if_pos h2]
    exact zdZ hp hq
   ·cases h
 ·rename_i h1
  exact absurd h h1
theorem zcn {p:Plan} (hp:lodB p=true) {q:Ref×Int} {k i a:Nat} (hh:Here p q.1 k i) (hq:q.2=a) (ha:a<(zbG p q.1).methods.length):zcG p q=(zbG p q.1).methods[a]∧mthB (zcG p q)=true:=by
 have e:zcG p q=(zbG p q.1).methods[a]:=by
  unfold zcG
  rw[hq,show((a:Int)).toNat=a by omega]
  simp[ha]
 exact⟨e,by rw[e];exact zg1 (Here.clsB hp hh) _ (List.getElem_mem ha)⟩
theorem zco {P:Program} {w:World} {ops:Array Oper} {rest:List Oper} {o:Oper} {a:Act} {Q:Exit->Act->World->Prop} (hgd:o.guard=none) (t:TypeId) (x y:Operand) (ho:o.op=.store t x y) (sz:Nat) (hsz:(P.info? t).map (·.size)=some sz)
  (g:Nat) (bt:TypeId) (cs:Array Value) (cs':List Value) (hp:a.eval x=.pointer (some ⟨g,0,none⟩)) (hv:a.eval y=.agg cs'.toArray) (hB:Bx w g bt cs) (hl:cs'.length=sz) (hc:cs.size=sz) (h1:∀v∈cs',v.oneCell'=true)
  (h:∀w',Bx w' g bt cs'.toArray->Fr (fun b=>b=g) w w'->wpList P ops Q rest (a.put o.dst undef) w'):wpList P ops Q (o :: rest) a w:=by
 refine wpList_plain hgd fun K hK=>?_
 have hst:=run_storeCells_at P g 0 bt cs' 0 cs w hB (by omega) h1
 have e:(cs.toList.take (0+0) ++ cs' ++ cs.toList.drop (0+0+cs'.length))=cs':=by
  have:cs.toList.length≤0+0+cs'.length:=by simp;omega
  rw[List.drop_of_length_le this]
  simp
 rw[e] at hst
 have hrun:(Instr.storeAt t (.pointer (some ⟨g,0,none⟩)) (.agg cs'.toArray)).run P w=.ok () (w.setRow g cs'.toArray):=by
  cases hq:P.info? t with
  | none=>simp[hq] at hsz
  | some i=>
   have hi:i.size=sz:=by simpa[hq] using hsz
   simp[Instr.storeAt,Instr.sureAddr,storeVar,sizeOf,typeInfo,hq,hi,Value.cells,hl,hst]
 unfold Oper.wp
 simp[execOp,ho,hp,hv,hrun]
 refine hK _ _ (h _ ?_ ⟨rfl,rfl,rfl,by simp[World.setRow],fun k hk hn=>setRow_other w g k _ (fun e=>hn e)⟩)
 exact setRow_heap w g cs cs'.toArray bt (0,0) hB
end Go.Proofs.YthembcdcdnffeaaGreat
