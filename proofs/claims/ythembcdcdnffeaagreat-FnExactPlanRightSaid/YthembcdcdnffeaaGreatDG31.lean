/- The reference's l5Plain: a place taken or put, numbers added, a thing taken for one of a class. -/
import Derived.Test.YthembcdcdnffeaaGreatDG29
import Derived.Test.YthembcdcdnffeaaGreatDG30
set_option maxHeartbeats 8000000
set_option maxRecDepth 100000
namespace Go.Proofs.YthembcdcdnffeaaGreat
open Go.RowKit
theorem zcs {p:Plan} {k:Int} {m:Mth} {f:Frm} {i:Ins} (h:i.op=2):insF p k m f i=if (f.locals.getD i.a.toNat noT).kind=0 then none else (zcE m.stack f.stack (f.locals.getD i.a.toNat noT)).map (⟨f.locals,·⟩):=by unfold insF;simp[h]
theorem zct {p:Plan} {k:Int} {m:Mth} {f:Frm} {i:Ins} (h:i.op=3):insF p k m f i=(zcD f.stack).map (fun x=>⟨f.locals.set i.a.toNat x.1,x.2⟩):=by unfold insF;simp[h]
theorem zcu {p:Plan} {k:Int} {m:Mth} {f:Frm} {i:Ins} (h:i.op=4):insF p k m f i=((popF p k f.stack numT).bind fun s=>(popF p k s numT).bind fun s=>zcE m.stack s numT).map (⟨f.locals,·⟩):=by unfold insF;simp[h]
theorem zcv {p:Plan} {k:Int} {m:Mth} {f:Frm} {i:Ins} (h:i.op=15):insF p k m f i=((popR f.stack).bind fun s=>zcE m.stack s (clsT i.name)).map (⟨f.locals,·⟩):=by unfold insF;simp[h]
theorem zcw (p:Plan) (k:Int) (a:Tag):mayK p k a noT=true:=by unfold mayK;rw[if_pos (show noT.kind=0 from rfl)]
theorem zcx {st r:List Tag} (h:popR st=some r):r.length≤st.length:=by
 rcases ze2 st with ⟨_,h1⟩ | ⟨ys,x,h0,h1⟩
 ·rw[zkH h1] at h;cases h
 ·rw[zkI h1] at h
  split at h
  ·cases h;rw[h0];simp
  ·cases h
theorem zcX.get2 {w:World} {e:TypeId} {v:Value} {xs:List Tag} (h:zcX w e v xs) {a:Nat} (ha:a<xs.length):∃g c,v=.slice (some ⟨g,0,none⟩) xs.length c∧zcP v=some g∧xs.length≤c∧c≤maxLen ∧
  w.cell? ⟨g,a * 2,none⟩=some (.int .i64 xs[a].kind)∧w.cell? ⟨g,a * 2+1,none⟩=some (.string xs[a].name)∧xs[a].name.size≤maxLen∧∀i,w.frozen? ⟨g,i,none⟩=false:=by
 obtain⟨h,hn⟩:=h
 obtain⟨g,c,cur,rfl,h1,h2,hb,_,_,hq⟩:=h.at_ (by omega)
 refine⟨g,c,rfl,hq,h1,h2,?_,?_,hn _ (List.getElem_mem ha),fun i=>hb.frozen i⟩
 ·rw[h.cell rfl (by omega)];exact zcV xs a ha 0 (by decide)
 ·rw[h.cell rfl (by omega)];exact zcV xs a ha 1 (by decide)
theorem FrmI.set {w:World} {g c:Nat} {vs:Value} {f:Frm} (h:FrmI w (.slice (some ⟨g,0,none⟩) f.locals.length c) vs f) {i:Nat} (hi:i<f.locals.length) {x:Tag} (hx:x.name.size≤maxLen):
  FrmI ((w.setCell ⟨g,i * 2,none⟩ (.int .i64 x.kind)).setCell ⟨g,i * 2+1,none⟩ (.string x.name)) (.slice (some ⟨g,0,none⟩) f.locals.length c) vs ⟨f.locals.set i x,f.stack⟩∧Fr (rB (.slice (some ⟨g,0,none⟩) f.locals.length c) vs) w ((w.setCell ⟨g,i * 2,none⟩ (.int .i64 x.kind)).setCell ⟨g,i * 2+1,none⟩ (.string x.name)):=by
 have hst:Fr (fun b=>b=g) w ((w.setCell ⟨g,i * 2,none⟩ (.int .i64 x.kind)).setCell ⟨g,i * 2+1,none⟩ (.string x.name)):=(Fr.one _ _ _ _).same (Fr.one _ _ _ _)
 obtain⟨g',c',cur,he,h1,h2,hb,h3,h4,hq⟩:=h.loc.1.at_ (by omega)
 cases he
 have hb':Bx ((w.setCell ⟨g,i * 2,none⟩ (.int .i64 x.kind)).setCell ⟨g,i * 2+1,none⟩ (.string x.name)) g tTag ((cur.setIfInBounds (i * 2) (.int .i64 x.kind)).setIfInBounds (i * 2+1) (.string x.name)):=(hb.set_ _ _).set_ _ _
 have hrow:RowV ((w.setCell ⟨g,i * 2,none⟩ (.int .i64 x.kind)).setCell ⟨g,i * 2+1,none⟩ (.string x.name)) tTag 2 (.slice (some ⟨g,0,none⟩) f.locals.length c) (f.locals.set i x).length ((f.locals.set i x).flatMap zcU):=by
  refine .inl ⟨by rw[zcW],.inr ⟨g,c,_,by simp,Nat.zero_le _,hb',by simpa using h1,h2,by simpa using h3,?_⟩⟩
  rw[<-ze6 _ _ _ hi,<-h4]
  simp[List.take_set]
 refine⟨⟨⟨hrow,fun y hy=>?_⟩,h.stk.keep hst (fun q hq2 e=>by subst e;exact h.apart _ hq hq2),fun q h1 h2=>h.apart q h1 h2⟩,hst.mono (fun b _ e=>by subst e;exact .inl hq)⟩
 rcases List.mem_or_eq_of_mem_set hy with hy|rfl
 ·exact h.loc.2 y hy
 ·exact hx
theorem zcy {vl vs:Value} {o:Option Frm} {n:Nat} {w0 w w':World} {e:Ending} (h0:Fr No w0 w) (hn:n=w0.heap.size) (h:zfb vl vs o w e w'):∃v,e=.returned v∧Fr (rB vl vs) w w'∧resV vl vs o n v w':=by
 subst hn
 have h2:=(h.from h0).2
 obtain⟨A1,n1,c1,A2,n2,c2,rfl⟩:=h2.is
 exact⟨_,rfl,h.1,A1,n1,c1,A2,n2,c2,rfl,h2⟩
theorem zcz (X Y:Nat->Prop) (p:Plan) (v vl vs:Value) (k0:Nat) (m:Mth) (ms:List Value) (f:Frm) (i:Ins) (w:World) (hp:lodB p=true) (h:Sl X w 2 (KprC X w) v p.keepers) (hk0:k0<p.keepers.length) (hm:MthC Y w ms m) (h5:m.stack≤5) (hI:FrmI w vl vs f) (hl:f.stack.length≤1000) (hn:i.name.size≤maxLen) (hop:i.op=4):
  Calls Tryz.prog 76 #[.agg #[v],.int .i64 k0,.agg ms.toArray,.agg #[vl,vs],.agg #[.int .i64 i.op,.int .i64 i.a,.string i.name,.string i.member]] w (zfb vl vs (insF p k0 m f i) w):=by
 have hkw:=fun W (hW:Fr No w W)=>h.keep (R':=KprC X W) hW (fun _ h=>h.elim) (fun _ _ _ h=>h.keep hW (fun _ h=>h.elim))
 have hmw:=fun W (hW:Fr No w W)=>hm.keep (Y:=No) hW (fun _ h=>h.elim)
 have HP:=fun W (hW:Fr No w W)=>zkJ X p v vl vs k0 f numT W hp (hkw W hW) hk0 (hI.keep0 hW) hl (Nat.zero_le _)
 have HS:=fun(us:Value) (s:List Tag) W (hW:Fr No w W) (hJ:FrmI W vl us ⟨f.locals,s⟩) (hl:s.length≤1000)=>zkO X Y p v vl us k0 m ms ⟨f.locals,s⟩ numT numT W hp (hkw W hW) hk0 (hmw W hW) h5 hJ hl (Nat.zero_le _) (Nat.zero_le _)
 have hO:=zcu (p:=p) (k:=(k0:Int)) (m:=m) (f:=f) (i:=i) hop
 generalize insF p k0 m f i=O at *
 have hlt:=fun q (h:rB vl vs q)=>hI.lt h
 obtain⟨A,cap,rfl,_,_⟩:=h.form
 obtain⟨va,vc,vm,rfl,_,_,har,hcr,hxr⟩:=hm
 obtain⟨Aa,ca,rfl,_,_⟩:=har.form
 obtain⟨Ac,cc,rfl,_,_⟩:=hcr.form
 obtain⟨Ax,cx,rfl,_,_⟩:=hxr.form
 obtain⟨Al,cl,As,cs,rfl,rfl,_,_,_,_⟩:=hI.form
 obtain⟨io,ia,inm,im⟩:=i
 dsimp only at *
 clear h hkw hmw har hcr hxr
 subst hop
 obtain⟨wA,hwA⟩:∃wA,wA=((((((w.alloc (.cells #[.slice A p.keepers.length cap] 32)).alloc (.cells #[.string m.name,.slice Aa m.args.length ca,.int .i64 m.ret.kind,.string m.ret.name,.int .i64 m.locals,.int .i64 m.stack,.slice Ac m.code.length cc,.slice Ax m.maps.length cx] 60)).alloc (.cells #[.slice Al f.locals.length cl,.slice As f.stack.length cs] tFr)).alloc (.cells #[.int .i64 4,.int .i64 ia,.string inm,.string im] 101)).alloc (.cells #[.slice none 0 0,.slice none 0 0] tFr)).alloc (.cells #[.int .i64 1,.string ⟨#[]⟩] tTag)):=⟨_,rfl⟩
 have hfA:Fr No w wA:=hwA▸frc
 have hsA:wA.heap.size=w.heap.size+6:=by rw[hwA];simp
 have B0:=(hwA▸bxc:Bx wA w.heap.size 32 #[.slice A p.keepers.length cap])
 have B1:=(hwA▸bxc:Bx wA (w.heap.size+1) 60 #[.string m.name,.slice Aa m.args.length ca,.int .i64 m.ret.kind,.string m.ret.name,.int .i64 m.locals,.int .i64 m.stack,.slice Ac m.code.length cc,.slice Ax m.maps.length cx])
 have B2:=(hwA▸bxc:Bx wA (w.heap.size+2) tFr #[.slice Al f.locals.length cl,.slice As f.stack.length cs])
 have B3:=(hwA▸bxc:Bx wA (w.heap.size+3) 101 #[.int .i64 4,.int .i64 ia,.string inm,.string im])
 have B4:=(hwA▸bxc:Bx wA (w.heap.size+4) tFr #[.slice none 0 0,.slice none 0 0])
 have B5:=(hwA▸bxc:Bx wA (w.heap.size+5) tTag #[.int .i64 1,.string ⟨#[]⟩])
 go_enter Tryz.func76,Tryz.ntmps76
 have HPA:=HP wA hfA
 clear HP
 cases ho:popF p k0 f.stack numT with
 | none=>
  simp only[ho,Option.map_none,Option.bind_none] at hO HPA
  subst hO
  go_wp2_with fail
  rw[<-hwA]
  replace hwA:=Lib.hid hwA
  refine HPA.mono ?_
  rintro e w1 ⟨hf1,rfl⟩
  have C2:=B2.keep hf1
  have C4:=B4.keep hf1
  obtain⟨d0,d1⟩:=C2.c2
  have dl:=C2.lt
  obtain⟨e0,e1⟩:=C4.c2
  have ef:=fun i=>C4.frozen i
  have el:=C4.lt
  clear HS B0 B1 B2 B3 B4 B5
  go_wp2
  refine bodyPost_ret (v:=.tuple #[.agg #[.slice Al f.locals.length cl,.slice As f.stack.length cs],.bool false]) (by simp[results,Tryz.results76,go_sem, *]) rfl ?_
  refine⟨Fr.of0 ?_,_,_,_,_,_,_,rfl⟩
  exact frc
 | some r=>
  have hrl:=zck ho hl
  simp only[ho,Option.map_some,Option.bind_some] at hO HPA
  clear ho
  go_wp2_with fail
  rw[<-hwA]
  replace hwA:=Lib.hid hwA
  refine HPA.mono ?_
  rintro e w1 ⟨hf1,As',cs',rfl,hJ,hq⟩
  have C0:=B0.keep hf1
  have C1:=B1.keep hf1
  have C5:=B5.keep hf1
  have z0:=C0.c1
  have zl:=C0.lt
  obtain⟨m0,m1,m2,m3,m4,m5,m6,m7⟩:=C1.c8
  have ml:=C1.lt
  obtain⟨t0,t1⟩:=C5.c2
  have tl:=C5.lt
  have q2:Fr No w1 (w1.alloc (.cells #[.slice Al f.locals.length cl,.slice As' r.length cs'] tFr)):=frc
  have q3:=(hfA.trans0 hf1).trans0 q2
  have HSw:=HS _ r _ q3 (hJ.keep0 q2) hrl
  have D4:=B4.keep (hf1.trans0 q2)
  clear HS B0 B1 B2 B3 B4 B5 C0 C1 C5
  go_wp2_with fail
  refine HSw.mono ?_
  rintro e w3 hres
  have hf3:=hres.1
  have F4:=D4.keep hf3
  have hres2:=hres.2.then (vl:=.slice Al f.locals.length cl) (vs:=.slice As f.stack.length cs) (w0:=w) q3.size (fun q h=>h.elim (fun h=>.inl (.inl h)) (fun h=>.inr (by have:=hq q h;omega)))
  have q4:=q3.trans0 hf3
  rw[<-hO] at hres2
  obtain⟨A1,n1,c1,A2,n2,c2,rfl⟩:=hres2.is
  clear z0 zl m0 m1 m2 m3 m4 m5 m6 m7 ml t0 t1 tl hres HSw
  obtain⟨e0,e1⟩:=F4.c2
  have ef:=fun i=>F4.frozen i
  have el:=F4.lt
  go_wp2
  refine bodyPost_ret (v:=.tuple #[.agg #[.slice A1 n1 c1,.slice A2 n2 c2],.bool O.isSome]) (by simp[results,Tryz.results76,go_sem, *]) rfl ?_
  refine⟨Fr.of0 ?_,hres2.store F4⟩
  exact frc
theorem zcA (X Y:Nat->Prop) (p:Plan) (v vl vs:Value) (k0:Nat) (m:Mth) (ms:List Value) (f:Frm) (i:Ins) (w:World) (_:lodB p=true) (h:Sl X w 2 (KprC X w) v p.keepers) (_:k0<p.keepers.length) (hm:MthC Y w ms m) (h5:m.stack≤5) (hI:FrmI w vl vs f) (hl:f.stack.length≤1000) (hn:i.name.size≤maxLen) (hop:i.op=15):
  Calls Tryz.prog 76 #[.agg #[v],.int .i64 k0,.agg ms.toArray,.agg #[vl,vs],.agg #[.int .i64 i.op,.int .i64 i.a,.string i.name,.string i.member]] w (zfb vl vs (insF p k0 m f i) w):=by
 have hkw:=fun W (hW:Fr No w W)=>h.keep (R':=KprC X W) hW (fun _ h=>h.elim) (fun _ _ _ h=>h.keep hW (fun _ h=>h.elim))
 have hmw:=fun W (hW:Fr No w W)=>hm.keep (Y:=No) hW (fun _ h=>h.elim)
 have HP:=fun W (hW:Fr No w W)=>zkK vl vs f W (hI.keep0 hW) hl
 have HS:=fun(us:Value) (s:List Tag) W (hW:Fr No w W) (hJ:FrmI W vl us ⟨f.locals,s⟩)=>zfh Y m ms vl us ⟨f.locals,s⟩ (clsT i.name) W (hmw W hW) h5 hJ hn
 have hO:=zcv (p:=p) (k:=(k0:Int)) (m:=m) (f:=f) (i:=i) hop
 generalize insF p k0 m f i=O at *
 dsimp only[clsT] at HS hO
 have hlt:=fun q (h:rB vl vs q)=>hI.lt h
 obtain⟨A,cap,rfl,_,_⟩:=h.form
 obtain⟨va,vc,vm,rfl,_,_,har,hcr,hxr⟩:=hm
 obtain⟨Aa,ca,rfl,_,_⟩:=har.form
 obtain⟨Ac,cc,rfl,_,_⟩:=hcr.form
 obtain⟨Ax,cx,rfl,_,_⟩:=hxr.form
 obtain⟨Al,cl,As,cs,rfl,rfl,_,_,_,_⟩:=hI.form
 obtain⟨io,ia,inm,im⟩:=i
 dsimp only at *
 clear h hkw hmw har hcr hxr
 subst hop
 obtain⟨wA,hwA⟩:∃wA,wA=((((((w.alloc (.cells #[.slice A p.keepers.length cap] 32)).alloc (.cells #[.string m.name,.slice Aa m.args.length ca,.int .i64 m.ret.kind,.string m.ret.name,.int .i64 m.locals,.int .i64 m.stack,.slice Ac m.code.length cc,.slice Ax m.maps.length cx] 60)).alloc (.cells #[.slice Al f.locals.length cl,.slice As f.stack.length cs] tFr)).alloc (.cells #[.int .i64 15,.int .i64 ia,.string inm,.string im] 101)).alloc (.cells #[.slice none 0 0,.slice none 0 0] tFr)).alloc (.cells #[.int .i64 1,.string ⟨#[]⟩] tTag)):=⟨_,rfl⟩
 have hfA:Fr No w wA:=hwA▸frc
 have hsA:wA.heap.size=w.heap.size+6:=by rw[hwA];simp
 have B0:=(hwA▸bxc:Bx wA w.heap.size 32 #[.slice A p.keepers.length cap])
 have B1:=(hwA▸bxc:Bx wA (w.heap.size+1) 60 #[.string m.name,.slice Aa m.args.length ca,.int .i64 m.ret.kind,.string m.ret.name,.int .i64 m.locals,.int .i64 m.stack,.slice Ac m.code.length cc,.slice Ax m.maps.length cx])
 have B2:=(hwA▸bxc:Bx wA (w.heap.size+2) tFr #[.slice Al f.locals.length cl,.slice As f.stack.length cs])
 have B3:=(hwA▸bxc:Bx wA (w.heap.size+3) 101 #[.int .i64 15,.int .i64 ia,.string inm,.string im])
 have B4:=(hwA▸bxc:Bx wA (w.heap.size+4) tFr #[.slice none 0 0,.slice none 0 0])
 have B5:=(hwA▸bxc:Bx wA (w.heap.size+5) tTag #[.int .i64 1,.string ⟨#[]⟩])
 go_enter Tryz.func76,Tryz.ntmps76
 have HPA:=HP wA hfA
 clear HP
 cases ho:popR f.stack with
 | none=>
  simp only[ho,Option.map_none,Option.bind_none] at hO HPA
  subst hO
  go_wp2_with fail
  rw[<-hwA]
  replace hwA:=Lib.hid hwA
  refine HPA.mono ?_
  rintro e w1 ⟨hf1,rfl⟩
  have C2:=B2.keep hf1
  have C4:=B4.keep hf1
  obtain⟨d0,d1⟩:=C2.c2
  have dl:=C2.lt
  obtain⟨e0,e1⟩:=C4.c2
  have ef:=fun i=>C4.frozen i
  have el:=C4.lt
  clear HS B0 B1 B2 B3 B4 B5
  go_wp2
  refine bodyPost_ret (v:=.tuple #[.agg #[.slice Al f.locals.length cl,.slice As f.stack.length cs],.bool false]) (by simp[results,Tryz.results76,go_sem, *]) rfl ?_
  refine⟨Fr.of0 ?_,_,_,_,_,_,_,rfl⟩
  exact frc
 | some r=>
  simp only[ho,Option.map_some,Option.bind_some] at hO HPA
  clear ho
  go_wp2_with fail
  rw[<-hwA]
  replace hwA:=Lib.hid hwA
  refine HPA.mono ?_
  rintro e w1 ⟨hf1,As',cs',rfl,hJ,hq⟩
  have C1:=B1.keep hf1
  have C3:=B3.keep hf1
  obtain⟨m0,m1,m2,m3,m4,m5,m6,m7⟩:=C1.c8
  have ml:=C1.lt
  obtain⟨t0,t1,t2,t3⟩:=C3.c4
  have tl:=C3.lt
  have q2:Fr No w1 (w1.alloc (.cells #[.slice Al f.locals.length cl,.slice As' r.length cs'] tFr)):=frc
  have q3:=(hfA.trans0 hf1).trans0 q2
  have HSw:=HS _ r _ q3 (hJ.keep0 q2)
  have D4:=B4.keep (hf1.trans0 q2)
  clear HS B0 B1 B2 B3 B4 B5 C1 C3
  go_wp2_with fail
  refine HSw.mono ?_
  rintro e w3 ⟨hf3,hres⟩
  have F4:=D4.keepX hf3 (fun h=>by have:=hq _ h;omega)
  have hres2:=hres.2.then (vl:=.slice Al f.locals.length cl) (vs:=.slice As f.stack.length cs) (w0:=w) q3.size (fun q h=>h.elim (fun h=>.inl (.inl h)) (fun h=>.inr (by have:=hq q h;omega)))
  have q4:Fr No w w3:=q3.trans hf3 (fun b hb h=>by have:=hq _ h;omega)
  rw[<-hO] at hres2
  obtain⟨A1,n1,c1,A2,n2,c2,rfl⟩:=hres2.is
  clear m0 m1 m2 m3 m4 m5 m6 m7 ml t0 t1 t2 t3 tl hres HSw
  obtain⟨e0,e1⟩:=F4.c2
  have ef:=fun i=>F4.frozen i
  have el:=F4.lt
  go_wp2
  refine bodyPost_ret (v:=.tuple #[.agg #[.slice A1 n1 c1,.slice A2 n2 c2],.bool O.isSome]) (by simp[results,Tryz.results76,go_sem, *]) rfl ?_
  refine⟨Fr.of0 ?_,hres2.store F4⟩
  exact frc
theorem zcB (X Y:Nat->Prop) (p:Plan) (v vl vs:Value) (k0:Nat) (m:Mth) (ms:List Value) (f:Frm) (i:Ins) (w:World) (_:lodB p=true) (h:Sl X w 2 (KprC X w) v p.keepers) (_:k0<p.keepers.length) (hm:MthC Y w ms m) (h5:m.stack≤5) (hI:FrmI w vl vs f) (_:f.stack.length≤1000) (hn:i.name.size≤maxLen) (hop:i.op=2) (ha0:0≤i.a) (ha1:i.a<f.locals.length) (_:f.locals.length≤1000):
  Calls Tryz.prog 76 #[.agg #[v],.int .i64 k0,.agg ms.toArray,.agg #[vl,vs],.agg #[.int .i64 i.op,.int .i64 i.a,.string i.name,.string i.member]] w (zfb vl vs (insF p k0 m f i) w):=by
 have hkw:=fun W (hW:Fr No w W)=>h.keep (R':=KprC X W) hW (fun _ h=>h.elim) (fun _ _ _ h=>h.keep hW (fun _ h=>h.elim))
 have hmw:=fun W (hW:Fr No w W)=>hm.keep (Y:=No) hW (fun _ h=>h.elim)
 have HP:=fun(x:Tag) (hx:x.name.size≤maxLen) W (hW:Fr No w W)=>(zfh Y m ms vl vs f x W (hmw W hW) h5 (hI.keep0 hW) hx).mono (fun _ _ h=>h.2)
 have hO:=zcs (p:=p) (k:=(k0:Int)) (m:=m) (f:=f) (i:=i) hop
 generalize insF p k0 m f i=O at *
 have hlt:=fun q (h:rB vl vs q)=>hI.lt h
 obtain⟨A,cap,rfl,_,_⟩:=h.form
 obtain⟨va,vc,vm,rfl,_,_,har,hcr,hxr⟩:=hm
 obtain⟨Aa,ca,rfl,_,_⟩:=har.form
 obtain⟨Ac,cc,rfl,_,_⟩:=hcr.form
 obtain⟨Ax,cx,rfl,_,_⟩:=hxr.form
 obtain⟨io,ia,inm,im⟩:=i
 dsimp only at *
 obtain⟨a,rfl⟩:∃a:Nat,ia=a:=⟨ia.toNat,by omega⟩
 have ha:a<f.locals.length:=by omega
 have hat:(a:Int).toNat=a:=by omega
 obtain⟨g,c,rfl,hgq,hc1,hc2,t0,t1,hxn,_⟩:=hI.loc.get2 ha
 obtain⟨As,cs,hv,_,_⟩:=hI.stk.1.form
 subst hv
 have hx0:f.locals.getD (a:Int).toNat noT=f.locals[a]:=by simp[ha]
 rw[hx0] at hO
 have HPx:=HP f.locals[a] hxn
 generalize f.locals[a]=x at *
 clear HP hx0
 clear h hkw hmw har hcr hxr
 subst hop
 obtain⟨wA,hwA⟩:∃wA,wA=((((((w.alloc (.cells #[.slice A p.keepers.length cap] 32)).alloc (.cells #[.string m.name,.slice Aa m.args.length ca,.int .i64 m.ret.kind,.string m.ret.name,.int .i64 m.locals,.int .i64 m.stack,.slice Ac m.code.length cc,.slice Ax m.maps.length cx] 60)).alloc (.cells #[.slice (some ⟨g,0,none⟩) f.locals.length c,.slice As f.stack.length cs] tFr)).alloc (.cells #[.int .i64 2,.int .i64 a,.string inm,.string im] 101)).alloc (.cells #[.slice none 0 0,.slice none 0 0] tFr)).alloc (.cells #[.int .i64 1,.string ⟨#[]⟩] tTag)):=⟨_,rfl⟩
 have hfA:Fr No w wA:=hwA▸frc
 have hsA:wA.heap.size=w.heap.size+6:=by rw[hwA];simp
 have B0:=(hwA▸bxc:Bx wA w.heap.size 32 #[.slice A p.keepers.length cap])
 have B1:=(hwA▸bxc:Bx wA (w.heap.size+1) 60 #[.string m.name,.slice Aa m.args.length ca,.int .i64 m.ret.kind,.string m.ret.name,.int .i64 m.locals,.int .i64 m.stack,.slice Ac m.code.length cc,.slice Ax m.maps.length cx])
 have B2:=(hwA▸bxc:Bx wA (w.heap.size+2) tFr #[.slice (some ⟨g,0,none⟩) f.locals.length c,.slice As f.stack.length cs])
 have B3:=(hwA▸bxc:Bx wA (w.heap.size+3) 101 #[.int .i64 2,.int .i64 a,.string inm,.string im])
 have B4:=(hwA▸bxc:Bx wA (w.heap.size+4) tFr #[.slice none 0 0,.slice none 0 0])
 have B5:=(hwA▸bxc:Bx wA (w.heap.size+5) tTag #[.int .i64 1,.string ⟨#[]⟩])
 have KT0:=cr (hfA.keep0 t0)
 have KT1:=cr (hfA.keep0 t1)
 go_enter Tryz.func76,Tryz.ntmps76
 by_cases hk:x.kind=0
 ·rw[if_pos hk] at hO
  subst hO
  have hkb:(x.kind == 0)=true:=by simpa using hk
  have x0:=(KT0 wA (Fr.refl _ _)).1
  rw[hwA] at x0
  clear HPx KT0 KT1 hk t0 t1 B0 B1 B2 B3 B4 B5
  go_wp2
  refine bodyPost_ret (v:=.tuple #[.agg #[.slice (some ⟨g,0,none⟩) f.locals.length c,.slice As f.stack.length cs],.bool false]) (by simp[results,Tryz.results76,go_sem, *]) rfl ?_
  refine⟨Fr.of0 ?_,_,_,_,_,_,_,rfl⟩
  exact frc
 ·rw[if_neg hk] at hO
  have hkb:(x.kind == 0)=false:=by simpa using hk
  have x0:=(KT0 wA (Fr.refl _ _)).1
  rw[hwA] at x0
  clear t0 t1
  go_wp2_with fail
  rw[<-hwA]
  clear x0
  replace hwA:=Lib.hid hwA
  have K1:=B1.r8
  have K2:=B2.r2
  have K3:=B3.r4
  refine znI 11 51 [mV (.agg #[.string m.name,.slice Aa m.args.length ca,.int .i64 m.ret.kind,.string m.ret.name,.int .i64 m.locals,.int .i64 m.stack,.slice Ac m.code.length cc,.slice Ax m.maps.length cx]),mV (.agg #[.slice (some ⟨g,0,none⟩) f.locals.length c,.slice As f.stack.length cs]),mV (.pointer (some ⟨w.heap.size+2,0,none⟩)),mV (.slice (some ⟨g,0,none⟩) f.locals.length c),mV (.pointer (some ⟨w.heap.size+3,1,none⟩)),mV (.int .i64 a),mV (.pointer (some ⟨g,a * 2,none⟩)),mV (.agg #[.int .i64 x.kind,.string x.name]),mC (resV (.slice (some ⟨g,0,none⟩) f.locals.length c) (.slice As f.stack.length cs) O w.heap.size) (zlF _ _ _ _),mC (resA (.slice (some ⟨g,0,none⟩) f.locals.length c) (.slice As f.stack.length cs) O w.heap.size) (zlG _ _ _ _),mV (.bool O.isSome)] [mV (.agg #[.string m.name,.slice Aa m.args.length ca,.int .i64 m.ret.kind,.string m.ret.name,.int .i64 m.locals,.int .i64 m.stack,.slice Ac m.code.length cc,.slice Ax m.maps.length cx]),mV (.agg #[.slice (some ⟨g,0,none⟩) f.locals.length c,.slice As f.stack.length cs]),mV (.pointer (some ⟨w.heap.size+2,0,none⟩)),mV (.slice (some ⟨g,0,none⟩) f.locals.length c),mV (.pointer (some ⟨w.heap.size+3,1,none⟩)),mV (.int .i64 a),mV (.pointer (some ⟨g,a * 2,none⟩)),mV (.agg #[.int .i64 x.kind,.string x.name]),mC (resV (.slice (some ⟨g,0,none⟩) f.locals.length c) (.slice As f.stack.length cs) O w.heap.size) (zlF _ _ _ _),mC (resA (.slice (some ⟨g,0,none⟩) f.locals.length c) (.slice As f.stack.length cs) O w.heap.size) (zlG _ _ _ _),mV (.bool O.isSome)] [0,0,0,0,0,0,0,0,3,1,1] 8 (fun _ _=>False) (fun W=>Fr (rB (.slice (some ⟨g,0,none⟩) f.locals.length c) (.slice As f.stack.length cs)) wA W) (fun _ _=>True) (by kernel_rfl) (by kernel_rfl) (by simp) (fun W W' h hf=>h.trans0 hf) ?_ ?_ ?_ ?_ ?_ ?_
  ·exact fun v W W' hs=>⟨fun _ h=>h,⟨fun _ h=>h,⟨fun _ h=>h,⟨fun _ h=>h,⟨fun _ h=>h,⟨fun _ h=>h,⟨fun _ h=>h,⟨fun _ h=>h,⟨fun h=>absurd h (by decide),⟨fun h=>absurd h (by decide),⟨fun h=>absurd h (by decide),trivial⟩⟩⟩⟩⟩⟩⟩⟩⟩⟩⟩
  ·refine⟨fun _=>?_,⟨fun _=>?_,⟨fun _=>?_,⟨fun _=>?_,⟨fun _=>?_,⟨fun _=>?_,⟨fun _=>?_,⟨fun _=>?_,⟨fun h=>absurd h (by decide),⟨fun h=>absurd h (by decide),⟨fun h=>absurd h (by decide),trivial⟩⟩⟩⟩⟩⟩⟩⟩⟩⟩⟩
   all_goals (intro a' W hW hoff hdep;have hbs:=hW.size;have H7:=hoff 7 rfl;have H8:=hoff 8 rfl;have H9:=hoff 9 rfl;refine nE rfl ?_)
   ·clear hoff hdep;simp[execOp,Act.eval,go_sem,zaa, *]
    exact fr1 rfl
   ·clear hoff hdep;simp[execOp,Act.eval,go_sem,zaa, *]
    exact fr1 rfl
   ·simp[execOp,Act.eval,H8,go_sem,zaa]
    exact fr1 rfl
   ·have D42:_=_:=hdep 2 42 rfl
    clear hoff hdep;simp[execOp,Act.eval,go_sem,zaa, *]
    exact fr1 rfl
   ·simp[execOp,Act.eval,H9,go_sem,zaa]
    exact fr1 rfl
   ·have D44:_=_:=hdep 4 44 rfl
    clear hoff hdep;simp[execOp,Act.eval,go_sem,zaa, *]
    exact fr1 rfl
   ·have D43:_=_:=hdep 3 43 rfl
    have D45:_=_:=hdep 5 45 rfl
    clear hoff hdep;simp[execOp,Act.eval,go_sem,zaa, *]
    exact fr1 rfl
   ·have D46:_=_:=hdep 6 46 rfl
    clear hoff hdep;simp[execOp,Act.eval,go_sem,zaa, *]
    exact fr1 rfl
  ·refine⟨fun h=>absurd h (by decide),⟨fun h=>absurd h (by decide),⟨fun h=>absurd h (by decide),⟨fun h=>absurd h (by decide),⟨fun h=>absurd h (by decide),⟨fun h=>absurd h (by decide),⟨fun h=>absurd h (by decide),⟨fun h=>absurd h (by decide),⟨fun h=>absurd h (by decide),⟨fun _=>?_,⟨fun _=>?_,trivial⟩⟩⟩⟩⟩⟩⟩⟩⟩⟩⟩
   all_goals (intro a' W hW hoff hdep;have hbs:=(fun W h=>h.size) W hW;refine nE rfl ?_)
   ·obtain⟨A1,n1,c1,A2,n2,c2,D48,hr⟩:(resV (.slice (some ⟨g,0,none⟩) f.locals.length c) (.slice As f.stack.length cs) O w.heap.size) _ W:=hdep 8 48 rfl
    simp[execOp,Act.eval,D48,go_sem,zaa]
    exact⟨Fr.refl _ _,_,_,_,_,_,_,rfl,hr⟩
   ·obtain⟨A1,n1,c1,A2,n2,c2,D48,hr⟩:(resV (.slice (some ⟨g,0,none⟩) f.locals.length c) (.slice As f.stack.length cs) O w.heap.size) _ W:=hdep 8 48 rfl
    simp[execOp,Act.eval,D48,go_sem,zaa]
    exact fr1 rfl
  ·intro o r ho hr a' W hW hoff hdep
   have hbs:=hW.size
   cases ho;cases hr
   have D40:_=_:=hdep 0 40 rfl
   have D41:_=_:=hdep 1 41 rfl
   have D47:_=_:=hdep 7 47 rfl
   simp[Act.eval,D40,D41,D47,go_sem,zlP]
   exact(HPx W (hfA.trans0 hW)).mono fun e w'' h=>(let ⟨v,h1,h2,h3⟩:=zcy (hfA.trans0 hW) rfl (hO▸h);⟨v,h1,hW.of0.same h2,h3⟩)
  ·exact fun _ _ _ _ h=>h.elim
  intro vs WR hWR hv hne
  obtain⟨A1R8,n1R8,c1R8,A2R8,n2R8,c2R8,e8,hrR8⟩:=hv 8 (by omega)
  obtain⟨A1R9,n1R9,c1R9,A2R9,n2R9,c2R9,e9,hrR9⟩:=hv 9 (by omega)
  simp only[lz6,List.drop_zero,znM,znK,znR,Nat.zero_add,Nat.reduceAdd,e8,e9]
  simp only[Act.put,lz0,lz1,lz2]
  clear e8 e9 hv
  have F4:=B4.keepX hWR (fun h=>by have:=hlt _ h;omega)
  obtain⟨e0,e1⟩:=F4.c2
  have ef:=fun i=>F4.frozen i
  have el:=F4.lt
  clear K1 K2 K3 KT0 KT1 HPx
  go_wp2
  refine bodyPost_ret (v:=.tuple #[.agg #[.slice A1R9 n1R9 c1R9,.slice A2R9 n2R9 c2R9],.bool O.isSome]) (by simp[results,Tryz.results76,go_sem, *]) rfl ?_
  have hst:Fr (fun b=>b=w.heap.size+4) WR ((WR.setCell ⟨w.heap.size+4,0,none⟩ (.slice A1R9 n1R9 c1R9)).setCell ⟨w.heap.size+4,1,none⟩ (.slice A2R9 n2R9 c2R9)):=((Fr.refl (fun b=>b=w.heap.size+4) WR).setCellX (p:=⟨w.heap.size+4,0,none⟩) (Eq.refl (w.heap.size+4)) _).setCellX (p:=⟨w.heap.size+4,1,none⟩) (Eq.refl (w.heap.size+4)) _
  exact⟨((hfA.of0).same hWR).trans hst (fun b hb e=>by omega),hrR9.store F4⟩
theorem zcC (X Y:Nat->Prop) (p:Plan) (v vl vs:Value) (k0:Nat) (m:Mth) (ms:List Value) (f:Frm) (i:Ins) (w:World) (hp:lodB p=true) (h:Sl X w 2 (KprC X w) v p.keepers) (hk0:k0<p.keepers.length) (hm:MthC Y w ms m) (hI:FrmI w vl vs f) (hXr:∀q,rB vl vs q->X q) (hl:f.stack.length≤1000) (hop:i.op=3) (ha0:0≤i.a) (ha1:i.a<f.locals.length) (_:f.locals.length≤1000):
  Calls Tryz.prog 76 #[.agg #[v],.int .i64 k0,.agg ms.toArray,.agg #[vl,vs],.agg #[.int .i64 i.op,.int .i64 i.a,.string i.name,.string i.member]] w (zfb vl vs (insF p k0 m f i) w):=by
 have HP:=fun(g:Frm) W (hW:Fr (rB vl vs) w W) (hJ:FrmI W vl vs g) (hl:g.stack.length≤1000)=>zkJ X p v vl vs k0 g noT W hp (h.keep (R':=KprC X W) hW hXr (fun _ _ _ h=>h.keep hW hXr)) hk0 hJ hl (Nat.zero_le _)
 have hO:=zct (p:=p) (k:=(k0:Int)) (m:=m) (f:=f) (i:=i) hop
 generalize insF p k0 m f i=O at *
 have hlt:=fun q (h:rB vl vs q)=>hI.lt h
 obtain⟨A,cap,rfl,_,_⟩:=h.form
 obtain⟨va,vc,vm,rfl,_,_,har,hcr,hxr⟩:=hm
 obtain⟨Aa,ca,rfl,_,_⟩:=har.form
 obtain⟨Ac,cc,rfl,_,_⟩:=hcr.form
 obtain⟨Ax,cx,rfl,_,_⟩:=hxr.form
 obtain⟨io,ia,inm,im⟩:=i
 dsimp only at *
 obtain⟨a,rfl⟩:∃a:Nat,ia=a:=⟨ia.toNat,by omega⟩
 have ha:a<f.locals.length:=by omega
 rw[show(a:Int).toNat=a by omega] at hO
 obtain⟨g,c,rfl,hgq,hc1,hc2,_,_,_,_⟩:=hI.loc.get2 ha
 clear h har hcr hxr
 subst hop
 rcases ze2 f.stack with ⟨h0,ht0⟩ | ⟨ys,x,h0,ht0⟩
 ·rw[ht0] at hO
  subst hO
  obtain⟨As,cs,hv,_,_⟩:=(h0▸hI.stk).1.form
  rw[List.length_nil] at hv
  subst hv
  clear HP hI ht0 h0
  go_enter Tryz.func76,Tryz.ntmps76
  go_wp2
  refine bodyPost_ret (v:=.tuple #[.agg #[.slice (some ⟨g,0,none⟩) f.locals.length c,.slice As 0 cs],.bool false]) (by simp[results,Tryz.results76,go_sem]) rfl ?_
  refine⟨Fr.of0 ?_,_,_,_,_,_,_,rfl⟩
  exact frc
 ·rw[ht0,Option.map_some] at hO
  have hsl:f.stack.length=ys.length+1:=by rw[h0];simp
  obtain⟨gs,cs,rfl,hq,hs1,hs2,t0,t1,hxn⟩:=(h0▸hI.stk).top
  obtain⟨wA,hwA⟩:∃wA,wA=((((((w.alloc (.cells #[.slice A p.keepers.length cap] 32)).alloc (.cells #[.string m.name,.slice Aa m.args.length ca,.int .i64 m.ret.kind,.string m.ret.name,.int .i64 m.locals,.int .i64 m.stack,.slice Ac m.code.length cc,.slice Ax m.maps.length cx] 60)).alloc (.cells #[.slice (some ⟨g,0,none⟩) f.locals.length c,.slice (some ⟨gs,0,none⟩) (ys.length+1) cs] tFr)).alloc (.cells #[.int .i64 3,.int .i64 a,.string inm,.string im] 101)).alloc (.cells #[.slice none 0 0,.slice none 0 0] tFr)).alloc (.cells #[.int .i64 1,.string ⟨#[]⟩] tTag)):=⟨_,rfl⟩
  have hfA:Fr No w wA:=hwA▸frc
  have hsA:wA.heap.size=w.heap.size+6:=by rw[hwA];simp
  have B0:=(hwA▸bxc:Bx wA w.heap.size 32 #[.slice A p.keepers.length cap])
  have B2:=(hwA▸bxc:Bx wA (w.heap.size+2) tFr #[.slice (some ⟨g,0,none⟩) f.locals.length c,.slice (some ⟨gs,0,none⟩) (ys.length+1) cs])
  have B3:=(hwA▸bxc:Bx wA (w.heap.size+3) 101 #[.int .i64 3,.int .i64 a,.string inm,.string im])
  have B4:=(hwA▸bxc:Bx wA (w.heap.size+4) tFr #[.slice none 0 0,.slice none 0 0])
  have K2:=B2.r2
  have K3:=B3.r4
  have KT0:=cr (hfA.keep0 t0)
  have KT1:=cr (hfA.keep0 t1)
  have hsub:IntKind.i64.wrap (ys.length:Int)=(ys.length:Int):=IntWalk.i64_in _ (by omega)
  have hb0:((ys.length:Int)+1 == 0)=false:=by simp only[beq_eq_false_iff_ne,ne_eq];omega
  unfold maxLen at hs2 hc2
  have hJ0:=hI.keep0 hfA
  clear ht0 t0 t1
  replace hI:=Lib.hid hI
  replace hJ0:=Lib.hid hJ0
  replace h0:=Lib.hid h0
  replace hsl:=Lib.hid hsl
  go_enter Tryz.func76,Tryz.ntmps76
  go_wp2_with fail
  rw[<-hwA]
  replace hwA:=Lib.hid hwA
  refine zn0 11 70 [mV (.pointer (some ⟨w.heap.size+2,0,none⟩)),mV (.slice (some ⟨g,0,none⟩) f.locals.length c),mV (.pointer (some ⟨w.heap.size+3,1,none⟩)),mV (.int .i64 a),mV (.pointer (some ⟨w.heap.size+2,1,none⟩)),mV (.slice (some ⟨gs,0,none⟩) (ys.length+1) cs),mV (.int .i64 ((ys.length+1:Nat):Int)),mV (.int .i64 ys.length),mV (.pointer (some ⟨gs,ys.length * 2,none⟩)),mV (.agg #[.int .i64 x.kind,.string x.name]),mV (.pointer (some ⟨g,a * 2,none⟩))] (by kernel_rfl) (by kernel_rfl) (by simp) ?_ ?_
  ·refine hopC ?_ <| hopC ?_ <| hopC ?_ <| hopC ?_ <| hopC ?_ <| hopC ?_ <| hopC ?_ <| hopC ?_ <| hopC ?_ <| hopC ?_ <| hopC ?_ <| hopZ
   all_goals (intro a' W hW hoff hdep;have hbs:=hW.size;have H8:=hoff 8 rfl;have H9:=hoff 9 rfl;have H13:=hoff 13 rfl;refine nE rfl ?_)
   ·simp[execOp,Act.eval,H8,go_sem,zaa];exact fr1 rfl
   ·have D59:_=_:=hdep 0 59 rfl;clear hoff hdep;simp[execOp,Act.eval,go_sem,zaa, *];exact fr1 rfl
   ·simp[execOp,Act.eval,H9,go_sem,zaa];exact fr1 rfl
   ·have D61:_=_:=hdep 2 61 rfl;clear hoff hdep;simp[execOp,Act.eval,go_sem,zaa, *];exact fr1 rfl
   ·simp[execOp,Act.eval,H8,go_sem,zaa];exact fr1 rfl
   ·have D63:_=_:=hdep 4 63 rfl;clear hoff hdep;simp[execOp,Act.eval,go_sem,zaa, *];exact fr1 rfl
   ·simp[execOp,Act.eval,H13,go_sem,zaa];exact fr1 rfl
   ·have D65:_=_:=hdep 6 65 rfl;simp[execOp,Act.eval,D65,go_sem,zaa];exact⟨Fr.refl _ _,by show Value.int _ _=_;rw[hsub]⟩
   ·have D64:_=_:=hdep 5 64 rfl;have D66:_=_:=hdep 7 66 rfl;clear hoff hdep;simp[execOp,Act.eval,go_sem,zaa,↓IntWalk.iteOmega, *];exact fr1 rfl
   ·have D67:_=_:=hdep 8 67 rfl;clear hoff hdep;simp[execOp,Act.eval,go_sem,zaa, *];exact fr1 rfl
   ·have D60:_=_:=hdep 1 60 rfl;have D62:_=_:=hdep 3 62 rfl;clear hoff hdep;simp[execOp,Act.eval,go_sem,zaa, *];exact fr1 rfl
  intro vs WR hWR hv hne
  simp only[lz6,List.drop_zero,znK,znR,Nat.zero_add,Nat.reduceAdd]
  simp only[Act.put,lz0,lz1,lz2]
  clear hv
  have hJR:=hJ0.out.keep0 hWR
  obtain⟨hJS,hfS⟩:=hJR.set ha hxn
  obtain⟨g',c',he,_,_,_,u0,u1,_,uf⟩:=hJR.loc.get2 ha
  cases he
  have ul:=lt_of_cell u0
  have hq1:Fr No w WR:=hfA.trans0 hWR
  have hF:=(hq1.of0).same hfS
  have F0:=(B0.keep hWR).keepX hfS (fun h=>by have:=hlt _ h;omega)
  have F2:=(B2.keep hWR).keepX hfS (fun h=>by have:=hlt _ h;omega)
  have F4:=(B4.keep hWR).keepX hfS (fun h=>by have:=hlt _ h;omega)
  have HPS:=HP ⟨f.locals.set a x,f.stack⟩ _ hF hJS hl
  have hpf:popF p k0 f.stack noT=some ys:=by rw[h0.out,zkG (ze1 ys x),zcw];rfl
  dsimp only at HPS
  rw[hpf] at HPS
  have z0:=F0.c1
  have zl:=F0.lt
  obtain⟨d0,d1⟩:=F2.c2
  have dl:=F2.lt
  have hO2:Hid (O=(some ys).map (⟨f.locals.set a x,·⟩)):=hO
  clear K2 K3 KT0 KT1 HP hpf hO
  replace hJS:=Lib.hid hJS
  replace hfS:=Lib.hid hfS
  replace hF:=Lib.hid hF
  replace F4:=Lib.hid F4
  have hlen:(f.locals.set a x).length=f.locals.length:=by simp
  go_wp2_with fail
  refine HPS.mono ?_
  rintro e w3 hres
  have hres1:=hres.n hJS.out
  have hf3:=hres1.1
  have G4:=F4.out.keep hf3
  have hres2:=hres1.2.then (vl:=.slice (some ⟨g,0,none⟩) f.locals.length c) (vs:=.slice (some ⟨gs,0,none⟩) (ys.length+1) cs) (w0:=w) hF.out.size (fun q h=>.inl h)
  have hF3:=hF.out.trans hf3 (fun b hb h=>h.elim)
  have hO3:=hO2.out
  rw[<-hO3] at hres2
  obtain⟨A1,n1,c1,A2,n2,c2,rfl⟩:=hres2.is
  clear z0 zl d0 d1 dl u0 u1 uf ul hres hres1 HPS hO2 hO3
  obtain⟨e0,e1⟩:=G4.c2
  have ef:=fun i=>G4.frozen i
  have el:=G4.lt
  replace hF3:=Lib.hid hF3
  replace hres2:=Lib.hid hres2
  go_wp2
  refine bodyPost_ret (v:=.tuple #[.agg #[.slice A1 n1 c1,.slice A2 n2 c2],.bool O.isSome]) (by simp[results,Tryz.results76,go_sem, *]) rfl ?_
  have hst:Fr (fun b=>b=w.heap.size+4) w3 ((w3.setCell ⟨w.heap.size+4,0,none⟩ (.slice A1 n1 c1)).setCell ⟨w.heap.size+4,1,none⟩ (.slice A2 n2 c2)):=((Fr.refl (fun b=>b=w.heap.size+4) w3).setCellX (p:=⟨w.heap.size+4,0,none⟩) (Eq.refl (w.heap.size+4)) _).setCellX (p:=⟨w.heap.size+4,1,none⟩) (Eq.refl (w.heap.size+4)) _
  exact⟨hF3.out.trans hst (fun b hb e=>by omega),hres2.out.store G4⟩
end Go.Proofs.YthembcdcdnffeaaGreat
