/- The reference's l5Member: what is known behind a call's instruction. -/
import Derived.Test.YthembcdcdnffeaaGreatEG28
set_option maxHeartbeats 8000000
set_option maxRecDepth 100000
namespace Go.Proofs.YthembcdcdnffeaaGreat
open Go.RowKit
def zcp (p:Plan) (k:Int) (m:Mth) (f:Frm) (i:Ins):Option Frm:=((zcF p k f.stack (zcG p (zd4 p k i.name i.member).1).args.reverse).bind fun s=>(popF p k s (clsT i.name)).bind fun s=>zcE m.stack s (zel (zcG p (zd4 p k i.name i.member).1).ret)).map (⟨f.locals,·⟩)
theorem zcq {p:Plan} {k:Int}:∀(ks:List Knd) {st r:List Tag},zcF p k st ks=some r->r.length≤st.length
 | [],_,_,h=>by cases h;exact Nat.le_refl _
 | a :: ks,st,r,h=>by
  rw[zcF] at h
  split at h
  ·cases h
  ·rename_i s hs
   exact Nat.le_trans (zcq ks h) (zkU hs)
theorem zcr (X Y:Nat->Prop) (p:Plan) (v vl vs:Value) (k0:Nat) (m:Mth) (ms:List Value) (f:Frm) (i:Ins) (w:World) (hp:lodB p=true) (h:Sl X w 2 (KprC X w) v p.keepers) (hk0:k0<p.keepers.length) (hm:MthC Y w ms m) (h5:m.stack≤5) (hI:FrmI w vl vs f) (hl:f.stack.length≤1000) (hn:i.name.size≤maxLen) (hx:i.member.size≤maxLen) (hmem:namB i.member=true) (hop:i.op=9):
  Calls Tryz.prog 74 #[.agg #[v],.int .i64 k0,.agg ms.toArray,.agg #[vl,vs],.agg #[.int .i64 i.op,.int .i64 i.a,.string i.name,.string i.member]] w (FrmN vl vs (if (zd4 p k0 i.name i.member).2=1 then zcp p k0 m f i else none) w):=by
 have hkw:=fun W (hW:Fr No w W)=>h.keep (R':=KprC X W) hW zN (fun _ _ _ h=>h.keep hW zN)
 have HG:=fun W (hW:Fr No w W)=>s_call X p v k0 i.name i.member W hp (hkw W hW) hk0 hn hx
 rw[<-zlJ (p:=p) (k:=(k0:Int)) (s:=i.name) hmem] at HG
 have hone:=zcm hp (k:=(k0:Int)) (s:=i.name) (m:=i.member)
 have HS:=fun(ul us:Value) (st:List Tag) (t:Tag) (ht:t.name.size≤maxLen) W (hW:Fr No w W) (hJ:FrmI W ul us ⟨f.locals,st⟩) (hl:st.length≤1000)=>zkO X Y p v ul us k0 m ms ⟨f.locals,st⟩ (clsT i.name) t W hp (hkw W hW) hk0 (hm.keep hW zN) h5 hJ hl hn ht
 have HM:=fun(va:Value) (args:List Knd) W (hW:Fr No w W) (ha:Sl X W 2 KndC va args) (hal:args.length≤1000)=>zkW X X p v va vl vs k0 f args W hp (hkw W hW) hk0 ha (hI.keep0 hW) hl hal
 have HL:=fun(k i a:Nat) (s:Str) W (hW:Fr No w W) (hh:Here p ⟨k,s⟩ k i) (hs:s.size≤maxLen) (ha:a<(zbG p ⟨k,s⟩).methods.length)=>znk X p v W (hkw W hW) hh hs ha
 have hO:zcp p k0 m f i=((zcF p k0 f.stack (zcG p (zd4 p k0 i.name i.member).1).args.reverse).bind fun s=>(popF p k0 s (clsT i.name)).bind fun s=>zcE m.stack s (zel (zcG p (zd4 p k0 i.name i.member).1).ret)).map (⟨f.locals,·⟩):=rfl
 generalize zcp p k0 m f i=O at *
 generalize zd4 p k0 i.name i.member=q at *
 obtain⟨A,cap,rfl,_,_⟩:=h.form
 obtain⟨va,vc,vm,rfl,_,_,har,hcr,hxr⟩:=hm
 obtain⟨Aa,ca,rfl,_,_⟩:=har.form
 obtain⟨Ac,cc,rfl,_,_⟩:=hcr.form
 obtain⟨Ax,cx,rfl,_,_⟩:=hxr.form
 obtain⟨Al,cl,As,cs,rfl,rfl,_,_,_,_⟩:=hI.form
 obtain⟨io,ia,inm,im⟩:=i
 dsimp only[clsT] at *
 subst hop
 clear h hkw har hcr hxr hI
 obtain⟨wA,hwA⟩:∃wA,wA=((((((w.alloc (.cells #[.slice A p.keepers.length cap] 32)).alloc (.cells #[.string m.name,.slice Aa m.args.length ca,.int .i64 m.ret.kind,.string m.ret.name,.int .i64 m.locals,.int .i64 m.stack,.slice Ac m.code.length cc,.slice Ax m.maps.length cx] 60)).alloc (.cells #[.slice Al f.locals.length cl,.slice As f.stack.length cs] tFr)).alloc (.cells #[.int .i64 9,.int .i64 ia,.string inm,.string im] 101)).alloc (.cells #[.slice none 0 0,.slice none 0 0] tFr)).alloc (.cells #[.int .i64 2,.string inm] tTag)):=⟨_,rfl⟩
 have hfA:Fr No w wA:=hwA▸frc
 have hsA:wA.heap.size=w.heap.size+6:=by rw[hwA];simp
 have B0:=(hwA▸bxc:Bx wA w.heap.size 32 #[.slice A p.keepers.length cap])
 have B1:=(hwA▸bxc:Bx wA (w.heap.size+1) 60 #[.string m.name,.slice Aa m.args.length ca,.int .i64 m.ret.kind,.string m.ret.name,.int .i64 m.locals,.int .i64 m.stack,.slice Ac m.code.length cc,.slice Ax m.maps.length cx])
 have B2:=(hwA▸bxc:Bx wA (w.heap.size+2) tFr #[.slice Al f.locals.length cl,.slice As f.stack.length cs])
 have B4:=(hwA▸bxc:Bx wA (w.heap.size+4) tFr #[.slice none 0 0,.slice none 0 0])
 have B5:=(hwA▸bxc:Bx wA (w.heap.size+5) tTag #[.int .i64 2,.string inm])
 unfold zd5 at HG
 go_enter Tryz.func74,Tryz.ntmps74
 by_cases hq:q.2=1
 ·rw[if_pos hq]
  obtain⟨hnm,kq,iq,a,hh,hqa,hal⟩:=hone hq
  obtain⟨hm2,hok2⟩:=zcn hp hh hqa hal
  obtain⟨⟨⟨rk,rn⟩,ra⟩,rc⟩:=q
  dsimp only at hq hnm hh hqa hal hm2 hok2 HG hO ⊢
  obtain rfl:rk=(kq:Int):=hh.1
  subst hqa hq
  have HL2:=fun W (hW:Fr No w W)=>HL kq iq a rn W hW hh hnm hal
  rw[<-hm2] at HL2
  clear HL hm2
  generalize zcG p (⟨(kq:Int),rn⟩,(a:Int))=m2 at *
  obtain⟨hna,hkr,hka,_⟩:=ze7 hok2
  have hrs:=zee hkr
  have HT:=fun W=>zkM m2.ret W hrs
  have hts:=zkS hrs
  generalize zel m2.ret=tg at *
  clear hh hal hone hok2 hka hkr
  go_wp2_with fail
  rw[<-hwA]
  replace hwA:=Lib.hid hwA
  refine(HG wA hfA).mono ?_
  rintro e w1 ⟨rfl,hf1⟩
  have C0:=B0.keep hf1
  have z0:=C0.c1
  have zl:=C0.lt
  go_wp2_with fail
  obtain⟨w2,hw2⟩:∃w2,w2=(w1.alloc (.cells #[.int .i64 (kq:Int),.string rn,.int .i64 (a:Int)] 71)):=⟨_,rfl⟩
  have hf2:Fr No w1 w2:=hw2▸frc
  rw[<-hw2]
  have hfw2:=(hfA.trans0 hf1).trans0 hf2
  obtain⟨mcs,hmc,HMv⟩:=HL2 w2 hfw2
  have hmc2:=fun W (hW:Fr No w2 W)=>hmc.keep hW zN
  clear HL2 HG z0 zl C0
  refine(HMv w2 (Fr.refl _ _)).mono ?_
  rintro e w3 ⟨rfl,hf3⟩
  obtain⟨vb,vd,vq,rfl,_,_,hbr,hdr,hqr⟩:=hmc
  obtain⟨Ab,cb,rfl,_,_⟩:=hbr.form
  obtain⟨Ad,cd,rfl,_,_⟩:=hdr.form
  obtain⟨Aq,cq,rfl,_,_⟩:=hqr.form
  clear hdr hqr HMv hmc2
  have BMz:=(bxc:Bx (w3.alloc (.cells #[.string ⟨#[]⟩,.slice none 0 0,.int .i64 0,.string ⟨#[]⟩,.int .i64 0,.int .i64 0,.slice none 0 0,.slice none 0 0] 60)) w3.heap.size 60 #[.string ⟨#[]⟩,.slice none 0 0,.int .i64 0,.string ⟨#[]⟩,.int .i64 0,.int .i64 0,.slice none 0 0,.slice none 0 0])
  simp only[]
  go_at_K
  repeat(first|refine zco rfl 60 (.tmp 15) (.tmp 43) rfl 8 (by kernel_rfl) w3.heap.size 60 _ [.string m2.name,.slice Ab m2.args.length cb,.int .i64 m2.ret.kind,.string m2.ret.name,.int .i64 m2.locals,.int .i64 m2.stack,.slice Ad m2.code.length cd,.slice Aq m2.maps.length cq] rfl rfl BMz rfl rfl (by simp[Value.oneCell']) ?_|go_step)
  intro w4 BM hfm
  simp only[Act.put]
  have hf34:Fr No w3 w4:=((Fr.refl No w3).alloc _).trans hfm (fun b hb e=>by omega)
  have hqA4:Fr No wA w4:=((hf1.trans0 hf2).trans0 hf3).trans0 hf34
  have hfw4:Fr No w w4:=hfA.trans0 hqA4
  have E0:=B0.keep hqA4
  have E1:=B1.keep hqA4
  have E2:=B2.keep hqA4
  have E4:=B4.keep hqA4
  have E5:=B5.keep hqA4
  have hbr4:=hbr.keep (R':=KndC) (hf3.trans0 hf34) zN (fun _ _ _ h=>h)
  have HM2:=HM _ m2.args w4 hfw4 hbr4 (by omega)
  clear HM hbr hbr4 hfm BMz B0 B1 B2 B4 B5
  have z0:=E0.c1
  have zl:=E0.lt
  obtain⟨d0,d1⟩:=E2.c2
  have dl:=E2.lt
  obtain⟨y0,y1,y2,y3,y4,y5,y6,y7⟩:=Bx.c8 BM
  have yl:=BM.lt
  have hs4:=hqA4.size
  cases ho:zcF p k0 f.stack m2.args.reverse with
  | none=>
   simp only[ho,Option.map_none,Option.bind_none] at hO HM2
   subst hO
   clear HS ho
   go_wp2_with fail
   refine HM2.mono ?_
   rintro e w5 ⟨hf5,A1,n1,c1,A2,n2,c2,rfl⟩
   have F2:=E2.keep hf5
   have F4:=E4.keep hf5
   clear z0 zl d0 d1 dl y0 y1 y2 y3 y4 y5 y6 y7 yl
   obtain⟨d0,d1⟩:=F2.c2
   have dl:=F2.lt
   obtain⟨e0,e1⟩:=F4.c2
   have ef:=fun i=>F4.frozen i
   have el:=F4.lt
   go_wp2
   refine bodyPost_ret (v:=.tuple #[.agg #[.slice Al f.locals.length cl,.slice As f.stack.length cs],.bool false]) (by simp[results,Tryz.results74,go_sem, *]) rfl ?_
   exact⟨frc,_,_,_,_,_,_,rfl⟩
  | some r=>
   have hrl:=Nat.le_trans (zcq _ ho) hl
   simp only[ho,Option.map_some,Option.bind_some] at hO HM2
   clear ho
   go_wp2_with fail
   refine HM2.mono ?_
   rintro e w5 ⟨hf5,Bl,dl',Bs,ds',rfl,hJ,hblk⟩
   dsimp only at hJ hblk
   clear z0 zl d0 d1 dl y0 y1 y2 y3 y4 y5 y6 y7 yl
   go_wp2_with fail
   obtain⟨w6,hw6⟩:∃w6,w6=(w5.alloc (.cells #[.slice Bl f.locals.length dl',.slice Bs r.length ds'] tFr)):=⟨_,rfl⟩
   have hf6:Fr No w5 w6:=hw6▸frc
   have BG:=(hw6▸bxc:Bx w6 w5.heap.size tFr #[.slice Bl f.locals.length dl',.slice Bs r.length ds'])
   have hq6:=hf5.trans0 hf6
   have hfw6:=hfw4.trans0 hq6
   have K0:=(E0.keep hq6).r1
   have K1:=(E1.keep hq6).r8
   have KG:=BG.r2
   have K5:=(E5.keep hq6).r2
   have KM:=(BM.keep hq6).r8
   have G4:=E4.keep hq6
   have hJ6:=hJ.keep0 hf6
   have HSw:=fun W (hW:Fr No w6 W)=>HS _ _ r tg hts W (hfw6.trans0 hW) (hJ6.keep0 hW) hrl
   have hsw:=hfw4.size
   clear HS E0 E1 E2 E4 E5 BM BG HM2
   rw[<-hw6]
   replace hw6:=Lib.hid hw6
   refine zn0 11 67 [mV (.agg #[.slice A p.keepers.length cap]),mV (.int .i64 k0),mV (.agg #[.string m.name,.slice Aa m.args.length ca,.int .i64 m.ret.kind,.string m.ret.name,.int .i64 m.locals,.int .i64 m.stack,.slice Ac m.code.length cc,.slice Ax m.maps.length cx]),mV (.agg #[.slice Bl f.locals.length dl',.slice Bs r.length ds']),mV (.agg #[.int .i64 2,.string inm]),mV (.pointer (some ⟨w3.heap.size,2,none⟩)),mV (.agg #[.int .i64 m2.ret.kind,.string m2.ret.name]),mV (.agg #[.int .i64 tg.kind,.string tg.name]),mC (resV (.slice Bl f.locals.length dl') (.slice Bs r.length ds') O w6.heap.size) (zlF _ _ _ _),mC (resA (.slice Bl f.locals.length dl') (.slice Bs r.length ds') O w6.heap.size) (zlG _ _ _ _),mV (.bool O.isSome)] (by kernel_rfl) (by kernel_rfl) (by simp) ?_ ?_
   ·refine hc4 ?_ ?_ ?_ ?_ <| hc4 ?_ ?_ ?_ ?_ <| hopC ?_ <| hopC ?_ <| hopC ?_ <| hopZ
    all_goals (intro a' W hW hoff hdep;have hbs:=hW.size;have H5:=hoff 5 rfl;have H1:=hoff 1 rfl;have H7:=hoff 7 rfl;have H16:=hoff 16 rfl;have H12:=hoff 12 rfl;have H15:=hoff 15 rfl;refine nE rfl ?_)
    ·exact gx0
    ·simp[execOp,Act.eval,H1,go_sem,zaa];exact fr1 rfl
    ·exact gx0
    ·exact gx0
    ·exact gx0
    ·simp[execOp,Act.eval,H15,go_sem,zaa];exact fr1 rfl
    ·have D61:_=_:=hdep 5 61 rfl;clear hoff hdep;simp[execOp,Act.eval,go_sem,zaa, *];exact fr1 rfl
    ·have D62:_=_:=hdep 6 62 rfl;simp[Act.eval,D62,go_sem,zaa];exact(HT W).mono fun e w'' h=>⟨_,h.1,h.2,rfl⟩
    ·have D56:_=_:=hdep 0 56 rfl;have D57:_=_:=hdep 1 57 rfl;have D58:_=_:=hdep 2 58 rfl;have D59:_=_:=hdep 3 59 rfl;have D60:_=_:=hdep 4 60 rfl;have D63:_=_:=hdep 7 63 rfl;simp[Act.eval,D56,D57,D58,D59,D60,D63,go_sem,zaa];exact(HSw W hW).mono fun e w'' h=>zlH hW rfl (hO▸h)
    ·obtain⟨A1,n1,c1,A2,n2,c2,D64,hr⟩:(resV (.slice Bl f.locals.length dl') (.slice Bs r.length ds') O w6.heap.size) _ W:=hdep 8 64 rfl;simp[execOp,Act.eval,D64,go_sem,zaa];exact⟨Fr.refl _ _,_,_,_,_,_,_,rfl,hr⟩
    ·obtain⟨A1,n1,c1,A2,n2,c2,D64,hr⟩:(resV (.slice Bl f.locals.length dl') (.slice Bs r.length ds') O w6.heap.size) _ W:=hdep 8 64 rfl;simp[execOp,Act.eval,D64,go_sem,zaa];exact fr1 rfl
   intro vs WR hWR hv hne
   obtain⟨A1R8,n1R8,c1R8,A2R8,n2R8,c2R8,e8,hrR8⟩:=hv 8 (by omega)
   obtain⟨A1R9,n1R9,c1R9,A2R9,n2R9,c2R9,e9,hrR9⟩:=hv 9 (by omega)
   simp only[lz6,List.drop_zero,znM,znK,znR,Nat.zero_add,Nat.reduceAdd,e8,e9]
   simp only[Act.put,lz0,lz1,lz2]
   clear e8 e9 hv
   have G4':=G4.keep hWR
   obtain⟨e0,e1⟩:=G4'.c2
   have ef:=fun i=>G4'.frozen i
   have el:=G4'.lt
   have hrr:=hrR9.then (vl:=.slice Al f.locals.length cl) (vs:=.slice As f.stack.length cs) (w0:=w) hfw6.size (fun q h=>(hblk q h).imp id (fun h=>by omega))
   clear K0 K1 K5 KG KM HSw HT
   go_wp2
   refine bodyPost_ret (v:=.tuple #[.agg #[.slice A1R9 n1R9 c1R9,.slice A2R9 n2R9 c2R9],.bool O.isSome]) (by simp[results,Tryz.results74,go_sem, *]) rfl ?_
   exact⟨frc,hrr.store G4'⟩
 ·rw[if_neg hq]
  obtain⟨⟨⟨rk,rn⟩,ra⟩,rc⟩:=q
  dsimp only at hq HG ⊢
  have hcb:(rc != 1)=true:=by simpa using hq
  go_wp2_with fail
  rw[<-hwA]
  replace hwA:=Lib.hid hwA
  refine(HG wA hfA).mono ?_
  rintro e w1 ⟨rfl,hf1⟩
  obtain⟨d0,d1⟩:=(B2.keep hf1).c2
  have dl:=(B2.keep hf1).lt
  have C4:=B4.keep hf1
  obtain⟨e0,e1⟩:=C4.c2
  have ef:=fun i=>C4.frozen i
  have el:=C4.lt
  clear HG HS HM HL B0 B1 B2 B4 B5 hone hO
  go_wp2
  refine bodyPost_ret (v:=.tuple #[.agg #[.slice Al f.locals.length cl,.slice As f.stack.length cs],.bool false]) (by simp[results,Tryz.results74,go_sem, *]) rfl ?_
  exact⟨frc,_,_,_,_,_,_,rfl⟩
theorem zmQ {p:Plan} {k:Int} {m:Mth} {f:Frm} {i:Ins} (h:i.op=1):insF p k m f i=(zcE m.stack f.stack numT).map (⟨f.locals,·⟩):=by unfold insF;rw[if_pos h]
theorem zmR {p:Plan} {k:Int} {m:Mth} {f:Frm} {i:Ins} (h:i.op=5):insF p k m f i=(zcE m.stack f.stack zek).map (⟨f.locals,·⟩):=by unfold insF;simp[h]
theorem zmS {p:Plan} {k:Int} {m:Mth} {f:Frm} {i:Ins} (h:i.op=6):insF p k m f i=(zcE m.stack f.stack (clsT i.name)).map (⟨f.locals,·⟩):=by unfold insF;simp[h]
theorem zmT {p:Plan} {k:Int} {m:Mth} {f:Frm} {i:Ins} (h:i.op=11∨i.op=14):insF p k m f i=(popF p k f.stack numT).map (⟨f.locals,·⟩):=by rcases h with h|h<;>(unfold insF;simp[h])
theorem zmU {p:Plan} {k:Int} {m:Mth} {f:Frm} {i:Ins} (h:i.op=12):insF p k m f i=(popR f.stack).map (⟨f.locals,·⟩):=by unfold insF;simp[h]
theorem zmV {p:Plan} {k:Int} {m:Mth} {f:Frm} {i:Ins} (h:i.op=13):insF p k m f i=some f:=by unfold insF;simp[h]
theorem zpQ (X Y:Nat->Prop) (p:Plan) (v vl vs:Value) (k0:Nat) (m:Mth) (ms:List Value) (f:Frm) (i:Ins) (w:World) (hp:lodB p=true) (h:Sl X w 2 (KprC X w) v p.keepers) (hk0:k0<p.keepers.length) (hm:MthC Y w ms m) (h5:m.stack≤5) (hI:FrmI w vl vs f) (hl:f.stack.length≤1000) (hn:i.name.size≤maxLen) (hop:i.op=1∨i.op=5∨i.op=6∨i.op=12∨i.op=11∨i.op=14):
  Calls Tryz.prog 76 #[.agg #[v],.int .i64 k0,.agg ms.toArray,.agg #[vl,vs],.agg #[.int .i64 i.op,.int .i64 i.a,.string i.name,.string i.member]] w (zfb vl vs (insF p k0 m f i) w):=by
 have hkw:=fun W (hW:Fr No w W)=>h.keep (R':=KprC X W) hW zN (fun _ _ _ h=>h.keep hW zN)
 have hmw:=fun W (hW:Fr No w W)=>hm.keep (Y:=No) hW zN
 have hlt:=fun q (h:rB vl vs q)=>hI.lt h
 rcases hop with hop|hop|hop|hop|hop|hop
 have HP:=fun W (hW:Fr No w W)=>(zfh Y m ms vl vs f (numT) W (hmw W hW) h5 (hI.keep0 hW) (Nat.zero_le _)).mono (fun _ _ h=>h.2)
 rw[<-zmQ (p:=p) (k:=(k0:Int)) (m:=m) (f:=f) (i:=i) hop] at HP
 rotate_left
 have HP:=fun W (hW:Fr No w W)=>(zfh Y m ms vl vs f (zek) W (hmw W hW) h5 (hI.keep0 hW) (Nat.zero_le _)).mono (fun _ _ h=>h.2)
 rw[<-zmR (p:=p) (k:=(k0:Int)) (m:=m) (f:=f) (i:=i) hop] at HP
 rotate_left
 have HP:=fun W (hW:Fr No w W)=>(zfh Y m ms vl vs f (clsT i.name) W (hmw W hW) h5 (hI.keep0 hW) hn).mono (fun _ _ h=>h.2)
 rw[<-zmS (p:=p) (k:=(k0:Int)) (m:=m) (f:=f) (i:=i) hop] at HP
 rotate_left
 have HP:=fun W (hW:Fr No w W)=>(zkK vl vs f W (hI.keep0 hW) hl).mono (fun _ _ h=>(PopP.n (hI.keep0 hW) h).post)
 rw[<-zmU (p:=p) (k:=(k0:Int)) (m:=m) (f:=f) (i:=i) hop] at HP
 rotate_left
 have HP:=fun W (hW:Fr No w W)=>(zkJ X p v vl vs k0 f numT W hp (hkw W hW) hk0 (hI.keep0 hW) hl (Nat.zero_le _)).mono (fun _ _ h=>(PopP.n (hI.keep0 hW) h).post)
 rw[<-zmT (p:=p) (k:=(k0:Int)) (m:=m) (f:=f) (i:=i) (.inl hop)] at HP
 rotate_left
 have HP:=fun W (hW:Fr No w W)=>(zkJ X p v vl vs k0 f numT W hp (hkw W hW) hk0 (hI.keep0 hW) hl (Nat.zero_le _)).mono (fun _ _ h=>(PopP.n (hI.keep0 hW) h).post)
 rw[<-zmT (p:=p) (k:=(k0:Int)) (m:=m) (f:=f) (i:=i) (.inr hop)] at HP
 rotate_left
 all_goals
  obtain⟨A,cap,rfl,_,_⟩:=h.form
  obtain⟨va,vc,vm,rfl,_,_,har,hcr,hxr⟩:=hm
  obtain⟨Aa,ca,rfl,_,_⟩:=har.form
  obtain⟨Ac,cc,rfl,_,_⟩:=hcr.form
  obtain⟨Ax,cx,rfl,_,_⟩:=hxr.form
  obtain⟨Al,cl,As,cs,rfl,rfl,_,_,_,_⟩:=hI.form
  obtain⟨io,ia,inm,im⟩:=i
  dsimp only at *
  clear h hkw hmw har hcr hxr
  generalize insF p k0 m f ⟨io,ia,inm,im⟩=O at *
  obtain⟨wA,hwA⟩:∃wA,wA=((((((w.alloc (.cells #[.slice A p.keepers.length cap] 32)).alloc (.cells #[.string m.name,.slice Aa m.args.length ca,.int .i64 m.ret.kind,.string m.ret.name,.int .i64 m.locals,.int .i64 m.stack,.slice Ac m.code.length cc,.slice Ax m.maps.length cx] 60)).alloc (.cells #[.slice Al f.locals.length cl,.slice As f.stack.length cs] tFr)).alloc (.cells #[.int .i64 io,.int .i64 ia,.string inm,.string im] 101)).alloc (.cells #[.slice none 0 0,.slice none 0 0] tFr)).alloc (.cells #[.int .i64 1,.string ⟨#[]⟩] tTag)):=⟨_,rfl⟩
  have hfA:Fr No w wA:=hwA▸frc
  have hsA:wA.heap.size=w.heap.size+6:=by rw[hwA];simp
  have B4:=(hwA▸bxc:Bx wA (w.heap.size+4) tFr #[.slice none 0 0,.slice none 0 0])
  subst hop
  go_enter Tryz.func76,Tryz.ntmps76
  have HC:=HP wA hfA
  clear HP hI
  go_wp2_with fail
  rw[<-hwA]
  replace hwA:=Lib.hid hwA
  refine HC.mono ?_
  rintro e w1 hres
  have C4:=B4.keepX hres.1 (fun h=>by have:=hlt _ h;omega)
  replace hres:=hres.from hfA
  obtain⟨A1,n1,c1,A2,n2,c2,rfl⟩:=hres.2.is
  obtain⟨e0,e1⟩:=C4.c2
  have ef:=fun i=>C4.frozen i
  have el:=C4.lt
  go_wp2
  refine bodyPost_ret (v:=.tuple #[.agg #[.slice A1 n1 c1,.slice A2 n2 c2],.bool O.isSome]) (by simp[results,Tryz.results76,go_sem, *]) rfl ?_
  have hst:Fr (fun b=>b=w.heap.size+4) w1 ((w1.setCell ⟨w.heap.size+4,0,none⟩ (.slice A1 n1 c1)).setCell ⟨w.heap.size+4,1,none⟩ (.slice A2 n2 c2)):=((Fr.refl (fun b=>b=w.heap.size+4) w1).setCellX (p:=⟨w.heap.size+4,0,none⟩) (Eq.refl (w.heap.size+4)) _).setCellX (p:=⟨w.heap.size+4,1,none⟩) (Eq.refl (w.heap.size+4)) _
  exact⟨hres.1.trans hst (fun b hb e=>by omega),hres.2.store C4⟩
theorem zm2 (X Y:Nat->Prop) (p:Plan) (v vl vs:Value) (k0:Nat) (m:Mth) (ms:List Value) (f:Frm) (i:Ins) (w:World) (_:lodB p=true) (h:Sl X w 2 (KprC X w) v p.keepers) (_:k0<p.keepers.length) (hm:MthC Y w ms m) (_:m.stack≤5) (hI:FrmI w vl vs f) (_:f.stack.length≤1000) (hn:i.name.size≤maxLen) (hop:i.op=13):
  Calls Tryz.prog 76 #[.agg #[v],.int .i64 k0,.agg ms.toArray,.agg #[vl,vs],.agg #[.int .i64 i.op,.int .i64 i.a,.string i.name,.string i.member]] w (zfb vl vs (insF p k0 m f i) w):=by
 have hkw:=fun W (hW:Fr No w W)=>h.keep (R':=KprC X W) hW zN (fun _ _ _ h=>h.keep hW zN)
 have hmw:=fun W (hW:Fr No w W)=>hm.keep (Y:=No) hW zN
 rw[zmV hop]
 have hlt:=fun q (h:rB vl vs q)=>hI.lt h
 obtain⟨A,cap,rfl,_,_⟩:=h.form
 obtain⟨va,vc,vm,rfl,_,_,har,hcr,hxr⟩:=hm
 obtain⟨Aa,ca,rfl,_,_⟩:=har.form
 obtain⟨Ac,cc,rfl,_,_⟩:=hcr.form
 obtain⟨Ax,cx,rfl,_,_⟩:=hxr.form
 obtain⟨Al,cl,As,cs,rfl,rfl,_,_,_,_⟩:=hI.form
 obtain⟨io,ia,inm,im⟩:=i
 dsimp only at *
 clear h hkw hmw har hcr hxr
 subst hop
 obtain⟨wA,hwA⟩:∃wA,wA=((((((w.alloc (.cells #[.slice A p.keepers.length cap] 32)).alloc (.cells #[.string m.name,.slice Aa m.args.length ca,.int .i64 m.ret.kind,.string m.ret.name,.int .i64 m.locals,.int .i64 m.stack,.slice Ac m.code.length cc,.slice Ax m.maps.length cx] 60)).alloc (.cells #[.slice Al f.locals.length cl,.slice As f.stack.length cs] tFr)).alloc (.cells #[.int .i64 13,.int .i64 ia,.string inm,.string im] 101)).alloc (.cells #[.slice none 0 0,.slice none 0 0] tFr)).alloc (.cells #[.int .i64 1,.string ⟨#[]⟩] tTag)):=⟨_,rfl⟩
 have hfA:Fr No w wA:=hwA▸frc
 have hsA:wA.heap.size=w.heap.size+6:=by rw[hwA];simp
 have B0:=(hwA▸bxc:Bx wA w.heap.size 32 #[.slice A p.keepers.length cap])
 have B1:=(hwA▸bxc:Bx wA (w.heap.size+1) 60 #[.string m.name,.slice Aa m.args.length ca,.int .i64 m.ret.kind,.string m.ret.name,.int .i64 m.locals,.int .i64 m.stack,.slice Ac m.code.length cc,.slice Ax m.maps.length cx])
 have B2:=(hwA▸bxc:Bx wA (w.heap.size+2) tFr #[.slice Al f.locals.length cl,.slice As f.stack.length cs])
 have B3:=(hwA▸bxc:Bx wA (w.heap.size+3) 101 #[.int .i64 13,.int .i64 ia,.string inm,.string im])
 have B4:=(hwA▸bxc:Bx wA (w.heap.size+4) tFr #[.slice none 0 0,.slice none 0 0])
 have B5:=(hwA▸bxc:Bx wA (w.heap.size+5) tTag #[.int .i64 1,.string ⟨#[]⟩])
 go_enter Tryz.func76,Tryz.ntmps76
 clear B0 B1 B2 B3 B5 hn
 go_wp2
 refine bodyPost_ret (v:=.tuple #[.agg #[.slice Al f.locals.length cl,.slice As f.stack.length cs],.bool true]) (by simp[results,Tryz.results76,go_sem]) rfl ?_
 refine⟨Fr.of0 ?_,_,_,_,_,rfl,hI.keep0 ?_,fun q h=>.inl h⟩<;>exact frc
end Go.Proofs.YthembcdcdnffeaaGreat
