/- The reference's copies: what is known, methods, classes, keepers in new memory. -/
import Derived.Test.YtpghfhjhjlmljaaGreatPG27
set_option maxHeartbeats 8000000
set_option maxRecDepth 100000
namespace Go.Proofs.YtpghfhjhjlmljaaGreat
open Go.RowKit
theorem zBv (X:Nat->Prop) (v:Value) (xs:List Tag) (w:World) (h:Sl X w 2 TagC v xs) (hl:xs.length≤1000):
  Calls Tryz.prog 103 #[v] w (fun e w'=>∃v',e=.returned v'∧Sl (fun b=>b<w.heap.size) w' 2 TagC v' xs∧Fr No w w'):=by
 obtain⟨ks,e1,r1,s1⟩:=h.raws
 have hone:=OneC.of e1 r1 zAj
 obtain⟨A,cap,rfl,_,_⟩:=h.form
 have hf0:Fr No w (w.alloc (.cells #[] 187)):=frc
 have s1:=s1.rawKeep hf0 zN
 clear h
 rw[<-e1] at s1 hl
 replace e1:=Lib.hid e1
 go_enter Tryz.func103,Tryz.ntmps103
 go_wp2_with (at_builtin;refine Hid.out ?_)
 refine Lib.hid ?_
 rw[<-e1.out]
 refine zqF zzX rfl _ _ rfl ⟨w.heap.size,0,none⟩ rfl X _ ks rfl s1 (by omega) hone ?_
 intro A' c' w2 hrow hq hf2
 have hfin:=Lib.hid (show ∃v',Ending.returned (.slice A' ks.length c')=.returned v'∧Sl (fun b=>b<w.heap.size) w2 2 TagC v' xs∧Fr No w w2 from⟨_,rfl,by rw[e1.out] at hrow hq ⊢;exact hrow.rawSl e1.out r1 (fun q h=>by have:=hq q h;simp at this;omega),hf0.trans0 hf2⟩)
 simp only[Act.put,lz0,lz1,lz2]
 clear hrow hq hf2 hf0 s1 hone r1
 go_wp2_with fail
 refine bodyPost_ret (v:=.slice A' ks.length c') (by simp[results,Tryz.results103,go_sem, *]) rfl ?_
 exact hfin.out
def tagR (xs:List Tag) (base:Nat):Value->World->Prop:=fun v W=>∃A c,v=.slice A xs.length c∧Sl (fun b=>b<base) W 2 TagC (.slice A xs.length c) xs
theorem zBw (xs:List Tag) (base:Nat):MonP (tagR xs base):=fun _ _ _ ⟨A,c,h1,h2⟩ hf=>⟨A,c,h1,h2.k0 hf⟩
def mapA (x:Mp) (base:Nat):Value->World->Prop:=fun v W=>∃A c B d,v=.agg #[.int .i64 x.at_,.slice A x.locals.length c,.slice B x.stack.length d]∧Sl (fun b=>b<base) W 2 TagC (.slice A x.locals.length c) x.locals∧Sl (fun b=>b<base) W 2 TagC (.slice B x.stack.length d) x.stack
theorem zBx (x:Mp) (base:Nat):MonP (mapA x base):=fun _ _ _ ⟨A,c,B,d,h1,h2,h3⟩ hf=>⟨A,c,B,d,h1,h2.k0 hf,h3.k0 hf⟩
def mapX (x:Mp) (base:Nat):Value->World->Prop:=fun v W=>∃b A c B d,v=.slice (some ⟨b,0,none⟩) 1 1∧Bx W b 165 #[.int .i64 x.at_,.slice A x.locals.length c,.slice B x.stack.length d]∧Sl (fun b=>b<base) W 2 TagC (.slice A x.locals.length c) x.locals∧Sl (fun b=>b<base) W 2 TagC (.slice B x.stack.length d) x.stack
theorem zBy (x:Mp) (base:Nat):MonP (mapX x base):=fun _ _ _ ⟨b,A,c,B,d,h0,hB,h2,h3⟩ hf=>⟨b,A,c,B,d,h0,hB.keep hf,h2.k0 hf,h3.k0 hf⟩
def zBz (m:Mth) (w:World) (e:Ending) (w':World):Prop:=∃cs,e=.returned (.agg cs.toArray)∧MthC (fun b=>b<w.heap.size) w' cs m∧Fr No w w'
theorem zBA (X:Nat->Prop) (m:Mth) (cs:List Value) (w:World) (h:MthC X w cs m) (hsm:SmM m):
  Calls Tryz.prog 71 #[.agg cs.toArray] w (zBz m w):=by
 replace h:=h.weaken (Y:=No) zN
 obtain⟨va,vc,vm,rfl,z1,z2,ha,hc,hm⟩:=h
 obtain⟨hl1,hl2,hl3,hl4⟩:=hsm
 obtain⟨A1,c1,rfl,_,_⟩:=ha.form
 obtain⟨A2,c2,rfl,_,_⟩:=hc.form
 obtain⟨A3,c3,rfl,_,_⟩:=hm.form
 obtain⟨wA,hwA⟩:∃wA,wA=((w.alloc (.cells #[.string m.name,.slice A1 m.args.length c1,.int .i64 m.ret.kind,.string m.ret.name,.int .i64 m.locals,.int .i64 m.stack,.slice A2 m.code.length c2,.slice A3 m.maps.length c3] 133)).alloc (.cells #[.string ⟨#[]⟩,.slice none 0 0,.int .i64 0,.string ⟨#[]⟩,.int .i64 0,.int .i64 0,.slice none 0 0,.slice none 0 0] 133)).alloc (.cells #[.string m.name,.slice A1 m.args.length c1,.int .i64 m.ret.kind,.string m.ret.name,.int .i64 m.locals,.int .i64 m.stack,.slice A2 m.code.length c2,.slice A3 m.maps.length c3] 133):=⟨_,rfl⟩
 have hfA:Fr No w wA:=hwA▸frc
 have B1:=(hwA▸bxc:Bx wA w.heap.size 133 #[.string m.name,.slice A1 m.args.length c1,.int .i64 m.ret.kind,.string m.ret.name,.int .i64 m.locals,.int .i64 m.stack,.slice A2 m.code.length c2,.slice A3 m.maps.length c3])
 have B2:=(hwA▸bxc:Bx wA (w.heap.size+1) 133 #[.string ⟨#[]⟩,.slice none 0 0,.int .i64 0,.string ⟨#[]⟩,.int .i64 0,.int .i64 0,.slice none 0 0,.slice none 0 0])
 have B3:=(hwA▸bxc:Bx wA (w.heap.size+1+1) 133 #[.string m.name,.slice A1 m.args.length c1,.int .i64 m.ret.kind,.string m.ret.name,.int .i64 m.locals,.int .i64 m.stack,.slice A2 m.code.length c2,.slice A3 m.maps.length c3])
 have hsA:wA.heap.size=w.heap.size+1+1+1:=by rw[hwA];simp
 replace hwA:=Lib.hid hwA
 have p:=B1.c8
 have pl:=B1.lt
 go_enter Tryz.func71,Tryz.ntmps71
 go_wp2_with (at_builtin;refine Hid.out ?_)
 refine Lib.hid ?_
 rw[<-hwA.out]
 obtain⟨k1,e1,r1,s1⟩:=(ha.k0 hfA).raws
 have hone1:=OneC.of e1 r1 zuz
 have hf1:=(Fr.refl No wA).alloc (.cells #[] 123)
 refine zqF zzU rfl _ _ rfl ⟨w.heap.size+1+1+1,0,none⟩ rfl No (.slice A1 m.args.length c1) k1 rfl (s1.rawKeep hf1 zN) (by omega) hone1 ?_
 intro D1 d1 w2 hrow hq hf2
 simp only[Act.put,lz0,lz1,lz2]
 rw[e1] at hrow hq ⊢
 have hf02:=hf1.trans0 hf2
 have hD1:Sl (fun b=>b<wA.heap.size) w2 2 KndC (.slice D1 m.args.length d1) m.args:=hrow.rawSl e1 r1 (fun q h=>by have:=hq q h;simp at this;omega)
 have B1:=B1.keep hf02
 have B2:=B2.keep hf02
 have B3:=B3.keep hf02
 have p:=B1.c8
 have pl:=B1.lt
 have m0:=B3.c8
 have ml:=B3.lt
 have mf:=B3.frozen
 clear hrow hq hf2 s1 hone1 r1 e1
 go_wp2_with (at_builtin;refine Hid.out ?_)
 refine Lib.hid ?_
 obtain⟨w3,hw3⟩:∃w3,w3=w2.setCell ⟨w.heap.size+1+1,1,none⟩ (.slice D1 m.args.length d1):=⟨_,rfl⟩
 rw[<-hw3]
 have hc3:Fr (fun b=>b=w.heap.size+1+1) w2 w3:=hw3▸Fr.cell1 _ _ _ _
 have B1:=B1.keepX hc3 (by omega)
 have B2:=B2.keepX hc3 (by omega)
 have B3:Bx w3 (w.heap.size+1+1) 133 #[.string m.name,.slice D1 m.args.length d1,.int .i64 m.ret.kind,.string m.ret.name,.int .i64 m.locals,.int .i64 m.stack,.slice A2 m.code.length c2,.slice A3 m.maps.length c3]:=hw3▸B3.setc rfl
 have hD1:=hD1.keep (R':=KndC) hc3 (fun b e=>by show b<wA.heap.size;omega) (fun _ _ _ h=>h)
 have hz3:w3.heap.size=w2.heap.size:=by rw[hw3];simp[World.setCell]
 have hF3:Fr No w w3:=(hfA.trans0 hf02).trans hc3 (fun b hb e=>by omega)
 have hs02:=hf02.size
 clear hw3 p pl m0 ml mf hc3 hf02 hf1
 obtain⟨k2,e2,r2,s2⟩:=(hc.k0 hF3).raws
 have hone2:=OneC.of e2 r2 zrO
 have hf4:=(Fr.refl No w3).alloc (.cells #[] 178)
 refine zqF zz2 rfl _ _ rfl ⟨w2.heap.size,0,none⟩ rfl No (.slice A2 m.code.length c2) k2 rfl (s2.rawKeep hf4 zN) (by omega) hone2 ?_
 intro D2 d2 w5 hrow hq hf5
 simp only[Act.put,lz0,lz1,lz2]
 rw[e2] at hrow hq ⊢
 have hf35:=hf4.trans0 hf5
 have hD2:Sl (fun b=>b<wA.heap.size) w5 4 InsC (.slice D2 m.code.length d2) m.code:=hrow.rawSl e2 r2 (fun q h=>by have:=hq q h;simp at this;omega)
 have hD1:=hD1.k0 hf35
 have B1:=B1.keep hf35
 have B2:=B2.keep hf35
 have B3:=B3.keep hf35
 have p:=B1.c8
 have pl:=B1.lt
 have m0:=B3.c8
 have ml:=B3.lt
 have mf:=B3.frozen
 have hs35:=hf35.size
 clear hrow hq hf5 s2 hone2 r2 e2 ha hc
 go_wp2_with fail
 obtain⟨w8,hw8⟩:∃w8,w8=((w5.setCell ⟨w.heap.size+1+1,6,none⟩ (.slice D2 m.code.length d2)).setCell ⟨w.heap.size+1+1,7,none⟩ (.slice (some ⟨w5.heap.size,0,none⟩) 0 0)).alloc (.cells #[] 165):=⟨_,rfl⟩
 rw[<-hw8]
 have hc8:Fr (fun b=>b=w.heap.size+1+1) w5 w8:=hw8▸((Fr.cell1 _ _ _ _).same (Fr.cell1 _ _ _ _)).alloc _
 have B3:Bx w8 (w.heap.size+1+1) 133 #[.string m.name,.slice D1 m.args.length d1,.int .i64 m.ret.kind,.string m.ret.name,.int .i64 m.locals,.int .i64 m.stack,.slice D2 m.code.length d2,.slice (some ⟨w5.heap.size,0,none⟩) 0 0]:=hw8▸(((B3.setc (cs':=#[.string m.name,.slice D1 m.args.length d1,.int .i64 m.ret.kind,.string m.ret.name,.int .i64 m.locals,.int .i64 m.stack,.slice D2 m.code.length d2,.slice A3 m.maps.length c3]) rfl).setc rfl).alloc _)
 have B1:=B1.keepX hc8 (by omega)
 have B2:=B2.keepX hc8 (by omega)
 have hF8:Fr No w w8:=(hF3.trans0 hf35).trans hc8 (fun b hb e=>by omega)
 have hX1:∀b,(b=w.heap.size+1+1∨w8.heap.size≤b)->(b<wA.heap.size∨w8.heap.size≤b):=fun b h=>h.imp (fun e=>by omega) id
 have hD1:=((hD1.keep (R':=KndC) hc8 (fun b e=>by show b<wA.heap.size;omega) (fun _ _ _ h=>h)).oldX (R':=KndC) (by decide) (fun _ _ _ h=>h))
 have hD2:=((hD2.keep (R':=InsC) hc8 (fun b e=>by show b<wA.heap.size;omega) (fun _ _ _ h=>h)).oldX (R':=InsC) (by decide) (fun _ _ _ h=>h))
 have hlt8:=B3.lt
 clear hw8 p pl m0 ml mf hc8 hf35 hf4 hF3
 go_loopw [4] (fun i wr=>∃(k:Nat) (vq:Value),k≤m.maps.length∧i=.int .i64 k∧Hid (SnR 165 3 MapC w8.heap.size wr vq (m.maps.take k))∧Bx wr (w.heap.size+1+1) 133 #[.string m.name,.slice D1 m.args.length d1,.int .i64 m.ret.kind,.string m.ret.name,.int .i64 m.locals,.int .i64 m.stack,.slice D2 m.code.length d2,vq]∧Hid (Fr (fun b=>b=w.heap.size+1+1∨w8.heap.size≤b) w8 wr)) (fun i _=>m.maps.length-(intOf i).toNat)
 case atStart=>exact⟨0,_,Nat.zero_le _,rfl,Lib.hid (SnR.lit _),B3,Lib.hid (Fr.refl _ _)⟩
 case round=>
  obtain⟨k,vq,hk,rfl,hT,B3r,hG⟩:=hrel
  have B1r:=B1.keepX hG.out (by omega)
  have hFw:Fr No w wr:=hF8.trans hG.out (fun b hb e=>by omega)
  have hlk:(m.maps.take k).length=k:=by rw[List.length_take];omega
  have p:=B1r.c8
  have pl:=B1r.lt
  have hs8w:=hG.out.size
  by_cases hlt:k<m.maps.length
  ·obtain⟨b,off,Al,cl,As,cs,rfl,_,x0,x1,x2,hl,hs,_,_,_,_⟩:=hm.map hlt
   have hbl:=lt_of_cell x0
   have hxs:=Lib.hid (List.take_succ_eq_append_getElem hlt)
   obtain⟨hl41,hl42⟩:=hl4 _ (List.getElem_mem hlt)
   generalize hx:m.maps[k]=x at *
   replace hx:=Lib.hid hx
   obtain⟨Aq,cq,rfl,hcq,_⟩:=hT.out.form
   have HL:=fun W (hW:Fr No wr W)=>zBv No _ x.locals W (hl.keep (hFw.trans0 hW) zN (fun _ _ _ h=>h)) hl41
   have HS:=fun W (hW:Fr No wr W)=>zBv No _ x.stack W (hs.keep (hFw.trans0 hW) zN (fun _ _ _ h=>h)) hl42
   have KM:=fun W (hW:Fr No wr W)=>(⟨(hFw.trans0 hW).keep0 x0,(hFw.trans0 hW).keep0 x1,(hFw.trans0 hW).keep0 x2⟩:W.cell? ⟨b,off+k * 3,none⟩=some (.int .i64 x.at_)∧W.cell? ⟨b,off+k * 3+1,none⟩=some (.slice Al x.locals.length cl)∧W.cell? ⟨b,off+k * 3+2,none⟩=some (.slice As x.stack.length cs))
   have K1:=B1r.r8
   have K3:=B3r.r8
   go_wp2_with fail
   clear x0 x1 x2 hl hs p pl
   replace hlk:=Lib.hid hlk
   refine zn0 24 49 [mV (.pointer (some ⟨w.heap.size+1+1,7,none⟩)),mV (.slice Aq (m.maps.take k).length cq),mV (.pointer (some ⟨w.heap.size,7,none⟩)),mV (.slice (some ⟨b,off,none⟩) m.maps.length c3),mV (.int .i64 k),mV (.pointer (some ⟨b,off+k * 3,none⟩)),mV (.pointer (some ⟨b,off+k * 3,none⟩)),mV (.int .i64 x.at_),mV (.pointer (some ⟨w.heap.size,7,none⟩)),mV (.slice (some ⟨b,off,none⟩) m.maps.length c3),mV (.int .i64 k),mV (.pointer (some ⟨b,off+k * 3,none⟩)),mV (.pointer (some ⟨b,off+k * 3+1,none⟩)),mV (.slice Al x.locals.length cl),mC (tagR x.locals wr.heap.size) (zBw _ _),mV (.pointer (some ⟨w.heap.size,7,none⟩)),mV (.slice (some ⟨b,off,none⟩) m.maps.length c3),mV (.int .i64 k),mV (.pointer (some ⟨b,off+k * 3,none⟩)),mV (.pointer (some ⟨b,off+k * 3+2,none⟩)),mV (.slice As x.stack.length cs),mC (tagR x.stack wr.heap.size) (zBw _ _),mC (mapA x wr.heap.size) (zBx _ _),mC (mapX x wr.heap.size) (zBy _ _)] (by kernel_rfl) (by kernel_rfl) (by simp) ?_ ?_
   ·refine hc4 ?_ ?_ ?_ ?_ <| hc4 ?_ ?_ ?_ ?_ <| hc4 ?_ ?_ ?_ ?_ <| hc4 ?_ ?_ ?_ ?_ <| hc4 ?_ ?_ ?_ ?_ <| hc4 ?_ ?_ ?_ ?_ <| hopZ
    all_goals (intro a' W hW hoff hdep;have hbs:=hW.size;have H3:=hoff 3 rfl;have H1:=hoff 1 rfl;have H4:=hoff 4 rfl;refine nE rfl ?_)
    ·simp[execOp,Act.eval,H3,go_sem,zaa];exact fr1 rfl
    ·have D25:_=_:=hdep 0 25 rfl;clear hoff hdep;simp[execOp,Act.eval,go_sem,zaa, *];exact fr1 rfl
    ·simp[execOp,Act.eval,H1,go_sem,zaa];exact fr1 rfl
    ·have D27:_=_:=hdep 2 27 rfl;clear hoff hdep;simp[execOp,Act.eval,go_sem,zaa, *];exact fr1 rfl
    ·simp[execOp,Act.eval,H4,go_sem,zaa];exact fr1 rfl
    ·have D28:_=_:=hdep 3 28 rfl;have D29:_=_:=hdep 4 29 rfl;clear hoff hdep;simp[execOp,Act.eval,go_sem,zaa, *];exact fr1 rfl
    ·have D30:_=_:=hdep 5 30 rfl;simp[execOp,Act.eval,D30,go_sem,zaa];exact fr1 rfl
    ·have D31:_=_:=hdep 6 31 rfl;clear hoff hdep;simp[execOp,Act.eval,go_sem,zaa, *];exact fr1 rfl
    ·simp[execOp,Act.eval,H1,go_sem,zaa];exact fr1 rfl
    ·have D33:_=_:=hdep 8 33 rfl;clear hoff hdep;simp[execOp,Act.eval,go_sem,zaa, *];exact fr1 rfl
    ·simp[execOp,Act.eval,H4,go_sem,zaa];exact fr1 rfl
    ·have D34:_=_:=hdep 9 34 rfl;have D35:_=_:=hdep 10 35 rfl;clear hoff hdep;simp[execOp,Act.eval,go_sem,zaa, *];exact fr1 rfl
    ·have D36:_=_:=hdep 11 36 rfl;simp[execOp,Act.eval,D36,go_sem,zaa];exact fr1 rfl
    ·have D37:_=_:=hdep 12 37 rfl;clear hoff hdep;simp[execOp,Act.eval,go_sem,zaa, *];exact fr1 rfl
    ·have D38:_=_:=hdep 13 38 rfl;simp[Act.eval,D38,go_sem,zaa];exact(HL _ hW).mono fun e w' h=>(let ⟨v',h1,h2,h3⟩:=h;let ⟨A,c,h4,_⟩:=h2.form;⟨_,h1,h3,A,c,h4,h4▸h2.weaken (fun b hb=>Nat.lt_of_lt_of_le hb hbs) (fun _ _ _ h=>h)⟩)
    ·simp[execOp,Act.eval,H1,go_sem,zaa];exact fr1 rfl
    ·have D40:_=_:=hdep 15 40 rfl;clear hoff hdep;simp[execOp,Act.eval,go_sem,zaa, *];exact fr1 rfl
    ·simp[execOp,Act.eval,H4,go_sem,zaa];exact fr1 rfl
    ·have D41:_=_:=hdep 16 41 rfl;have D42:_=_:=hdep 17 42 rfl;clear hoff hdep;simp[execOp,Act.eval,go_sem,zaa, *];exact fr1 rfl
    ·have D43:_=_:=hdep 18 43 rfl;simp[execOp,Act.eval,D43,go_sem,zaa];exact fr1 rfl
    ·have D44:_=_:=hdep 19 44 rfl;clear hoff hdep;simp[execOp,Act.eval,go_sem,zaa, *];exact fr1 rfl
    ·have D45:_=_:=hdep 20 45 rfl;simp[Act.eval,D45,go_sem,zaa];exact(HS _ hW).mono fun e w' h=>(let ⟨v',h1,h2,h3⟩:=h;let ⟨A,c,h4,_⟩:=h2.form;⟨_,h1,h3,A,c,h4,h4▸h2.weaken (fun b hb=>Nat.lt_of_lt_of_le hb hbs) (fun _ _ _ h=>h)⟩)
    ·have D32:_=_:=hdep 7 32 rfl;obtain⟨A,c,D39,hA⟩:(tagR x.locals wr.heap.size) _ W:=hdep 14 39 rfl;obtain⟨B,d,D46,hB⟩:(tagR x.stack wr.heap.size) _ W:=hdep 21 46 rfl;simp at D32 D39 D46;simp[execOp,Act.eval,D32,D39,D46,go_sem,zaa];exact⟨Fr.refl _ _,A,c,B,d,rfl,hA,hB⟩
    ·obtain⟨A,c,B,d,D47,hA,hB⟩:(mapA x wr.heap.size) _ W:=hdep 22 47 rfl;simp at D47;simp[execOp,Act.eval,D47,go_sem,zaa];exact⟨(Fr.refl _ _).alloc _,_,A,c,B,d,rfl,Bx.new_ rfl,hA.keep ((Fr.refl No _).alloc _) zN (fun _ _ _ h=>h),hB.keep ((Fr.refl No _).alloc _) zN (fun _ _ _ h=>h)⟩
   intro vs WR hWR hv hne
   obtain⟨AR14,cR14,e14,hAR14⟩:=hv 14 (by omega)
   obtain⟨BR21,dR21,e21,hBR21⟩:=hv 21 (by omega)
   obtain⟨AR22,cR22,BR22,dR22,e22,hAR22,hBR22⟩:=hv 22 (by omega)
   obtain⟨bbR23,AR23,cR23,BR23,dR23,e23,hXR23,hAR23,hBR23⟩:=hv 23 (by omega)
   simp only[lz6,List.drop_zero,znM,znK,znR,Nat.zero_add,Nat.reduceAdd,e14,e21,e22,e23]
   simp only[Act.put,lz0,lz1,lz2]
   clear e14 e21 e22 e23 hv
   clear hne HL HS KM K1 K3
   have hlk9:=hlk.out
   obtain⟨js,j1,j2,j3,j4⟩:=hT.out.keep zBp hWR zN
   have hqb:∀q,zcP (.slice Aq (m.maps.take k).length cq)=some q->q<wr.heap.size:=fun q h=>by obtain⟨_,_,j2,_⟩:=hT.out;exact j2.lt h
   refine zqH zAb rfl _ _ rfl (.slice Aq (m.maps.take k).length cq) (m.maps.take k).length js rfl j1.symm j2 (by omega) bbR23 165 [.int .i64 x.at_,.slice AR23 x.locals.length cR23,.slice BR23 x.stack.length dR23] rfl hXR23 rfl (by simp[Value.oneCell']) ?_
   intro g8 d8 w9 hrow8 hcap8 hgf8 hor8
   simp only[Act.put,lz0,lz1,lz2]
   have hsR:=hWR.size
   have hN:=SnR.snoc zBp (x:=x) j1 j3 j4 hrow8 hgf8 hor8 (by omega) ⟨_,_,rfl,hAR23.weaken (fun b h=>h.elim (fun h=>by omega) (fun h=>hqb b h)) (fun _ _ _ h=>h),hBR23.weaken (fun b h=>h.elim (fun h=>by omega) (fun h=>hqb b h)) (fun _ _ _ h=>h)⟩
   have B3r:=(B3r.keep hWR).keepX hgf8 (fun e=>by have:=j3 _ e;omega)
   have hG9:=hG.out.trans ((Fr.of0 hWR).same hgf8) (fun b _ e=>.inr (j3 b e))
   have m0:=B3r.c8
   have ml:=B3r.lt
   have mf:=B3r.frozen
   replace hN:=Lib.hid hN
   replace hG9:=Lib.hid hG9
   clear hT hG j1 j2 j3 j4 hrow8 hgf8 hor8 hWR hXR23 hAR23 hBR23 hqb hlk9 hFw B1r
   go_wp2_with fail
   obtain⟨w10,hw10⟩:∃w10,w10=w9.setCell ⟨w.heap.size+1+1,7,none⟩ (.slice (some ⟨g8,0,none⟩) (k+1) d8):=⟨_,rfl⟩
   rw[<-hw10]
   have hc10:Fr (fun b=>b=w.heap.size+1+1) w9 w10:=hw10▸Fr.cell1 _ _ _ _
   have hN:=hN.out.keep zBp hc10 (fun b e=>by omega)
   rw[<-hxs.out] at hN
   rw[show(m.maps.take (k+1)).length=k+1 by rw[List.length_take];omega] at hN
   replace hN:=Lib.hid hN
   go_roundw
   case rel=>exact⟨k+1,_,by omega,by go_num,hN,hw10▸B3r.setc rfl,Lib.hid (hG9.out.trans hc10 (fun b _ e=>.inl e))⟩
   case measure=>simp[intOf];omega
  ·obtain rfl:k=m.maps.length:=by omega
   have hT':=hT.out
   rw[List.take_length] at hT'
   obtain⟨Aq,cq,rfl,_,_⟩:=hT'.form
   have B2r:=B2.keepX hG.out (by omega)
   have hsw:=hFw.size
   have hOU:MthC (fun b=>b<wA.heap.size) wr [.string m.name,.slice D1 m.args.length d1,.int .i64 m.ret.kind,.string m.ret.name,.int .i64 m.locals,.int .i64 m.stack,.slice D2 m.code.length d2,.slice Aq m.maps.length cq] m:=⟨_,_,_,rfl,z1,z2,(hD1.keep (R':=KndC) hG.out hX1 (fun _ _ _ h=>h)).weaken (fun b h=>.inl h) (fun _ _ _ h=>h),(hD2.keep (R':=InsC) hG.out hX1 (fun _ _ _ h=>h)).weaken (fun b h=>.inl h) (fun _ _ _ h=>h),
    (hT'.sl zBp).weaken (fun b h=>by show b<w8.heap.size;have:b<wA.heap.size:=h;omega) (fun _ _ _ h=>MapC.weaken h (fun b h=>by show b<w8.heap.size;have:b<wA.heap.size:=h;omega))⟩
   replace hOU:=Lib.hid hOU
   have q0:=B3r.c8
   have ql:=B3r.lt
   clear hT hT' hD1 hD2 hG hm
   go_upto_region 9 with (fail)
   go_step
   go_step
   go_step
   go_step
   refine zco rfl 133 (.tmp 2) (.tmp 51) rfl 8 (by kernel_rfl) (w.heap.size+1) 133 _ [.string m.name,.slice D1 m.args.length d1,.int .i64 m.ret.kind,.string m.ret.name,.int .i64 m.locals,.int .i64 m.stack,.slice D2 m.code.length d2,.slice Aq m.maps.length cq] rfl rfl B2r rfl rfl (by simp[Value.oneCell']) ?_
   intro wF BF hfF
   have hfin:=Lib.hid (show zBz m w (.returned (.agg _)) wF from⟨_,rfl,(hOU.out.keep hfF (fun b e=>by show b<wA.heap.size;omega)).weaken (fun b h=>by show b<wA.heap.size;have:b<w.heap.size:=h;omega),hFw.trans hfF (fun b hb e=>by omega)⟩)
   have f:=BF.c8
   have fl:=BF.lt
   simp only[Act.put]
   clear B2r hOU hFw BF hfF q0 ql B1r B3r p pl
   go_wp2_with fail
   refine bodyPost_ret (v:=.agg #[.string m.name,.slice D1 m.args.length d1,.int .i64 m.ret.kind,.string m.ret.name,.int .i64 m.locals,.int .i64 m.stack,.slice D2 m.code.length d2,.slice Aq m.maps.length cq]) (by simp[results,Tryz.results71,go_sem, *]) rfl ?_
   exact hfin.out
def mthR (x:Mth) (base:Nat):Value->World->Prop:=fun v W=>∃va vc vm,v=.agg #[.string x.name,va,.int .i64 x.ret.kind,.string x.ret.name,.int .i64 x.locals,.int .i64 x.stack,vc,vm]∧MthC (fun b=>b<base) W [.string x.name,va,.int .i64 x.ret.kind,.string x.ret.name,.int .i64 x.locals,.int .i64 x.stack,vc,vm] x
theorem zBB (x:Mth) (base:Nat):MonP (mthR x base):=fun _ _ _ ⟨va,vc,vm,h1,h2⟩ hf=>⟨va,vc,vm,h1,MthC.keep h2 hf zN⟩
def mthX (x:Mth) (base:Nat):Value->World->Prop:=fun v W=>∃b va vc vm,v=.slice (some ⟨b,0,none⟩) 1 1∧Bx W b 133 #[.string x.name,va,.int .i64 x.ret.kind,.string x.ret.name,.int .i64 x.locals,.int .i64 x.stack,vc,vm]∧MthC (fun b=>b<base) W [.string x.name,va,.int .i64 x.ret.kind,.string x.ret.name,.int .i64 x.locals,.int .i64 x.stack,vc,vm] x
theorem zBC (x:Mth) (base:Nat):MonP (mthX x base):=fun _ _ _ ⟨b,va,vc,vm,h0,hB,h2⟩ hf=>⟨b,va,vc,vm,h0,hB.keep hf,MthC.keep h2 hf zN⟩
def zBD (c:Cls) (w:World) (e:Ending) (w':World):Prop:=∃cs,e=.returned (.agg cs.toArray)∧ClsC (fun b=>b<w.heap.size) w' cs c∧Fr No w w'
theorem zBE (X:Nat->Prop) (c:Cls) (cs:List Value) (w:World) (h:ClsC X w cs c) (hsm:SmC c):
  Calls Tryz.prog 41 #[.agg cs.toArray] w (zBD c w):=by
 replace h:=h.weaken (Y:=No) zN
 obtain⟨vf,vm,rfl,z1,z2,ha,hm⟩:=h
 obtain⟨hl1,hl2,hl3⟩:=hsm
 obtain⟨A1,c1,rfl,_,_⟩:=ha.form
 obtain⟨A2,c2,rfl,_,_⟩:=hm.form
 obtain⟨wA,hwA⟩:∃wA,wA=((w.alloc (.cells #[.string c.name,.string c.super,.slice A1 c.fields.length c1,.slice A2 c.methods.length c2] 42)).alloc (.cells #[.string ⟨#[]⟩,.string ⟨#[]⟩,.slice none 0 0,.slice none 0 0] 42)).alloc (.cells #[.string c.name,.string c.super,.slice A1 c.fields.length c1,.slice A2 c.methods.length c2] 42):=⟨_,rfl⟩
 have hfA:Fr No w wA:=hwA▸frc
 have B1:=(hwA▸bxc:Bx wA w.heap.size 42 #[.string c.name,.string c.super,.slice A1 c.fields.length c1,.slice A2 c.methods.length c2])
 have B2:=(hwA▸bxc:Bx wA (w.heap.size+1) 42 #[.string ⟨#[]⟩,.string ⟨#[]⟩,.slice none 0 0,.slice none 0 0])
 have B3:=(hwA▸bxc:Bx wA (w.heap.size+1+1) 42 #[.string c.name,.string c.super,.slice A1 c.fields.length c1,.slice A2 c.methods.length c2])
 have hsA:wA.heap.size=w.heap.size+1+1+1:=by rw[hwA];simp
 replace hwA:=Lib.hid hwA
 have p:=B1.c4
 have pl:=B1.lt
 go_enter Tryz.func41,Tryz.ntmps41
 go_wp2_with (at_builtin;refine Hid.out ?_)
 refine Lib.hid ?_
 rw[<-hwA.out]
 obtain⟨k1,e1,r1,s1⟩:=(ha.k0 hfA).raws
 have hone1:=OneC.of e1 r1 zrP
 have hf1:=(Fr.refl No wA).alloc (.cells #[] 125)
 refine zqF zz5 rfl _ _ rfl ⟨w.heap.size+1+1+1,0,none⟩ rfl No (.slice A1 c.fields.length c1) k1 rfl (s1.rawKeep hf1 zN) (by omega) hone1 ?_
 intro D1 d1 w5 hrow hq hf2
 simp only[Act.put,lz0,lz1,lz2]
 rw[e1] at hrow hq ⊢
 have hf02:=hf1.trans0 hf2
 have hD1:Sl (fun b=>b<wA.heap.size) w5 3 FldC (.slice D1 c.fields.length d1) c.fields:=hrow.rawSl e1 r1 (fun q h=>by have:=hq q h;simp at this;omega)
 have B1:=B1.keep hf02
 have B2:=B2.keep hf02
 have B3:=B3.keep hf02
 have p:=B1.c4
 have pl:=B1.lt
 have m0:=B3.c4
 have ml:=B3.lt
 have mf:=B3.frozen
 clear hrow hq hf2 s1 hone1 r1 e1 ha
 go_wp2_with fail
 obtain⟨w8,hw8⟩:∃w8,w8=((w5.setCell ⟨w.heap.size+1+1,2,none⟩ (.slice D1 c.fields.length d1)).setCell ⟨w.heap.size+1+1,3,none⟩ (.slice (some ⟨w5.heap.size,0,none⟩) 0 0)).alloc (.cells #[] 133):=⟨_,rfl⟩
 rw[<-hw8]
 have hc8:Fr (fun b=>b=w.heap.size+1+1) w5 w8:=hw8▸((Fr.cell1 _ _ _ _).same (Fr.cell1 _ _ _ _)).alloc _
 have B3:Bx w8 (w.heap.size+1+1) 42 #[.string c.name,.string c.super,.slice D1 c.fields.length d1,.slice (some ⟨w5.heap.size,0,none⟩) 0 0]:=hw8▸(((B3.setc (cs':=#[.string c.name,.string c.super,.slice D1 c.fields.length d1,.slice A2 c.methods.length c2]) rfl).setc rfl).alloc _)
 have B1:=B1.keepX hc8 (by omega)
 have B2:=B2.keepX hc8 (by omega)
 have hF8:Fr No w w8:=(hfA.trans0 hf02).trans hc8 (fun b hb e=>by omega)
 have hX1:∀b,(b=w.heap.size+1+1∨w8.heap.size≤b)->(b<wA.heap.size∨w8.heap.size≤b):=fun b h=>h.imp (fun e=>by omega) id
 have hD1:=((hD1.keep (R':=FldC) hc8 (fun b e=>by show b<wA.heap.size;omega) (fun _ _ _ h=>h)).oldX (R':=FldC) (by decide) (fun _ _ _ h=>h))
 have hlt8:=B3.lt
 clear hw8 p pl m0 ml mf hc8 hf02 hf1
 go_loopw [4] (fun i wr=>∃(k:Nat) (vq:Value),k≤c.methods.length∧i=.int .i64 k∧Hid (SnR 133 8 MthC w8.heap.size wr vq (c.methods.take k))∧Bx wr (w.heap.size+1+1) 42 #[.string c.name,.string c.super,.slice D1 c.fields.length d1,vq]∧Hid (Fr (fun b=>b=w.heap.size+1+1∨w8.heap.size≤b) w8 wr)) (fun i _=>c.methods.length-(intOf i).toNat)
 case atStart=>exact⟨0,_,Nat.zero_le _,rfl,Lib.hid (SnR.lit _),B3,Lib.hid (Fr.refl _ _)⟩
 case round=>
  obtain⟨k,vq,hk,rfl,hT,B3r,hG⟩:=hrel
  have B1r:=B1.keepX hG.out (by omega)
  have hFw:Fr No w wr:=hF8.trans hG.out (fun b hb e=>by omega)
  have hlk:(c.methods.take k).length=k:=by rw[List.length_take];omega
  have p:=B1r.c4
  have pl:=B1r.lt
  have hs8w:=hG.out.size
  by_cases hlt:k<c.methods.length
  ·obtain⟨b,off,Aa,ca,Ac,cc,Am,cm,rfl,_,x0,x1,x2,x3,x4,x5,x6,x7,y1,y2,h1,h2,h3,_,_,_,_,_,_⟩:=hm.mth hlt
   have hbl:=lt_of_cell x0
   have hxs:=Lib.hid (List.take_succ_eq_append_getElem hlt)
   have hmem:=hl3 _ (List.getElem_mem hlt)
   generalize hx:c.methods[k]=x at *
   replace hx:=Lib.hid hx
   obtain⟨Aq,cq,rfl,hcq,_⟩:=hT.out.form
   have hMC:MthC No w [.string x.name,.slice Aa x.args.length ca,.int .i64 x.ret.kind,.string x.ret.name,.int .i64 x.locals,.int .i64 x.stack,.slice Ac x.code.length cc,.slice Am x.maps.length cm] x:=⟨_,_,_,rfl,y1,y2,h1,h2,h3⟩
   have HL:=fun W (hW:Fr No wr W)=>zBA No x _ W (hMC.keep (hFw.trans0 hW) zN) hmem
   have KM:=fun W (hW:Fr No wr W)=>(⟨(hFw.trans0 hW).keep0 x0,(hFw.trans0 hW).keep0 x1,(hFw.trans0 hW).keep0 x2,(hFw.trans0 hW).keep0 x3,(hFw.trans0 hW).keep0 x4,(hFw.trans0 hW).keep0 x5,(hFw.trans0 hW).keep0 x6,(hFw.trans0 hW).keep0 x7⟩:_∧_∧_∧_∧_∧_∧_∧_)
   have K1:=B1r.r4
   have K3:=B3r.r4
   go_wp2_with fail
   clear x0 x1 x2 x3 x4 x5 x6 x7 h1 h2 h3 p pl hMC
   replace hlk:=Lib.hid hlk
   refine zn0 9 29 [mV (.pointer (some ⟨w.heap.size+1+1,3,none⟩)),mV (.slice Aq (c.methods.take k).length cq),mV (.pointer (some ⟨w.heap.size,3,none⟩)),mV (.slice (some ⟨b,off,none⟩) c.methods.length c2),mV (.int .i64 k),mV (.pointer (some ⟨b,off+k * 8,none⟩)),mV (.agg #[.string x.name,.slice Aa x.args.length ca,.int .i64 x.ret.kind,.string x.ret.name,.int .i64 x.locals,.int .i64 x.stack,.slice Ac x.code.length cc,.slice Am x.maps.length cm]),mC (mthR x wr.heap.size) (zBB _ _),mC (mthX x wr.heap.size) (zBC _ _)] (by kernel_rfl) (by kernel_rfl) (by simp) ?_ ?_
   ·refine hc4 ?_ ?_ ?_ ?_ <| hc4 ?_ ?_ ?_ ?_ <| hopC ?_ <| hopZ
    all_goals (intro a' W hW hoff hdep;have hbs:=hW.size;have H3:=hoff 3 rfl;have H1:=hoff 1 rfl;have H4:=hoff 4 rfl;refine nE rfl ?_)
    ·simp[execOp,Act.eval,H3,go_sem,zaa];exact fr1 rfl
    ·have D20:_=_:=hdep 0 20 rfl;clear hoff hdep;simp[execOp,Act.eval,go_sem,zaa, *];exact fr1 rfl
    ·simp[execOp,Act.eval,H1,go_sem,zaa];exact fr1 rfl
    ·have D22:_=_:=hdep 2 22 rfl;clear hoff hdep;simp[execOp,Act.eval,go_sem,zaa, *];exact fr1 rfl
    ·simp[execOp,Act.eval,H4,go_sem,zaa];exact fr1 rfl
    ·have D23:_=_:=hdep 3 23 rfl;have D24:_=_:=hdep 4 24 rfl;clear hoff hdep;simp[execOp,Act.eval,go_sem,zaa, *];exact fr1 rfl
    ·have D25:_=_:=hdep 5 25 rfl;clear hoff hdep;simp[execOp,Act.eval,go_sem,zaa, *];exact fr1 rfl
    ·have D26:_=_:=hdep 6 26 rfl;simp[Act.eval,D26,go_sem,zaa];exact(HL _ hW).mono fun e w' h=>(let ⟨cs,h1,h2,h3⟩:=h;let ⟨va,vc,vm,e1,_⟩:=id h2;⟨_,h1,h3,va,vc,vm,by rw[e1],MthC.weaken (e1▸h2) (fun b hb=>Nat.lt_of_lt_of_le hb hbs)⟩)
    ·obtain⟨va,vc,vm,D27,hA⟩:(mthR x wr.heap.size) _ W:=hdep 7 27 rfl;simp at D27;simp[execOp,Act.eval,D27,go_sem,zaa];exact⟨(Fr.refl _ _).alloc _,_,va,vc,vm,rfl,Bx.new_ rfl,MthC.keep hA ((Fr.refl No _).alloc _) zN⟩
   intro vs WR hWR hv hne
   obtain⟨vaR7,vcR7,vmR7,e7,hAR7⟩:=hv 7 (by omega)
   obtain⟨bbR8,vaR8,vcR8,vmR8,e8,hXR8,hAR8⟩:=hv 8 (by omega)
   simp only[lz6,List.drop_zero,znM,znK,znR,Nat.zero_add,Nat.reduceAdd,e7,e8]
   simp only[Act.put,lz0,lz1,lz2]
   clear e7 e8 hv
   clear hne HL KM K1 K3
   have hlk9:=hlk.out
   obtain⟨js,j1,j2,j3,j4⟩:=hT.out.keep zBq hWR zN
   have hqb:∀q,zcP (.slice Aq (c.methods.take k).length cq)=some q->q<wr.heap.size:=fun q h=>by obtain⟨_,_,j2,_⟩:=hT.out;exact j2.lt h
   refine zqH zAe rfl _ _ rfl (.slice Aq (c.methods.take k).length cq) (c.methods.take k).length js rfl j1.symm j2 (by omega) bbR8 133 [.string x.name,vaR8,.int .i64 x.ret.kind,.string x.ret.name,.int .i64 x.locals,.int .i64 x.stack,vcR8,vmR8] rfl hXR8 rfl (zrL _ _ hAR8) ?_
   intro g8 d8 w9 hrow8 hcap8 hgf8 hor8
   simp only[Act.put,lz0,lz1,lz2]
   have hsR:=hWR.size
   have hN:=SnR.snoc zBq (x:=x) j1 j3 j4 hrow8 hgf8 hor8 (by omega) (MthC.weaken hAR8 (fun b h=>h.elim (fun h=>by show b<wr.heap.size;omega) (fun h=>hqb b h)))
   have B3r:=(B3r.keep hWR).keepX hgf8 (fun e=>by have:=j3 _ e;omega)
   have hG9:=hG.out.trans ((Fr.of0 hWR).same hgf8) (fun b _ e=>.inr (j3 b e))
   have m0:=B3r.c4
   have ml:=B3r.lt
   have mf:=B3r.frozen
   replace hN:=Lib.hid hN
   replace hG9:=Lib.hid hG9
   clear hT hG j1 j2 j3 j4 hrow8 hgf8 hor8 hWR hXR8 hAR8 hqb hlk9 hFw B1r
   go_wp2_with fail
   obtain⟨w10,hw10⟩:∃w10,w10=w9.setCell ⟨w.heap.size+1+1,3,none⟩ (.slice (some ⟨g8,0,none⟩) (k+1) d8):=⟨_,rfl⟩
   rw[<-hw10]
   have hc10:Fr (fun b=>b=w.heap.size+1+1) w9 w10:=hw10▸Fr.cell1 _ _ _ _
   have hN:=hN.out.keep zBq hc10 (fun b e=>by omega)
   rw[<-hxs.out] at hN
   rw[show(c.methods.take (k+1)).length=k+1 by rw[List.length_take];omega] at hN
   replace hN:=Lib.hid hN
   go_roundw
   case rel=>exact⟨k+1,_,by omega,by go_num,hN,hw10▸B3r.setc rfl,Lib.hid (hG9.out.trans hc10 (fun b _ e=>.inl e))⟩
   case measure=>simp[intOf];omega
  ·obtain rfl:k=c.methods.length:=by omega
   have hT':=hT.out
   rw[List.take_length] at hT'
   obtain⟨Aq,cq,rfl,_,_⟩:=hT'.form
   have B2r:=B2.keepX hG.out (by omega)
   have hsw:=hFw.size
   have hOU:ClsC (fun b=>b<wA.heap.size) wr [.string c.name,.string c.super,.slice D1 c.fields.length d1,.slice Aq c.methods.length cq] c:=⟨_,_,rfl,z1,z2,(hD1.keep (R':=FldC) hG.out hX1 (fun _ _ _ h=>h)).weaken (fun b h=>.inl h) (fun _ _ _ h=>h),
    (hT'.sl zBq).weaken (fun b h=>by show b<w8.heap.size;have:b<wA.heap.size:=h;omega) (fun _ _ _ h=>MthC.weaken h (fun b h=>by show b<w8.heap.size;have:b<wA.heap.size:=h;omega))⟩
   replace hOU:=Lib.hid hOU
   have q0:=B3r.c4
   have ql:=B3r.lt
   clear hT hT' hD1 hG hm
   go_upto_region 8 with (fail)
   go_step
   go_step
   go_step
   go_step
   refine zco rfl 42 (.tmp 2) (.tmp 31) rfl 4 (by kernel_rfl) (w.heap.size+1) 42 _ [.string c.name,.string c.super,.slice D1 c.fields.length d1,.slice Aq c.methods.length cq] rfl rfl B2r rfl rfl (by simp[Value.oneCell']) ?_
   intro wF BF hfF
   have hfin:=Lib.hid (show zBD c w (.returned (.agg _)) wF from⟨_,rfl,(hOU.out.keep hfF (fun b e=>by show b<wA.heap.size;omega)).weaken (fun b h=>by show b<wA.heap.size;have:b<w.heap.size:=h;omega),hFw.trans hfF (fun b hb e=>by omega)⟩)
   have f:=BF.c4
   have fl:=BF.lt
   simp only[Act.put]
   clear B2r hOU hFw BF hfF q0 ql B1r B3r p pl
   go_wp2_with fail
   refine bodyPost_ret (v:=.agg #[.string c.name,.string c.super,.slice D1 c.fields.length d1,.slice Aq c.methods.length cq]) (by simp[results,Tryz.results41,go_sem, *]) rfl ?_
   exact hfin.out
end Go.Proofs.YtpghfhjhjlmljaaGreat
