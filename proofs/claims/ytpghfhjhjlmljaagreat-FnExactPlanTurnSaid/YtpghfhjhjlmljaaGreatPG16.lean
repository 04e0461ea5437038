/- The program's copy of a class: the same class in rows of its own. -/
import Derived.Test.YtpghfhjhjlmljaaGreatPG14
import Derived.Test.YtpghfhjhjlmljaaGreatPG6
set_option maxHeartbeats 8000000
set_option maxRecDepth 100000
namespace Go.Proofs.YtpghfhjhjlmljaaGreat
open Go.RowKit
def SmM (m:Mth):Prop:=m.args.length≤1000∧m.code.length≤1000∧m.maps.length≤1000∧∀x∈m.maps,x.locals.length≤1000∧x.stack.length≤1000
def SmC (c:Cls):Prop:=c.fields.length≤1000∧c.methods.length≤1000∧∀m∈c.methods,SmM m
def mthT (m:Mth) (base:Nat):Value->World->Prop:=fun v W=>∃cs,v=.agg cs.toArray∧MthO W (fun b=>base≤b) cs m
theorem zAy (m:Mth) (base:Nat):MonP (mthT m base):=fun _ _ _ ⟨cs,h1,h2⟩ hf=>⟨cs,h1,zzI _ _ _ _ _ _ h2 hf (fun _ _ _ h=>h)⟩
def zAz (lo:Nat):World->List Value->Mth->Prop:=fun w cs m=>MthC (fun b=>lo≤b) w cs m
theorem zAA {lo:Nat} {X:Nat->Prop} {w w':World} (hf:Fr X w w') (hX:∀b,X b->lo≤b) (cs:List Value) (x:Mth) (h:zAz lo w cs x):zAz lo w' cs x:=MthC.keep h hf hX
theorem zrL {X:Nat->Prop} {w:World}:∀cs x,MthC X w cs x->∀u∈cs,u.oneCell'=true:=by
 rintro _ x ⟨va,vc,vm,rfl,_,_,h1,h2,h3⟩ u hu
 obtain⟨_,_,rfl,_⟩:=h1.form
 obtain⟨_,_,rfl,_⟩:=h2.form
 obtain⟨_,_,rfl,_⟩:=h3.form
 simp only[List.mem_cons,List.not_mem_nil,or_false] at hu
 rcases hu with rfl|rfl|rfl|rfl|rfl|rfl|rfl|rfl<;>rfl
theorem MthC.len {X:Nat->Prop} {w:World} {cs:List Value} {x:Mth} (h:MthC X w cs x):cs.length=8:=by
 obtain⟨va,vc,vm,rfl,_⟩:=h
 rfl
theorem MthO.one {w:World} {Y:Nat->Prop} {cs:List Value} {x:Mth} (h:MthO w Y cs x):cs.length=8∧∀u∈cs,u.oneCell'=true:=by
 have h1:MthC (fun _=>False) w cs x:=h.c (fun _ _ _ h=>h)
 exact⟨h1.len,zrL _ _ h1⟩
def zAB (c:Cls) (w:World) (e:Ending) (w':World):Prop:=∃cs,e=.returned (.agg cs.toArray)∧ClsO w' (fun b=>w.heap.size≤b) cs c∧Fr No w w'
theorem zAC (X:Nat->Prop) (c:Cls) (cs:List Value) (w:World) (h:ClsC X w cs c) (hsm:SmC c):
  Calls Tryz.prog 50 #[.agg cs.toArray] w (zAB c w):=by
 replace h:=h.weaken (Y:=No) zN
 obtain⟨vf,vm,rfl,z1,z2,hf,hm⟩:=h
 replace hm:=hm.old (R':=MthC (fun b=>w.heap.size≤b) w) (by decide) (fun _ _ _ h=>h.old)
 obtain⟨A1,c1,rfl,_,_⟩:=hf.form
 obtain⟨A2,c2,rfl,_,_⟩:=hm.form
 obtain⟨hl1,hl2,hl3⟩:=hsm
 obtain⟨wA,hwA⟩:∃wA,wA=(w.alloc (.cells #[.string c.name,.string c.super,.slice A1 c.fields.length c1,.slice A2 c.methods.length c2] 42)).alloc (.cells #[.string ⟨#[]⟩,.string ⟨#[]⟩,.slice none 0 0,.slice none 0 0] 42):=⟨_,rfl⟩
 have hfA:Fr No w wA:=hwA▸frc
 have B1:=(hwA▸bxc:Bx wA w.heap.size 42 #[.string c.name,.string c.super,.slice A1 c.fields.length c1,.slice A2 c.methods.length c2])
 have B2:=(hwA▸bxc:Bx wA (w.heap.size+1) 42 #[.string ⟨#[]⟩,.string ⟨#[]⟩,.slice none 0 0,.slice none 0 0])
 have hsA:wA.heap.size=w.heap.size+2:=by rw[hwA];simp
 replace hwA:=Lib.hid hwA
 have p:=B1.c4
 have pl:=B1.lt
 go_enter Tryz.func50,Tryz.ntmps50
 go_wp2_with fail
 rw[<-hwA.out]
 obtain⟨k1,e1,r1,s1⟩:=(hf.k0 hfA).raws
 refine(zz6 _ _ k1 wA s1 (by omega) (OneC.of e1 r1 zrP)).mono ?_
 rintro e w1 h
 obtain⟨D1,d1,rfl,hO1,hf1⟩:=h.leaf e1 r1
 clear h s1 r1 p pl
 have B1:=B1.keep hf1
 have B2:=B2.keep hf1
 have p:=B1.c4
 have pl:=B1.lt
 have pf:=B1.frozen
 go_wp2_with fail
 obtain⟨w2,hw2⟩:∃w2,w2=w1.setCell ⟨w.heap.size,2,none⟩ (.slice D1 c.fields.length d1):=⟨_,rfl⟩
 rw[<-hw2]
 have hc12:Fr (fun b=>b=w.heap.size) w1 w2:=hw2▸Fr.cell1 _ _ _ _
 have B1:Bx w2 w.heap.size 42 #[.string c.name,.string c.super,.slice D1 c.fields.length d1,.slice A2 c.methods.length c2]:=hw2▸B1.setc rfl
 have B2:=B2.keepX hc12 (by omega)
 have hlt4:=B1.lt
 have hltB:=B2.lt
 have hs1:=hf1.size
 have hO1:=(hO1.keep (zzG _) hc12 (fun b (hb:wA.heap.size≤b) _ e=>by omega)).wid (Y':=fun b=>wA.heap.size≤b∧b<w2.heap.size) (fun b h1 h2=>⟨h1,h2⟩)
 have hF2:Fr No w w2:=(hfA.trans0 hf1).trans hc12 (fun b hb e=>by omega)
 have hsA2:=Nat.le_trans hf1.size hc12.size
 have hs2:=hF2.size
 clear hw2 p pl pf hc12
 obtain⟨k3,e3,r3,s3⟩:=(hm.keep (R':=MthC (fun b=>w.heap.size≤b) w2) hF2 zN (fun _ _ _ h=>h.keep hF2 zN)).raws
 refine(zAf _ _ k3 w2 s3 (by omega) (OneC.of e3 r3 zrL)).mono ?_
 rintro e w5 ⟨D3,d3,rfl,hrow,hq,hf5⟩
 rw[e3] at hrow hq ⊢
 have B1:=B1.keep hf5
 have B2:=B2.keep hf5
 have hs5:=hf5.size
 have p:=B1.c4
 have pl:=B1.lt
 have pf:=B1.frozen
 go_wp2_with fail
 obtain⟨w6,hw6⟩:∃w6,w6=w5.setCell ⟨w.heap.size,3,none⟩ (.slice D3 c.methods.length d3):=⟨_,rfl⟩
 rw[<-hw6]
 have hc56:Fr (fun b=>b=w.heap.size) w5 w6:=hw6▸Fr.cell1 _ _ _ _
 have B1:Bx w6 w.heap.size 42 #[.string c.name,.string c.super,.slice D1 c.fields.length d1,.slice D3 c.methods.length d3]:=hw6▸B1.setc rfl
 have B2:=B2.keepX hc56 (by omega)
 have hO1:=((hO1.keep (zzG _) hf5 (fun _ _ _ h=>h)).keep (zzG _) hc56 (fun b hb _ e=>by have:=hb.1;omega))
 have hF6:Fr No w w6:=(hF2.trans0 hf5).trans hc56 (fun b hb e=>by omega)
 have hT0:CpP 133 8 MthO (zAz w.heap.size) w2.heap.size 0 k3 (fun _ _=>False) w6 (.slice D3 c.methods.length d3) c.methods:=
  .zero e3 (hrow.keep hc56 (fun q h e=>by have:=hq q h;omega)) hq (fun i h1 h2=>((r3 i h1 h2).keep hf5 zN).keep hc56 (fun b e=>by show w.heap.size≤b;omega))
 have hsz6:w2.heap.size≤w6.heap.size:=Nat.le_trans hf5.size hc56.size
 clear hw6 p pl pf hc56 hrow hf5 r3 s3 e3 hm hf hF2 hf1
 go_loopw [16] (fun i wr=>∃(j:Nat) (rows:List (Raw 8)) (Ys:Nat->Nat->Prop),j≤c.methods.length∧i=.int .i64 j∧Hid (CpP 133 8 MthO (zAz w.heap.size) w2.heap.size j rows Ys wr (.slice D3 c.methods.length d3) c.methods)∧Hid (Fr (fun b=>zcP (.slice D3 c.methods.length d3)=some b) w6 wr)) (fun i _=>c.methods.length-(intOf i).toNat)
 case atStart=>exact⟨0,k3,_,Nat.zero_le _,rfl,Lib.hid hT0,Lib.hid (Fr.refl _ _)⟩
 case round=>
  obtain⟨j,rows,Ys,hj,rfl,hT,hG⟩:=hrel
  by_cases hlt:j<c.methods.length
  ·have hT':=hT.out
   obtain⟨g,c9,he,hfz,hg,hgq,hlo,hcell⟩:=hT'.at_ (by omega)
   cases he
   have hjr:j<rows.length:=by rw[hT'.len];exact hlt
   have hE:=hT'.rest j hjr hlt (Nat.le_refl _)
   have hE':=id hE
   obtain⟨va,vc,vx,er,_,_,h1,h2,h3⟩:=hE'
   obtain⟨Aa,ca,rfl,_,_⟩:=h1.form
   obtain⟨Ac,cc,rfl,_,_⟩:=h2.form
   obtain⟨Ax,cx,rfl,_,_⟩:=h3.form
   have x0:=hcell j hjr 0 (by omega)
   have x1:=hcell j hjr 1 (by omega)
   have x2:=hcell j hjr 2 (by omega)
   have x3:=hcell j hjr 3 (by omega)
   have x4:=hcell j hjr 4 (by omega)
   have x5:=hcell j hjr 5 (by omega)
   have x6:=hcell j hjr 6 (by omega)
   have x7:=hcell j hjr 7 (by omega)
   rw[er] at hE
   simp only[er,lz3,lz4,Nat.add_zero] at x0 x1 x2 x3 x4 x5 x6 x7
   have B1r:=B1.keepX hG.out (fun e=>by rw[hgq] at e;cases e;omega)
   have hmem:=hl3 _ (List.getElem_mem hlt)
   have hrow0:=Lib.hid hT'.row
   clear hT0 hT' hcell h1 h2 h3
   generalize hx:c.methods[j]=x at *
   replace hx:=Lib.hid hx
   obtain⟨w7,hw7⟩:∃w7,w7=wr.alloc (.cells #[.string x.name,.slice Aa x.args.length ca,.int .i64 x.ret.kind,.string x.ret.name,.int .i64 x.locals,.int .i64 x.stack,.slice Ac x.code.length cc,.slice Ax x.maps.length cx] 133):=⟨_,rfl⟩
   have hf7:Fr No wr w7:=hw7▸frc
   have B4:Bx w7 wr.heap.size 133 #[.string x.name,.slice Aa x.args.length ca,.int .i64 x.ret.kind,.string x.ret.name,.int .i64 x.locals,.int .i64 x.stack,.slice Ac x.code.length cc,.slice Ax x.maps.length cx]:=hw7▸bxc
   go_wp2_with fail
   rw[<-hw7]
   have hE7:MthC (fun b=>w.heap.size≤b) w7 _ x:=MthC.keep hE hf7 zN
   have HM:=fun W (hW:Fr No w7 W)=>zAo (fun b=>w.heap.size≤b) x _ W (MthC.keep hE7 hW zN) hmem.1 hmem.2.1 hmem.2.2.1 hmem.2.2.2
   have B1r:=B1r.keep hf7
   have hg7:g<w7.heap.size:=Nat.lt_of_lt_of_le hg hf7.size
   replace hw7:=Lib.hid hw7
   replace er:=Lib.hid er
   have K1:=B1r.r4
   have K4:=B4.r8
   clear x0 x1 x2 x3 x4 x5 x6 x7 hE hE7 hfz
   refine zn0 6 27 [mV (.pointer (some ⟨w.heap.size,3,none⟩)),mV (.slice (some ⟨g,0,none⟩) c.methods.length d3),mV (.int .i64 j),mV (.agg #[.string x.name,.slice Aa x.args.length ca,.int .i64 x.ret.kind,.string x.ret.name,.int .i64 x.locals,.int .i64 x.stack,.slice Ac x.code.length cc,.slice Ax x.maps.length cx]),mC (mthT x w7.heap.size) (zAy _ _),mV (.pointer (some ⟨g,j * 8,none⟩))] (by kernel_rfl) (by kernel_rfl) (by simp) ?_ ?_
   ·refine hc4 ?_ ?_ ?_ ?_ <| hopC ?_ <| hopC ?_ <| hopZ
    all_goals (intro a' W hW hoff hdep;have hbs:=hW.size;have H1:=hoff 1 rfl;have H3:=hoff 3 rfl;have H4:=hoff 4 rfl;refine nE rfl ?_)
    ·simp[execOp,Act.eval,H1,go_sem,zaa];exact fr1 rfl
    ·have D21:_=_:=hdep 0 21 rfl;clear hoff hdep;simp[execOp,Act.eval,go_sem,zaa, *];exact fr1 rfl
    ·simp[execOp,Act.eval,H3,go_sem,zaa];exact fr1 rfl
    ·exact gx0
    ·have D24:_=_:=hdep 3 24 rfl;simp[Act.eval,D24,go_sem,zaa];exact(HM _ hW).mono fun e w' h=>(let ⟨cs,h1,h2,h3⟩:=h;⟨_,h1,h3,cs,rfl,zzL _ _ _ _ _ h2 (fun b hb _=>Nat.le_trans hbs hb)⟩)
    ·have D22:_=_:=hdep 1 22 rfl;have D23:_=_:=hdep 2 23 rfl;clear hoff hdep;simp[execOp,Act.eval,go_sem,zaa, *];exact fr1 rfl
   intro vs WR hWR hv hne
   obtain⟨csR4,e4,hOR4⟩:=hv 4 (by omega)
   simp only[lz6,List.drop_zero,znM,znK,znR,Nat.zero_add,Nat.reduceAdd,e4]
   simp only[Act.put,lz0,lz1,lz2]
   clear e4 hv
   obtain⟨hn8,hone⟩:=hOR4.one
   clear HM K1 K4 hne
   refine wpList_store_row rfl 133 (.tmp 26) (.tmp 25) rfl 8 (by kernel_rfl) g c.methods.length d3 j 133 rows csR4 rfl rfl ((hrow0.out.keep0 hf7).keep0 hWR) hT.out.len hjr hn8 hone ?_
   intro w9 hrow9 hc9
   simp only[Act.put]
   have hs7:=hf7.size
   have hs8:=hWR.size
   have hs90:=hc9.size
   have hFv:Fr (fun b=>zcP (.slice (some ⟨g,0,none⟩) c.methods.length d3)=some b) wr w9:=((Fr.of0 (hf7.trans0 hWR)).same hc9).mono (fun b _ e=>e▸hgq)
   have hO9:=zzL _ _ (fun b=>wr.heap.size≤b∧b<w9.heap.size) _ _ (zzI _ _ _ _ _ _ hOR4 hc9 (fun b hb _ e=>by omega)) (fun b h1 h2=>⟨Nat.le_trans hs7 h1,h2⟩)
   have hN:=Lib.hid (CpP.next (Z:=fun b=>wr.heap.size≤b∧b<w9.heap.size) zzI (zAA hFv (fun b e=>by rw[hgq] at e;cases e;omega)) hT.out hlt (Nat.le_trans hsz6 hG.out.size) hrow9 hFv (by rw[hx.out];exact hO9) (fun b hb=>hb))
   have hG9:=Lib.hid (hG.out.same hFv)
   clear hrow9 hO9 hOR4 hT hG hFv er hone hrow0
   go_wp2_with fail
   go_roundw
   case rel=>exact⟨j+1,_,_,by omega,by go_num,hN,hG9⟩
   case measure=>simp[intOf];omega
  ·obtain rfl:j=c.methods.length:=by omega
   have hD:=Lib.hid hT.out.done
   have hlo:=hT.out.own
   have hFw:Fr No w wr:=hF6.trans hG.out (fun b hb e=>by have:=hlo b e;omega)
   have B1:=B1.keepX hG.out (fun e=>by have:=hlo _ e;omega)
   have B2:=B2.keepX hG.out (fun e=>by have:=hlo _ e;omega)
   have hO1:=hO1.keep (zzG _) hG.out (fun b hb hb2 e=>by have:=hlo _ e;have:=hb.2;omega)
   have p:=B1.c4
   have pl:=B1.lt
   have hOU:ClsO wr (fun b=>wA.heap.size≤b) [.string c.name,.string c.super,.slice D1 c.fields.length d1,.slice D3 c.methods.length d3] c:=
    ⟨_,_,_,fun b=>w2.heap.size≤b,rfl,z1,z2,fun b hb=>⟨hb.1,fun h=>by have:=hb.2;omega⟩,fun b hb=>Nat.le_trans hsA2 hb,hO1,⟨_,_,hD.out⟩⟩
   replace hOU:=Lib.hid hOU
   clear hD hlo hO1 hT hG hT0
   go_upto_region 8 with (fail)
   go_step
   go_step
   go_step
   go_step
   refine zco rfl 42 (.tmp 2) (.tmp 28) rfl 4 (by kernel_rfl) (w.heap.size+1) 42 _ [.string c.name,.string c.super,.slice D1 c.fields.length d1,.slice D3 c.methods.length d3] rfl rfl B2 rfl rfl (by simp[Value.oneCell']) ?_
   intro wF BF hfF
   have hfin:=Lib.hid (show zAB c w (.returned (.agg _)) wF from⟨_,rfl,zzM _ _ _ _ _ (zzJ _ _ _ _ _ _ hOU.out hfF (fun b hb _ e=>by omega)) (fun b hb _=>by omega),hFw.trans hfF (fun b hb e=>by omega)⟩)
   have f:=BF.c4
   have fl:=BF.lt
   simp only[Act.put]
   clear B1 B2 hOU hFw hF6 p pl BF hfF
   go_wp2_with fail
   refine bodyPost_ret (v:=.agg #[.string c.name,.string c.super,.slice D1 c.fields.length d1,.slice D3 c.methods.length d3]) (by simp[results,Tryz.results50,go_sem, *]) rfl ?_
   exact hfin.out
end Go.Proofs.YtpghfhjhjlmljaaGreat
