/- The reference's copy of keepers in new memory. -/
import Derived.Test.YtpghfhjhjlmljaaGreatPG28
set_option maxHeartbeats 8000000
set_option maxRecDepth 100000
namespace Go.Proofs.YtpghfhjhjlmljaaGreat
open Go.RowKit
def clsR (x:Cls) (base:Nat):Value->World->Prop:=fun v W=>∃vf vm,v=.agg #[.string x.name,.string x.super,vf,vm]∧ClsC (fun b=>b<base) W [.string x.name,.string x.super,vf,vm] x
theorem zBJ (x:Cls) (base:Nat):MonP (clsR x base):=fun _ _ _ ⟨vf,vm,h1,h2⟩ hf=>⟨vf,vm,h1,ClsC.keep h2 hf zN⟩
def clsY (x:Cls) (base:Nat):Value->World->Prop:=fun v W=>∃b vf vm,v=.slice (some ⟨b,0,none⟩) 1 1∧Bx W b 42 #[.string x.name,.string x.super,vf,vm]∧ClsC (fun b=>b<base) W [.string x.name,.string x.super,vf,vm] x
theorem zBK (x:Cls) (base:Nat):MonP (clsY x base):=fun _ _ _ ⟨b,vf,vm,h0,hB,h2⟩ hf=>⟨b,vf,vm,h0,hB.keep hf,ClsC.keep h2 hf zN⟩
def zBL (ks:List Kpr) (w:World) (e:Ending) (w':World):Prop:=∃v,e=.returned (.agg #[v])∧Sl (fun b=>b<w.heap.size) w' 2 (KprC (fun b=>b<w.heap.size) w') v ks∧Fr No w w'
theorem zBM (X:Nat->Prop) (p:Plan) (v:Value) (w:World) (h:Sl X w 2 (KprC X w) v p.keepers) (hl1:p.keepers.length≤1000) (hl2:∀k∈p.keepers,SmK k):
  Calls Tryz.prog 20 #[.agg #[v]] w (zBL p.keepers w):=by
 have hp:Sl No w 2 (KprC No w) v p.keepers:=h.weaken (Y:=No) zN (fun _ _ _ h=>h.weaken zN)
 clear h
 obtain⟨Ap,cp,rfl,_,_⟩:=hp.form
 obtain⟨wA,hwA⟩:∃wA,wA=((w.alloc (.cells #[.slice Ap p.keepers.length cp] 35)).alloc (.cells #[.slice none 0 0] 35)).alloc (.cells #[.slice none 0 0] 35):=⟨_,rfl⟩
 have hfA:Fr No w wA:=hwA▸frc
 have B1:=(hwA▸bxc:Bx wA w.heap.size 35 #[.slice Ap p.keepers.length cp])
 have B2:=(hwA▸bxc:Bx wA (w.heap.size+1) 35 #[.slice none 0 0])
 have B3:=(hwA▸bxc:Bx wA (w.heap.size+1+1) 35 #[.slice none 0 0])
 have hsA:wA.heap.size=w.heap.size+3:=by rw[hwA];simp
 replace hwA:=Lib.hid hwA
 go_enter Tryz.func20,Tryz.ntmps20
 go_wp2_with fail
 rw[<-hwA.out]
 go_loopw [4] (fun i wr=>∃(k:Nat) (vq:Value),k≤p.keepers.length∧i=.int .i64 k∧Hid (SnR 67 2 KprC wA.heap.size wr vq (p.keepers.take k))∧Bx wr w.heap.size 35 #[.slice Ap p.keepers.length cp]∧Bx wr (w.heap.size+1) 35 #[.slice none 0 0]∧Bx wr (w.heap.size+1+1) 35 #[vq]∧Fr No w wr) (fun i _=>p.keepers.length-(intOf i).toNat)
 case atStart=>exact⟨0,_,Nat.zero_le _,rfl,Lib.hid SnR.nil,B1,B2,B3,hfA⟩
 case round=>
  obtain⟨k,vq,hk,rfl,hT,B1,B2,B3,hF⟩:=hrel
  obtain⟨wo,rfl⟩:∃wo,wo=wr:=⟨_,rfl⟩
  have q:=B1.c1
  have ql:=B1.lt
  have h3l:=B3.lt
  by_cases hlt:k<p.keepers.length
  ·obtain⟨b,off,Ao,co,Aa,ca,rfl,hnb,x0,x1,ho,ha,_,_,_,_⟩:=hp.kpr hlt
   have hbl:=lt_of_cell x0
   have y0:=hF.keep0 x0
   have y1:=hF.keep0 x1
   have hbr:=lt_of_cell y0
   have hxs:=Lib.hid (List.take_succ_eq_append_getElem hlt)
   obtain⟨hs1,hs2,hs3⟩:=hl2 _ (List.getElem_mem hlt)
   generalize hx:p.keepers[k]=x at *
   replace hx:=Lib.hid hx
   obtain⟨k1,e1,r1,s1⟩:=(ha.k0 hF).raws
   have hone1:=OneC.of e1 r1 zrQ
   have hf1:=(Fr.refl No wo).alloc (.cells #[] 86)
   go_upto_region 5 with (fail)
   go_wp2_with (at_builtin;refine Hid.out ?_)
   refine Lib.hid ?_
   refine zqF zz8 rfl _ _ rfl ⟨wo.heap.size,0,none⟩ rfl No (.slice Aa x.asks.length ca) k1 rfl (s1.rawKeep hf1 zN) (by omega) hone1 ?_
   intro D1 d1 w3 hrow hq hf2
   simp only[Act.put,lz0,lz1,lz2]
   rw[e1] at hrow hq ⊢
   have hf3:=hf1.trans0 hf2
   have hD1:Sl (fun b=>b<wo.heap.size) w3 2 AskC (.slice D1 x.asks.length d1) x.asks:=hrow.rawSl e1 r1 (fun q h=>by have:=hq q h;simp at this;omega)
   have hs30:wo.heap.size≤w3.heap.size:=hf3.size
   clear hrow hq hf2 s1 hone1 r1 e1 ha
   have B1:=B1.keep hf3
   have q:=B1.c1
   have ql:=B1.lt
   have y0:=hf3.keep0 y0
   have hbr:=lt_of_cell y0
   go_wp2_with fail
   obtain⟨w5,hw5⟩:∃w5,w5=w3.alloc (.cells #[.slice none 0 0,.slice D1 x.asks.length d1] 67):=⟨_,rfl⟩
   rw[<-hw5]
   have hf35:Fr No w3 w5:=hw5▸frc
   have B5:Bx w5 w3.heap.size 67 #[.slice none 0 0,.slice D1 x.asks.length d1]:=hw5▸bxc
   have hs5:w5.heap.size=w3.heap.size+1:=by rw[hw5];simp
   have hD1:Sl (fun b=>b<wo.heap.size∨w3.heap.size≤b) w5 2 AskC (.slice D1 x.asks.length d1) x.asks:=(hD1.oldX (R':=AskC) (by decide) (fun _ _ _ h=>h)).k0 hf35
   have hf05:=hf3.trans0 hf35
   have B1:=B1.keep hf35
   have B2:=B2.keep hf05
   have B3:=B3.keep hf05
   have hqw:∀q,zcP vq=some q->q<wo.heap.size:=fun q h=>by obtain⟨_,_,j2,_⟩:=hT.out;exact j2.lt h
   have hF5:=hF.trans0 hf05
   have hsw:=hF.size
   have hAw:wA.heap.size≤wo.heap.size:=by omega
   clear hw5 hf3 hf1 hF hf35 y0 y1 q ql hbr
   go_loopw [6] (fun i wr=>∃(j:Nat) (vo:Value),j≤x.owns.length∧i=.int .i64 j∧Hid (SnR 42 4 ClsC w5.heap.size wr vo (x.owns.take j))∧Bx wr w3.heap.size 67 #[vo,.slice D1 x.asks.length d1]∧Hid (Fr (fun b=>b=w3.heap.size∨w5.heap.size≤b) w5 wr)) (fun i _=>x.owns.length-(intOf i).toNat)
   case atStart=>exact⟨0,_,Nat.zero_le _,rfl,Lib.hid SnR.nil,B5,Lib.hid (Fr.refl _ _)⟩
   case round=>
    obtain⟨j,vo,hj,rfl,hU,B5r,hG⟩:=hrel
    have B1r:=B1.keepX hG.out (by omega)
    have hFw:Fr No w wr:=hF5.trans hG.out (fun b hb e=>by omega)
    have hlj:(x.owns.take j).length=j:=by rw[List.length_take];omega
    have hsG:=hG.out.size
    have q:=B1r.c1
    have ql:=B1r.lt
    have y0:=hFw.keep0 x0
    have hbr:=lt_of_cell y0
    by_cases hlu:j<x.owns.length
    ·obtain⟨bo,oo,Af,cf,Am,cm,rfl,_,z0,z1,z2,z3,n1,n2,h1,h2,_,_,_,_⟩:=ho.cls hlu
     have hbo:=lt_of_cell z0
     have hys:=Lib.hid (List.take_succ_eq_append_getElem hlu)
     have hmem:=hs3 _ (List.getElem_mem hlu)
     generalize hy:x.owns[j]=y at *
     replace hy:=Lib.hid hy
     obtain⟨Aq,cq,rfl,hcq,_⟩:=hU.out.form
     have hMC:ClsC No w [.string y.name,.string y.super,.slice Af y.fields.length cf,.slice Am y.methods.length cm] y:=⟨_,_,rfl,n1,n2,h1,h2⟩
     have HL:=fun W (hW:Fr No wr W)=>zBE No y _ W (hMC.keep (hFw.trans0 hW) zN) hmem
     have KM:=fun W (hW:Fr No wr W)=>(⟨(hFw.trans0 hW).keep0 z0,(hFw.trans0 hW).keep0 z1,(hFw.trans0 hW).keep0 z2,(hFw.trans0 hW).keep0 z3⟩:_∧_∧_∧_)
     have KB:=fun W (hW:Fr No wr W)=>(hFw.trans0 hW).keep0 x0
     have K1:=B1r.r1
     have K5:=B5r.r2
     go_wp2_with fail
     clear z0 z1 z2 z3 h1 h2 q ql hMC y0
     replace hlj:=Lib.hid hlj
     refine zn0 13 48 [mV (.pointer (some ⟨w3.heap.size,0,none⟩)),mV (.slice Aq (x.owns.take j).length cq),mV (.pointer (some ⟨w.heap.size,0,none⟩)),mV (.slice (some ⟨b,off,none⟩) p.keepers.length cp),mV (.int .i64 k),mV (.pointer (some ⟨b,off+k * 2,none⟩)),mV (.pointer (some ⟨b,off+k * 2,none⟩)),mV (.slice (some ⟨bo,oo,none⟩) x.owns.length co),mV (.int .i64 j),mV (.pointer (some ⟨bo,oo+j * 4,none⟩)),mV (.agg #[.string y.name,.string y.super,.slice Af y.fields.length cf,.slice Am y.methods.length cm]),mC (clsR y wr.heap.size) (zBJ _ _),mC (clsY y wr.heap.size) (zBK _ _)] (by kernel_rfl) (by kernel_rfl) (by simp) ?_ ?_
     ·refine hc4 ?_ ?_ ?_ ?_ <| hc4 ?_ ?_ ?_ ?_ <| hc4 ?_ ?_ ?_ ?_ <| hopC ?_ <| hopZ
      all_goals (intro a' W hW hoff hdep;have hbs:=hW.size;have H5:=hoff 5 rfl;have H1:=hoff 1 rfl;have H4:=hoff 4 rfl;have H6:=hoff 6 rfl;refine nE rfl ?_)
      ·simp[execOp,Act.eval,H5,go_sem,zaa];exact fr1 rfl
      ·have D35:_=_:=hdep 0 35 rfl;clear hoff hdep;simp[execOp,Act.eval,go_sem,zaa, *];exact fr1 rfl
      ·simp[execOp,Act.eval,H1,go_sem,zaa];exact fr1 rfl
      ·have D37:_=_:=hdep 2 37 rfl;clear hoff hdep;simp[execOp,Act.eval,go_sem,zaa, *];exact fr1 rfl
      ·simp[execOp,Act.eval,H4,go_sem,zaa];exact fr1 rfl
      ·have D38:_=_:=hdep 3 38 rfl;have D39:_=_:=hdep 4 39 rfl;clear hoff hdep;simp[execOp,Act.eval,go_sem,zaa, *];exact fr1 rfl
      ·have D40:_=_:=hdep 5 40 rfl;simp[execOp,Act.eval,D40,go_sem,zaa];exact fr1 rfl
      ·have D41:_=_:=hdep 6 41 rfl;clear hoff hdep;simp[execOp,Act.eval,go_sem,zaa, *];exact fr1 rfl
      ·simp[execOp,Act.eval,H6,go_sem,zaa];exact fr1 rfl
      ·have D42:_=_:=hdep 7 42 rfl;have D43:_=_:=hdep 8 43 rfl;clear hoff hdep;simp[execOp,Act.eval,go_sem,zaa, *];exact fr1 rfl
      ·have D44:_=_:=hdep 9 44 rfl;clear hoff hdep;simp[execOp,Act.eval,go_sem,zaa, *];exact fr1 rfl
      ·have D45:_=_:=hdep 10 45 rfl;simp[Act.eval,D45,go_sem,zaa];exact(HL _ hW).mono fun e w' h=>(let ⟨cs,h1,h2,h3⟩:=h;let ⟨vf,vm,e1,_⟩:=id h2;⟨_,h1,h3,vf,vm,by rw[e1],ClsC.weaken (e1▸h2) (fun b hb=>Nat.lt_of_lt_of_le hb hbs)⟩)
      ·obtain⟨vf,vm,D46,hA⟩:(clsR y wr.heap.size) _ W:=hdep 11 46 rfl;simp at D46;simp[execOp,Act.eval,D46,go_sem,zaa];exact⟨(Fr.refl _ _).alloc _,_,vf,vm,rfl,Bx.new_ rfl,ClsC.keep hA ((Fr.refl No _).alloc _) zN⟩
     intro vs WR hWR hv hne
     obtain⟨vfR11,vmR11,e11,hAR11⟩:=hv 11 (by omega)
     obtain⟨bbR12,vfR12,vmR12,e12,hXR12,hAR12⟩:=hv 12 (by omega)
     simp only[lz6,List.drop_zero,znM,znK,znR,Nat.zero_add,Nat.reduceAdd,e11,e12]
     simp only[Act.put,lz0,lz1,lz2]
     clear e11 e12 hv
     clear hne HL KM K1 K5 KB
     have hlj9:=hlj.out
     obtain⟨js,j1,j2,j3,j4⟩:=hU.out.keep zBr hWR zN
     have hqb:∀q,zcP (.slice Aq (x.owns.take j).length cq)=some q->q<wr.heap.size:=fun q h=>by obtain⟨_,_,j2,_⟩:=hU.out;exact j2.lt h
     refine zqH zAh rfl _ _ rfl (.slice Aq (x.owns.take j).length cq) (x.owns.take j).length js rfl j1.symm j2 (by omega) bbR12 42 [.string y.name,.string y.super,vfR12,vmR12] rfl hXR12 rfl (zrK _ _ hAR12) ?_
     intro g8 d8 w9 hrow8 hcap8 hgf8 hor8
     simp only[Act.put,lz0,lz1,lz2]
     have hsR:=hWR.size
     have hN:=SnR.snoc zBr (x:=y) j1 j3 j4 hrow8 hgf8 hor8 (by omega) (ClsC.weaken hAR12 (fun b h=>h.elim (fun h=>by show b<wr.heap.size;omega) (fun h=>hqb b h)))
     have B5r:=(B5r.keep hWR).keepX hgf8 (fun e=>by have:=j3 _ e;omega)
     have hG9:=hG.out.trans ((Fr.of0 hWR).same hgf8) (fun b _ e=>.inr (j3 b e))
     have m0:=B5r.c2
     have ml:=B5r.lt
     have mf:=B5r.frozen
     replace hN:=Lib.hid hN
     replace hG9:=Lib.hid hG9
     clear hU hG j1 j2 j3 j4 hrow8 hgf8 hor8 hWR hXR12 hAR12 hqb hlj9 hFw B1r
     go_wp2_with fail
     obtain⟨w10,hw10⟩:∃w10,w10=w9.setCell ⟨w3.heap.size,0,none⟩ (.slice (some ⟨g8,0,none⟩) (j+1) d8):=⟨_,rfl⟩
     rw[<-hw10]
     have hc10:Fr (fun b=>b=w3.heap.size) w9 w10:=hw10▸Fr.cell1 _ _ _ _
     have hN:=hN.out.keep zBr hc10 (fun b e=>by omega)
     rw[<-hys.out] at hN
     rw[show(x.owns.take (j+1)).length=j+1 by rw[List.length_take];omega] at hN
     replace hN:=Lib.hid hN
     go_roundw
     case rel=>exact⟨j+1,_,by omega,by go_num,hN,hw10▸B5r.setc rfl,Lib.hid (hG9.out.trans hc10 (fun b _ e=>.inl e))⟩
     case measure=>simp[intOf];omega
    ·obtain rfl:j=x.owns.length:=by omega
     have hU':=hU.out
     rw[List.take_length] at hU'
     obtain⟨Ac,cc,rfl,_,_⟩:=hU'.form
     have hfo:Fr No wo wr:=hf05.trans hG.out (fun b hb e=>by omega)
     have B2r:=B2.keepX hG.out (by omega)
     have B3r:=B3.keepX hG.out (by omega)
     have hT5:=hT.out.keep zBs hfo zN
     have hD5:=hD1.keep (R':=AskC) hG.out (fun b e=>.inr (by omega)) (fun _ _ _ h=>h)
     have hO5:=(hU'.sl zBr)
     obtain⟨Aq,cq,rfl,hcq,_⟩:=hT5.form
     have hlk:Hid ((p.keepers.take k).length=k):=Lib.hid (by rw[List.length_take];omega)
     rw[hlk.out] at B3r
     have g0:=B3r.c1
     have gl:=B3r.lt
     have k0:=B5r.c2
     have kl:=B5r.lt
     clear hU hU' hG hT
     go_upto_region 10 with (fail)
     go_wp2_with (at_builtin;refine Hid.out ?_)
     refine Lib.hid ?_
     obtain⟨wX,hwX⟩:∃wX,wX=wr.alloc (.cells #[.slice Ac x.owns.length cc,.slice D1 x.asks.length d1] 67):=⟨_,rfl⟩
     rw[<-hwX]
     have hfX:Fr No wr wX:=hwX▸frc
     have BX:Bx wX wr.heap.size 67 #[.slice Ac x.owns.length cc,.slice D1 x.asks.length d1]:=hwX▸bxc
     obtain⟨js,j1,j2,j3,j4⟩:=hT5.keep zBs hfX zN
     have j2':=j2
     rw[hlk.out] at j2'
     refine zqH zAJ rfl _ _ rfl (.slice Aq k cq) k js rfl (by rw[j1,hlk.out]) j2' (by omega) wr.heap.size 67 [.slice Ac x.owns.length cc,.slice D1 x.asks.length d1] rfl BX rfl (by simp[Value.oneCell']) ?_
     intro g8 d8 w9 hrow8 hcap8 hgf8 hor8
     simp only[Act.put,lz0,lz1,lz2]
     have hsX:=hfX.size
     have hrow9:RowV w9 67 2 (.slice (some ⟨g8,0,none⟩) ((p.keepers.take k).length+1) d8) ((p.keepers.take k).length+1) (rawL (js ++ [⟨[.slice Ac x.owns.length cc,.slice D1 x.asks.length d1],rfl⟩])):=by rw[hlk.out];exact hrow8
     have hgf9:Fr (fun b=>zcP (.slice Aq (p.keepers.take k).length cq)=some b) wX w9:=by rw[hlk.out];exact hgf8
     have hor9:zcP (.slice Aq (p.keepers.take k).length cq)=some g8∨g8=wX.heap.size:=by rw[hlk.out];exact hor8
     clear hrow8 hgf8 hor8 j2'
     have hgf8:=hgf9
     have hN:=SnR.snoc zBs (x:=x) j1 j3 j4 hrow9 hgf9 hor9 (by omega) ⟨_,_,rfl,(hO5.keep (R':=ClsC (fun b=>b<w5.heap.size) wX) hfX zN (fun _ _ _ h=>ClsC.keep h hfX zN)).weaken (fun b h=>by show b<w5.heap.size;exact h.elim (fun h=>by omega) (fun h=>by have:=hqw b h;omega)) (fun _ _ _ h=>ClsC.weaken h (fun b h=>by show b<w5.heap.size;exact h.elim (fun h=>by omega) (fun h=>by have:=hqw b h;omega))),
      (hD5.k0 hfX).weaken (fun b h=>.inl (h.elim (fun h=>by omega) (fun h=>hqw b h))) (fun _ _ _ h=>h)⟩
     have B1r:=(B1r.keep hfX).keepX hgf8 (fun e=>by have:=j3 _ e;omega)
     have B2r:=(B2r.keep hfX).keepX hgf8 (fun e=>by have:=j3 _ e;omega)
     have B3r:=(B3r.keep hfX).keepX hgf8 (fun e=>by have:=j3 _ e;omega)
     have hF9:Fr No w w9:=(hFw.trans0 hfX).trans hgf8 (fun b hb e=>by have:=j3 _ e;omega)
     have m0:=B3r.c1
     have ml:=B3r.lt
     have mf:=B3r.frozen
     replace hN:=Lib.hid hN
     clear j1 j2 j3 j4 hrow9 hgf8 hgf9 hor9 hO5 hD5 hT5 BX hqw g0 gl k0 kl hfo hfX hwX y0 q ql B5r hFw
     go_wp2_with fail
     obtain⟨w10,hw10⟩:∃w10,w10=w9.setCell ⟨w.heap.size+1+1,0,none⟩ (.slice (some ⟨g8,0,none⟩) (k+1) d8):=⟨_,rfl⟩
     rw[<-hw10]
     have hc10:Fr (fun b=>b=w.heap.size+1+1) w9 w10:=hw10▸Fr.cell1 _ _ _ _
     have hN:=hN.out.keep zBs hc10 (fun b e=>by omega)
     rw[<-hxs.out] at hN
     rw[show(p.keepers.take (k+1)).length=k+1 by rw[List.length_take];omega] at hN
     replace hN:=Lib.hid hN
     go_roundw
     case rel=>exact⟨k+1,_,by omega,by go_num,hN,B1r.keepX hc10 (by omega),B2r.keepX hc10 (by omega),hw10▸B3r.setc rfl,hF9.trans hc10 (fun b hb e=>by omega)⟩
     case measure=>simp[intOf];omega
  ·obtain rfl:k=p.keepers.length:=by omega
   have hT':=hT.out
   rw[List.take_length] at hT'
   obtain⟨Aq,cq,rfl,_,_⟩:=hT'.form
   have m0:=B3.c1
   have ml:=B3.lt
   have n0:=B2.c1
   have nl:=B2.lt
   have nf:=B2.frozen
   have hO:=hT'.sl zBs
   have hfin:=Lib.hid (show zBL p.keepers w (.returned (.agg #[.slice Aq p.keepers.length cq])) (wo.setCell ⟨w.heap.size+1,0,none⟩ (.slice Aq p.keepers.length cq)) from
    ⟨_,rfl,(hO.keep (R':=KprC (fun b=>b<wA.heap.size) _) (Fr.cell1 _ _ _ _) (fun b (e:b=w.heap.size+1)=>by show b<wA.heap.size;omega) (fun _ _ _ h=>KprC.keep h (Fr.cell1 _ _ _ _) (fun b (e:b=w.heap.size+1)=>by show b<wA.heap.size;omega))).weaken (fun b h=>by show b<wA.heap.size;have:b<w.heap.size:=h;omega) (fun _ _ _ h=>KprC.weaken h (fun b h=>by show b<wA.heap.size;have:b<w.heap.size:=h;omega)),hF.trans (Fr.cell1 _ _ _ _) (fun b hb (e:b=w.heap.size+1)=>by omega)⟩)
   clear hT hT' hO hF hp B2 B3
   go_wp2_with fail
   refine bodyPost_ret (v:=.agg #[.slice Aq p.keepers.length cq]) (by simp[results,Tryz.results20,go_sem, *]) rfl ?_
   exact hfin.out
end Go.Proofs.YtpghfhjhjlmljaaGreat
