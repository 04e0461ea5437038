/- The program's copy of keepers: the same keepers in rows of their own. -/
import Derived.Test.YtpghfhjhjlmljaaGreatPG16
set_option maxHeartbeats 8000000
set_option maxRecDepth 100000
namespace Go.Proofs.YtpghfhjhjlmljaaGreat
open Go.RowKit
def SmK (k:Kpr):Prop:=k.owns.length≤1000∧k.asks.length≤1000∧∀c∈k.owns,SmC c
def zAD (lo:Nat):World->List Value->Cls->Prop:=fun w cs m=>ClsC (fun b=>lo≤b) w cs m
theorem zAE {lo:Nat} {X:Nat->Prop} {w w':World} (hf:Fr X w w') (hX:∀b,X b->lo≤b) (cs:List Value) (x:Cls) (h:zAD lo w cs x):zAD lo w' cs x:=ClsC.keep h hf hX
theorem zrK {X:Nat->Prop} {w:World}:∀cs x,ClsC X w cs x->∀u∈cs,u.oneCell'=true:=by
 rintro _ x ⟨va,vc,rfl,_,_,h1,h2⟩ u hu
 obtain⟨_,_,rfl,_⟩:=h1.form
 obtain⟨_,_,rfl,_⟩:=h2.form
 simp only[List.mem_cons,List.not_mem_nil,or_false] at hu
 rcases hu with rfl|rfl|rfl|rfl<;>rfl
theorem ClsO.one {w:World} {Y:Nat->Prop} {cs:List Value} {x:Cls} (h:ClsO w Y cs x):cs.length=4∧∀u∈cs,u.oneCell'=true:=by
 have h1:ClsC (fun _=>False) w cs x:=h.c (fun _ _ _ h=>h)
 refine⟨?_,zrK _ _ h1⟩
 obtain⟨_,_,rfl,_⟩:=h1
 rfl
def askT (xs:List Ask) (base:Nat):Value->World->Prop:=fun v W=>∃A c,v=.slice A xs.length c∧OwnL 86 2 (zzC AskC) W (fun b=>base≤b) (.slice A xs.length c) xs
theorem zAF (xs:List Ask) (base:Nat):MonP (askT xs base):=fun _ _ _ ⟨A,c,h1,h2⟩ hf=>⟨A,c,h1,h2.keep (zzG _) hf (fun _ _ _ h=>h)⟩
def kprT (vo:Value) (xs:List Ask) (base:Nat):Value->World->Prop:=fun v W=>∃A c,v=.agg #[vo,.slice A xs.length c]∧OwnL 86 2 (zzC AskC) W (fun b=>base≤b) (.slice A xs.length c) xs
theorem zAG (vo:Value) (xs:List Ask) (base:Nat):MonP (kprT vo xs base):=fun _ _ _ ⟨A,c,h1,h2⟩ hf=>⟨A,c,h1,h2.keep (zzG _) hf (fun _ _ _ h=>h)⟩
def kprX (vo:Value) (xs:List Ask) (base:Nat):Value->World->Prop:=fun v W=>∃b A c,v=.slice (some ⟨b,0,none⟩) 1 1∧Bx W b 67 #[vo,.slice A xs.length c]∧OwnL 86 2 (zzC AskC) W (fun b=>base≤b) (.slice A xs.length c) xs
theorem zAH (vo:Value) (xs:List Ask) (base:Nat):MonP (kprX vo xs base):=fun _ _ _ ⟨b,A,c,h1,h2,h3⟩ hf=>⟨b,A,c,h1,h2.keep hf,h3.keep (zzG _) hf (fun _ _ _ h=>h)⟩
theorem zAI:(Tryz.prog.info? 67).map (fun i=>(i.zero,i.size,i.bytes))=some (some (.agg #[.slice none 0 0,.slice none 0 0]),2,48):=by kernel_rfl
theorem zAJ:ElT 33 67 2 48:=zqW Tryz.underlying33 zAI rfl (by decide) (by decide)
def zAK (p:Plan) (w:World) (e:Ending) (w':World):Prop:=∃v,e=.returned (.agg #[v])∧zzE w' (fun b=>w.heap.size≤b) v p.keepers∧Fr No w w'
theorem zAL (X:Nat->Prop) (p:Plan) (v:Value) (w:World) (h:Sl X w 2 (KprC X w) v p.keepers) (hl1:p.keepers.length≤1000) (hl2:∀k∈p.keepers,SmK k):
  Calls Tryz.prog 25 #[.agg #[v]] w (zAK p w):=by
 have hp:Sl (fun b=>w.heap.size≤b) w 2 (KprC (fun b=>w.heap.size≤b) w) v p.keepers:=(h.weaken (Y:=No) zN (fun _ _ _ h=>h.weaken zN)).old (by decide) (fun _ _ _ h=>h.old)
 clear h
 obtain⟨Ap,cp,rfl,_,_⟩:=hp.form
 obtain⟨wA,hwA⟩:∃wA,wA=((w.alloc (.cells #[.slice Ap p.keepers.length cp] 35)).alloc (.cells #[.slice none 0 0] 35)).alloc (.cells #[.slice none 0 0] 35):=⟨_,rfl⟩
 have hfA:Fr No w wA:=hwA▸frc
 have B1:=(hwA▸bxc:Bx wA w.heap.size 35 #[.slice Ap p.keepers.length cp])
 have B2:=(hwA▸bxc:Bx wA (w.heap.size+1) 35 #[.slice none 0 0])
 have B3:=(hwA▸bxc:Bx wA (w.heap.size+1+1) 35 #[.slice none 0 0])
 have hsA:wA.heap.size=w.heap.size+3:=by rw[hwA];simp
 replace hwA:=Lib.hid hwA
 have q:=B1.c1
 have ql:=B1.lt
 go_enter Tryz.func25,Tryz.ntmps25
 go_wp2_with fail
 rw[<-hwA.out]
 clear q ql B1
 go_loopw [12] (fun i wr=>∃(j:Nat) (vq:Value),j≤p.keepers.length∧i=.int .i64 j∧Hid (zzE wr (fun b=>w.heap.size+3≤b) vq (p.keepers.take j))∧Bx wr (w.heap.size+1) 35 #[.slice none 0 0]∧Bx wr (w.heap.size+1+1) 35 #[vq]∧Fr No w wr) (fun i _=>p.keepers.length-(intOf i).toNat)
 case atStart=>exact⟨0,_,Nat.zero_le _,rfl,Lib.hid (OwnL.nil _ _),B2,B3,hfA⟩
 case round=>
  obtain⟨j,vq,hj,rfl,hT,B2,B3,hF⟩:=hrel
  by_cases hlt:j<p.keepers.length
  ·obtain⟨b,off,Ao,co,Aa,ca,rfl,hnb,x0,x1,ho,ha,_,_,_,_⟩:=hp.kpr hlt
   have hbl:=lt_of_cell x0
   have y0:=hF.keep0 x0
   have y1:=hF.keep0 x1
   obtain⟨hs1,hs2,hs3⟩:=hl2 _ (List.getElem_mem hlt)
   have hxs:=Lib.hid (List.take_succ_eq_append_getElem hlt)
   generalize hx:p.keepers[j]=x at *
   replace hx:=Lib.hid hx
   obtain⟨w3,hw3⟩:∃w3,w3=wr.alloc (.cells #[.slice Ao x.owns.length co,.slice Aa x.asks.length ca] 67):=⟨_,rfl⟩
   have hf3:Fr No wr w3:=hw3▸frc
   have B5:Bx w3 wr.heap.size 67 #[.slice Ao x.owns.length co,.slice Aa x.asks.length ca]:=hw3▸bxc
   have hF3:=hF.trans0 hf3
   go_wp2_with fail
   rw[<-hw3]
   obtain⟨k1,e1,r1,s1⟩:=(ho.keep (R':=ClsC (fun b=>w.heap.size≤b) w3) hF3 zN (fun _ _ _ h=>h.keep hF3 zN)).raws
   refine(zAi _ _ k1 w3 s1 (by omega) (OneC.of e1 r1 zrK)).mono ?_
   rintro e w5 ⟨D3,d3,rfl,hrow,hq,hf5⟩
   rw[e1] at hrow hq ⊢
   have hkl:=B5.lt
   have B5:=B5.keep hf5
   have hT0:CpP 42 4 ClsO (zAD w.heap.size) w3.heap.size 0 k1 (fun _ _=>False) w5 (.slice D3 x.owns.length d3) x.owns:=
    .zero e1 hrow hq (fun i h1 h2=>(r1 i h1 h2).keep hf5 zN)
   have hF5:=hF3.trans0 hf5
   have hf35:=hf3.trans0 hf5
   have hs50:=hf5.size
   have hs30:=hf3.size
   have hsw:w.heap.size+3≤wr.heap.size:=B3.lt
   have hT5:=Lib.hid ((hT.out.wid (Y':=fun b=>w.heap.size+3≤b∧b<wr.heap.size) (fun b h1 h2=>⟨h1,h2⟩)).keep zzK hf35 (fun _ _ _ h=>h))
   have B2:=B2.keep hf35
   have B3:=B3.keep hf35
   clear hw3 hrow r1 s1 e1 x0 x1 y0 y1 hf3 hf5 hF hF3 hT hf35
   obtain⟨kb,hkb⟩:∃kb,kb=wr.heap.size:=⟨_,rfl⟩
   rw[<-hkb] at B5 hkl hs30 hsw hT5 ⊢
   replace hkb:=Lib.hid hkb
   go_wp2_with fail
   go_loopw [21] (fun i wr2=>∃(k:Nat) (rows:List (Raw 4)) (Ys:Nat->Nat->Prop),k≤x.owns.length∧i=.int .i64 k∧Hid (CpP 42 4 ClsO (zAD w.heap.size) w3.heap.size k rows Ys wr2 (.slice D3 x.owns.length d3) x.owns)∧Hid (Fr (fun b=>zcP (.slice D3 x.owns.length d3)=some b) w5 wr2)) (fun i _=>x.owns.length-(intOf i).toNat)
   case atStart=>exact⟨0,k1,_,Nat.zero_le _,rfl,Lib.hid hT0,Lib.hid (Fr.refl _ _)⟩
   case round=>
    obtain⟨k,rows,Ys,hk,rfl,hU,hG⟩:=hrel
    by_cases hlu:k<x.owns.length
    ·have hU':=hU.out
     obtain⟨g,c9,he,hfz,hg,hgq,hlo,hcell⟩:=hU'.at_ (by omega)
     cases he
     have hjr:k<rows.length:=by rw[hU'.len];exact hlu
     have hE:=hU'.rest k hjr hlu (Nat.le_refl _)
     have hE':=id hE
     obtain⟨vf,vm,er,_,_,h1,h2⟩:=hE'
     obtain⟨Af,cf,rfl,_,_⟩:=h1.form
     obtain⟨Am,cm,rfl,_,_⟩:=h2.form
     have x0:=hcell k hjr 0 (by omega)
     have x1:=hcell k hjr 1 (by omega)
     have x2:=hcell k hjr 2 (by omega)
     have x3:=hcell k hjr 3 (by omega)
     rw[er] at hE
     simp only[er,lz3,lz4,Nat.add_zero] at x0 x1 x2 x3
     have hmem:=hs3 _ (List.getElem_mem hlu)
     have hrow0:=Lib.hid hU'.row
     clear hT0 hU' hcell h1 h2
     generalize hy:x.owns[k]=y at *
     replace hy:=Lib.hid hy
     obtain⟨w7,hw7⟩:∃w7,w7=wr.alloc (.cells #[.string y.name,.string y.super,.slice Af y.fields.length cf,.slice Am y.methods.length cm] 42):=⟨_,rfl⟩
     have hf7:Fr No wr w7:=hw7▸frc
     have hE7:ClsC (fun b=>w.heap.size≤b) w7 _ y:=ClsC.keep hE hf7 zN
     have HC:=zAC (fun b=>w.heap.size≤b) y _ w7 hE7 hmem
     go_wp2_with fail
     rw[<-hw7]
     refine HC.mono ?_
     rintro e w8 ⟨cs,rfl,hO,hf8⟩
     simp only[]
     go_at_K
     go_step
     go_step
     go_step
     go_step
     obtain⟨hn4,hone⟩:=hO.one
     clear x0 x1 x2 x3 HC hE hE7
     refine wpList_store_row rfl 42 (.tmp 30) (.tmp 29) rfl 4 (by kernel_rfl) g x.owns.length d3 k 42 rows cs rfl rfl ((hrow0.out.keep0 hf7).keep0 hf8) hU.out.len hjr hn4 hone ?_
     intro w9 hrow9 hc9
     simp only[Act.put]
     have hs7:=hf7.size
     have hs8:=hf8.size
     have hs90:=hc9.size
     have hFv:Fr (fun b=>zcP (.slice (some ⟨g,0,none⟩) x.owns.length d3)=some b) wr w9:=((Fr.of0 (hf7.trans0 hf8)).same hc9).mono (fun b _ e=>e▸hgq)
     have hO9:=zzM _ _ (fun b=>wr.heap.size≤b∧b<w9.heap.size) _ _ (zzJ _ _ _ _ _ _ hO hc9 (fun b hb _ e=>by omega)) (fun b h1 h2=>⟨Nat.le_trans hs7 h1,h2⟩)
     have hN:=Lib.hid (CpP.next (Z:=fun b=>wr.heap.size≤b∧b<w9.heap.size) zzJ (zAE hFv (fun b e=>by rw[hgq] at e;cases e;omega)) hU.out hlu (Nat.le_trans hs50 hG.out.size) hrow9 hFv (by rw[hy.out];exact hO9) (fun b hb=>hb))
     have hG9:=Lib.hid (hG.out.same hFv)
     clear hrow9 hO9 hO hU hG hFv er hone hrow0
     go_wp2_with fail
     go_roundw
     case rel=>exact⟨k+1,_,_,by omega,by go_num,hN,hG9⟩
     case measure=>simp[intOf];omega
    ·obtain rfl:k=x.owns.length:=by omega
     have hlo:=hU.out.own
     have hlj:(p.keepers.take j).length=j:=by rw[List.length_take];omega
     have hOw:=Lib.hid ((show OwnL 42 4 ClsO wr (fun b=>w3.heap.size≤b) (.slice D3 x.owns.length d3) x.owns from⟨_,_,hU.out.done⟩).wid (Y':=fun b=>w3.heap.size≤b∧b<wr.heap.size) (fun b h1 h2=>⟨h1,h2⟩))
     have hFw:Fr No w wr:=hF5.trans hG.out (fun b hb e=>by have:=hlo b e;omega)
     have B2:=B2.keepX hG.out (fun e=>by have:=hlo _ e;omega)
     have B3:=B3.keepX hG.out (fun e=>by have:=hlo _ e;omega)
     have B5:=B5.keepX hG.out (fun e=>by have:=hlo _ e;omega)
     have hT6:=Lib.hid (hT5.out.keep zzK hG.out (fun b hb _ e=>by have:=hlo _ e;have:=hb.2;omega))
     have hs56:=hG.out.size
     clear hU hG hT0 hT5
     obtain⟨Aq,cq,rfl,hcq,_⟩:=hT6.out.form
     obtain⟨k2,e2,r2,s2⟩:=(ha.k0 hFw).raws
     have HA:=fun W (hW:Fr No wr W)=>zz9 _ _ k2 W (s2.rawKeep hW zN) (by omega) (OneC.of e2 r2 zrQ)
     replace e2:=Lib.hid e2
     replace hlj:=Lib.hid hlj
     have K3:=B3.r1
     have K5:=B5.r2
     go_wp2_with fail
     refine zn0 8 40 [mV (.pointer (some ⟨w.heap.size+1+1,0,none⟩)),mV (.slice Aq (p.keepers.take j).length cq),mV (.slice D3 x.owns.length d3),mV (.pointer (some ⟨kb,1,none⟩)),mV (.slice Aa x.asks.length ca),mC (askT x.asks wr.heap.size) (zAF _ _),mC (kprT (.slice D3 x.owns.length d3) x.asks wr.heap.size) (zAG _ _ _),mC (kprX (.slice D3 x.owns.length d3) x.asks wr.heap.size) (zAH _ _ _)] (by kernel_rfl) (by kernel_rfl) (by simp) ?_ ?_
     ·refine hc4 ?_ ?_ ?_ ?_ <| hc4 ?_ ?_ ?_ ?_ <| hopZ
      all_goals (intro a' W hW hoff hdep;have hbs:=hW.size;have H3:=hoff 3 rfl;have H6:=hoff 6 rfl;have H5:=hoff 5 rfl;refine nE rfl ?_)
      ·simp[execOp,Act.eval,H3,go_sem,zaa];exact fr1 rfl
      ·have D32:_=_:=hdep 0 32 rfl;clear hoff hdep;simp[execOp,Act.eval,go_sem,zaa, *];exact fr1 rfl
      ·simp[execOp,Act.eval,H6,go_sem,zaa];exact fr1 rfl
      ·simp[execOp,Act.eval,H5,go_sem,zaa];exact fr1 rfl
      ·have D35:_=_:=hdep 3 35 rfl;clear hoff hdep;simp[execOp,Act.eval,go_sem,zaa, *];exact fr1 rfl
      ·have D36:_=_:=hdep 4 36 rfl;simp[Act.eval,D36,go_sem,zaa];exact(HA _ hW).mono fun e w' h=>(let ⟨A,c,h1,h2,h3⟩:=h.leaf e2.out r2;⟨_,h1,h3,A,c,rfl,h2.wid (fun b hb _=>Nat.le_trans hbs hb)⟩)
      ·have D34:_=_:=hdep 2 34 rfl;obtain⟨A,c,D37,hA⟩:(askT x.asks wr.heap.size) _ W:=hdep 5 37 rfl;simp at D34 D37;simp[execOp,Act.eval,D34,D37,go_sem,zaa];exact⟨Fr.refl _ _,A,c,rfl,hA⟩
      ·obtain⟨A,c,D38,hA⟩:(kprT (.slice D3 x.owns.length d3) x.asks wr.heap.size) _ W:=hdep 6 38 rfl;simp at D38;simp[execOp,Act.eval,D38,go_sem,zaa];exact⟨(Fr.refl _ _).alloc _,_,A,c,rfl,Bx.new_ rfl,hA.keep (zzG _) ((Fr.refl No _).alloc _) (fun _ _ _ h=>h)⟩
     intro vs WR hWR hv hne
     obtain⟨AR5,cR5,e5,hAR5⟩:=hv 5 (by omega)
     obtain⟨AR6,cR6,e6,hAR6⟩:=hv 6 (by omega)
     obtain⟨bR7,AR7,cR7,e7,hBR7,hAR7⟩:=hv 7 (by omega)
     simp only[lz6,List.drop_zero,znM,znK,znR,Nat.zero_add,Nat.reduceAdd,e5,e6,e7]
     simp only[Act.put,lz0,lz1,lz2]
     clear e5 e6 e7 hv
     clear hne HA K3 K5 s2 r2 e2
     have hOw8:=hOw.out
     obtain⟨rws,Ys,hP⟩:=hT6.out
     have hP:=hP.keep zzK hWR (fun _ _ _ h=>h)
     have hPl:=hP.len
     have hj9:=hlj.out
     refine zqH zAJ rfl _ _ rfl (.slice Aq (p.keepers.take j).length cq) (p.keepers.take j).length rws rfl hPl.symm hP.row (by omega) bR7 67 [.slice D3 x.owns.length d3,.slice AR7 x.asks.length cR7] rfl hBR7 rfl (by simp[Value.oneCell']) ?_
     intro g8 c8 w8 hrow8 hcap8 hgf8 hor8
     simp only[Act.put,lz0,lz1,lz2]
     have hsR:=hWR.size
     have hs8:=hgf8.size
     have hqk:∀q,zcP (.slice Aq (p.keepers.take j).length cq)=some q->w.heap.size+3≤q∧q<kb:=fun q h=>hP.own q h
     have hrv:∀q,zcP (.slice (some ⟨g8,0,none⟩) ((p.keepers.take j).length+1) c8)=some q->q=g8:=fun q h=>by rw[zcQ,if_neg (by omega)] at h;cases h;rfl
     have hg8:(w.heap.size+3≤g8∧g8<kb)∨g8=WR.heap.size:=hor8.imp (hqk _) id
     have hN:=hP.snoc (x:=x) (Z:=fun b=>w3.heap.size≤b∧b<WR.heap.size) (Y':=fun b=>w.heap.size+3≤b) zzK hrow8 hgf8 (fun q h=>by rw[hrv q h];exact hor8.imp id (fun e=>by omega))
      ⟨_,_,fun b=>w3.heap.size≤b∧b<wr.heap.size,fun b=>wr.heap.size≤b∧b<WR.heap.size,rfl,fun b hb=>⟨⟨hb.1,by omega⟩,fun h=>by omega⟩,fun b hb=>⟨by omega,hb.2⟩,
       (hOw8.keep zzJ hWR (fun _ _ _ h=>h)).keep zzJ hgf8 (fun b hb _ e=>by have:=(hqk b e).2;omega),
       (hAR7.wid (Y':=fun b=>wr.heap.size≤b∧b<WR.heap.size) (fun b h1 h2=>⟨h1,h2⟩)).keep (zzG _) hgf8 (fun b hb _ e=>by have:=(hqk b e).2;omega)⟩
      (fun b hb=>⟨by omega,fun h=>by have:=h.1.2;omega,fun e=>by have:=hrv b e;omega⟩) (fun b hb _=>hb.1) (fun b hb=>by show w.heap.size+3≤b;omega) (fun q h _=>by have:=hrv q h;show w.heap.size+3≤q;omega)
     have B2:=(B2.keep hWR).keepX hgf8 (fun e=>by have:=(hqk _ e).1;omega)
     have B3:=(B3.keep hWR).keepX hgf8 (fun e=>by have:=(hqk _ e).1;omega)
     have hF8:Fr No w w8:=(hFw.trans0 hWR).trans hgf8 (fun b hb e=>by have:=(hqk _ e).1;omega)
     have hN:=Lib.hid (⟨_,_,hN⟩:zzE w8 (fun b=>w.heap.size+3≤b) _ (p.keepers.take j ++ [x]))
     have m0:=B3.c1
     have ml:=B3.lt
     have mf:=B3.frozen
     replace hlj:=Lib.hid hlj
     clear hP hPl hrow8 hgf8 hor8 hWR hOw hOw8 hT6 hAR7 hBR7 hj9 hqk hrv hp ha ho
     go_wp2_with fail
     obtain⟨w9,hw9⟩:∃w9,w9=w8.setCell ⟨w.heap.size+1+1,0,none⟩ (.slice (some ⟨g8,0,none⟩) (j+1) c8):=⟨_,rfl⟩
     rw[<-hw9]
     have hc9:Fr (fun b=>b=w.heap.size+1+1) w8 w9:=hw9▸Fr.cell1 _ _ _ _
     have hN:=OwnL.keep zzK hN.out hc9 (fun b (hb:w.heap.size+3≤b) _ e=>by omega)
     rw[hlj.out,<-hxs.out] at hN
     replace hN:=Lib.hid hN
     go_roundw
     case rel=>exact⟨j+1,_,by omega,by go_num,hN,B2.keepX hc9 (by omega),hw9▸B3.setc rfl,hF8.trans hc9 (fun b hb e=>by omega)⟩
     case measure=>simp[intOf];omega
  ·obtain rfl:j=p.keepers.length:=by omega
   have hT:=hT.out
   rw[List.take_length] at hT
   obtain⟨Aq,cq,rfl,_,_⟩:=hT.form
   have m0:=B3.c1
   have ml:=B3.lt
   have n0:=B2.c1
   have nl:=B2.lt
   have nf:=B2.frozen
   have hfin:=Lib.hid (show zAK p w (.returned (.agg #[.slice Aq p.keepers.length cq])) (wr.setCell ⟨w.heap.size+1,0,none⟩ (.slice Aq p.keepers.length cq)) from
    ⟨_,rfl,(hT.keep zzK (Fr.cell1 _ _ _ _) (fun b (hb:w.heap.size+3≤b) _ (e:b=w.heap.size+1)=>by omega)).wid (fun b hb _=>by omega),hF.trans (Fr.cell1 _ _ _ _) (fun b hb (e:b=w.heap.size+1)=>by omega)⟩)
   clear hT B2 B3 hF hp
   go_wp2_with fail
   refine bodyPost_ret (v:=.agg #[.slice Aq p.keepers.length cq]) (by simp[results,Tryz.results25,go_sem, *]) rfl ?_
   exact hfin.out
end Go.Proofs.YtpghfhjhjlmljaaGreat
