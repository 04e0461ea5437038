/- The program's copy of a method: the same method in rows of its own. -/
import Derived.Test.YtpghfhjhjlmljaaGreatPG10
import Derived.Test.YtpghfhjhjlmljaaGreatPG13
import Derived.Deep.CutBlock
import Derived.Deep.DeepCutAuto
set_option maxHeartbeats 8000000
set_option maxRecDepth 100000
namespace Go.Proofs.YtpghfhjhjlmljaaGreat
open Go.RowKit
def cloT (xs:List Tag) (base:Nat):Value->World->Prop:=fun v W=>∃A c,v=.slice A xs.length c∧OwnL zzD 2 (zzC TagC) W (fun b=>base≤b) (.slice A xs.length c) xs
theorem zAk (xs:List Tag) (base:Nat):MonP (cloT xs base):=fun _ _ _ ⟨A,c,h1,h2⟩ hf=>⟨A,c,h1,h2.keep (zzG _) hf (fun _ _ _ h=>h)⟩
def zAl (lo:Nat):World->List Value->Mp->Prop:=fun w cs m=>MapC (fun b=>lo≤b) w cs m
theorem zAm {lo:Nat} {X:Nat->Prop} {w w':World} (hf:Fr X w w') (hX:∀b,X b->lo≤b) (cs:List Value) (x:Mp) (h:zAl lo w cs x):zAl lo w' cs x:=MapC.keep h hf hX
theorem CpP.at_ {α:Type} {E:TypeId} {sz:Nat} {R:OwnR α} {C:World->List Value->α->Prop} {lo j:Nat} {rows:List (Raw sz)} {Ys:Nat->Nat->Prop} {w:World} {v:Value} {xs:List α} (h:CpP E sz R C lo j rows Ys w v xs) (h0:0<xs.length):
  ∃g c,v=.slice (some ⟨g,0,none⟩) xs.length c∧(∀o,w.frozen? ⟨g,o,none⟩=false)∧g<w.heap.size∧zcP v=some g∧lo≤g∧(∀i (hi:i<rows.length) j,j<sz->w.cell? ⟨g,i * sz+j,none⟩=rows[i].1[j]?):=by
 obtain⟨g,c,cur,rfl,h1,h2,hb,h3,h4,hq⟩:=h.row.at_ h0
 refine⟨g,c,rfl,fun o=>hb.frozen o,hb.lt,hq,h.own g hq,fun i hi j hj=>?_⟩
 have hi':i<xs.length:=by rw[<-h.len];exact hi
 have hle:i * sz+j<xs.length * sz:=by
  have:(i+1) * sz≤xs.length * sz:=Nat.mul_le_mul_right _ hi'
  rw[Nat.add_mul] at this
  omega
 rw[h.row.cell rfl hle]
 exact zqB (C:=fun k:Raw sz=>k.1) (fun k=>k.2) rows i hi j hj
theorem RowV.rowAt {w:World} {e:TypeId} {sz n g c:Nat} {rows:List (Raw sz)} (h:RowV w e sz (.slice (some ⟨g,0,none⟩) n c) n (rawL rows)) (hl:rows.length=n) {i:Nat} (hi:i<rows.length):
  (∀o,w.frozen? ⟨g,o,none⟩=false)∧g<w.heap.size∧∀j,j<sz->w.cell? ⟨g,i * sz+j,none⟩=rows[i].1[j]?:=by
 obtain⟨g',c',cur,he,h1,h2,hb,h3,h4,hq⟩:=h.at_ (by omega)
 cases he
 refine⟨fun o=>hb.frozen o,hb.lt,fun j hj=>?_⟩
 have hle:i * sz+j<n * sz:=by
  have:(i+1) * sz≤n * sz:=Nat.mul_le_mul_right _ (by omega)
  rw[Nat.add_mul] at this
  omega
 rw[h.cell rfl hle]
 exact zqB (C:=fun k:Raw sz=>k.1) (fun k=>k.2) rows i hi j hj
def zAn (m:Mth) (w:World) (e:Ending) (w':World):Prop:=∃cs,e=.returned (.agg cs.toArray)∧MthO w' (fun b=>w.heap.size≤b) cs m∧Fr No w w'
theorem zAo (X:Nat->Prop) (m:Mth) (cs:List Value) (w:World) (h:MthC X w cs m) (hl1:m.args.length≤1000) (hl2:m.code.length≤1000) (hl3:m.maps.length≤1000) (hl4:∀x∈m.maps,x.locals.length≤1000∧x.stack.length≤1000):
  Calls Tryz.prog 85 #[.agg cs.toArray] w (zAn m w):=by
 replace h:=h.weaken (Y:=No) zN
 obtain⟨va,vc,vm,rfl,z1,z2,ha,hc,hm⟩:=h
 replace hm:=hm.old (R':=MapC (fun b=>w.heap.size≤b) w) (by decide) (fun _ _ _ h=>h.old)
 obtain⟨A1,c1,rfl,_,_⟩:=ha.form
 obtain⟨A2,c2,rfl,_,_⟩:=hc.form
 obtain⟨A3,c3,rfl,_,_⟩:=hm.form
 obtain⟨wA,hwA⟩:∃wA,wA=(w.alloc (.cells #[.string m.name,.slice A1 m.args.length c1,.int .i64 m.ret.kind,.string m.ret.name,.int .i64 m.locals,.int .i64 m.stack,.slice A2 m.code.length c2,.slice A3 m.maps.length c3] 133)).alloc (.cells #[.string ⟨#[]⟩,.slice none 0 0,.int .i64 0,.string ⟨#[]⟩,.int .i64 0,.int .i64 0,.slice none 0 0,.slice none 0 0] 133):=⟨_,rfl⟩
 have hfA:Fr No w wA:=hwA▸frc
 have B1:=(hwA▸bxc:Bx wA w.heap.size 133 #[.string m.name,.slice A1 m.args.length c1,.int .i64 m.ret.kind,.string m.ret.name,.int .i64 m.locals,.int .i64 m.stack,.slice A2 m.code.length c2,.slice A3 m.maps.length c3])
 have B2:=(hwA▸bxc:Bx wA (w.heap.size+1) 133 #[.string ⟨#[]⟩,.slice none 0 0,.int .i64 0,.string ⟨#[]⟩,.int .i64 0,.int .i64 0,.slice none 0 0,.slice none 0 0])
 have hsA:wA.heap.size=w.heap.size+2:=by rw[hwA];simp
 replace hwA:=Lib.hid hwA
 have p:=B1.c8
 have pl:=B1.lt
 go_enter Tryz.func85,Tryz.ntmps85
 go_wp2_with fail
 rw[<-hwA.out]
 obtain⟨k1,e1,r1,s1⟩:=(ha.k0 hfA).raws
 refine(zzV _ _ k1 wA s1 (by omega) (OneC.of e1 r1 zuz)).mono ?_
 rintro e w1 h
 obtain⟨D1,d1,rfl,hO1,hf1⟩:=h.leaf e1 r1
 clear h s1 r1 p pl
 have B1:=B1.keep hf1
 have B2:=B2.keep hf1
 have p:=B1.c8
 have pl:=B1.lt
 have pf:=B1.frozen
 go_wp2_with fail
 obtain⟨w2,hw2⟩:∃w2,w2=w1.setCell ⟨w.heap.size,1,none⟩ (.slice D1 m.args.length d1):=⟨_,rfl⟩
 rw[<-hw2]
 have hc12:Fr (fun b=>b=w.heap.size) w1 w2:=hw2▸Fr.cell1 _ _ _ _
 have B1:Bx w2 w.heap.size 133 #[.string m.name,.slice D1 m.args.length d1,.int .i64 m.ret.kind,.string m.ret.name,.int .i64 m.locals,.int .i64 m.stack,.slice A2 m.code.length c2,.slice A3 m.maps.length c3]:=hw2▸B1.setc rfl
 have B2:=B2.keepX hc12 (by omega)
 have hl2:=B1.lt
 have hs1:=hf1.size
 have hO1:=hO1.keep (zzG _) hc12 (fun b (hb:wA.heap.size≤b) _ e=>by omega)
 have hF2:Fr No w w2:=(hfA.trans0 hf1).trans hc12 (fun b hb e=>by omega)
 have hsA2:=Nat.le_trans hf1.size hc12.size
 clear hw2 p pl pf hc12
 have hO1:=hO1.wid (Y':=fun b=>wA.heap.size≤b∧b<w2.heap.size) (fun b h1 h2=>⟨h1,h2⟩)
 obtain⟨k2,e2,r2,s2⟩:=(hc.k0 hF2).raws
 refine(zz3 _ _ k2 w2 s2 (by omega) (OneC.of e2 r2 zrO)).mono ?_
 rintro e w3 h
 obtain⟨D2,d2,rfl,hO2,hf3⟩:=h.leaf e2 r2
 clear h s2 r2
 have B1:=B1.keep hf3
 have B2:=B2.keep hf3
 have hO1:=hO1.keep (zzG _) hf3 (fun _ _ _ h=>h)
 have p:=B1.c8
 have pl:=B1.lt
 have pf:=B1.frozen
 go_wp2_with fail
 obtain⟨w4,hw4⟩:∃w4,w4=w3.setCell ⟨w.heap.size,6,none⟩ (.slice D2 m.code.length d2):=⟨_,rfl⟩
 rw[<-hw4]
 have hc34:Fr (fun b=>b=w.heap.size) w3 w4:=hw4▸Fr.cell1 _ _ _ _
 have B1:Bx w4 w.heap.size 133 #[.string m.name,.slice D1 m.args.length d1,.int .i64 m.ret.kind,.string m.ret.name,.int .i64 m.locals,.int .i64 m.stack,.slice D2 m.code.length d2,.slice A3 m.maps.length c3]:=hw4▸B1.setc rfl
 have B2:=B2.keepX hc34 (by omega)
 have hs2:=hF2.size
 have hO1:=hO1.keep (zzG _) hc34 (fun b hb _ e=>by have:=hb.1;omega)
 have hO2:=hO2.keep (zzG _) hc34 (fun b (hb:w2.heap.size≤b) _ e=>by omega)
 have hF4:Fr No w w4:=(hF2.trans0 hf3).trans hc34 (fun b hb e=>by omega)
 have hlw24:=Nat.le_trans hf3.size hc34.size
 clear hw4 p pl pf hc34
 have hO2:=hO2.wid (Y':=fun b=>w2.heap.size≤b∧b<w4.heap.size) (fun b h1 h2=>⟨h1,h2⟩)
 obtain⟨k3,e3,r3,s3⟩:=(hm.keep (R':=MapC (fun b=>w.heap.size≤b) w4) hF4 zN (fun _ _ _ h=>h.keep hF4 zN)).raws
 refine(zAc _ _ k3 w4 s3 (by omega) (OneC.of e3 r3 (fun cs x h u hu=>by obtain⟨vl,vs,rfl,h1,h2⟩:=h;obtain⟨_,_,rfl,_⟩:=h1.form;obtain⟨_,_,rfl,_⟩:=h2.form;simp only[List.mem_cons,List.not_mem_nil,or_false] at hu;rcases hu with rfl|rfl|rfl<;>rfl))).mono ?_
 rintro e w5 ⟨D3,d3,rfl,hrow,hq,hf5⟩
 rw[e3] at hrow hq ⊢
 have hlt4:=B1.lt
 have hltB:=B2.lt
 have B1:=B1.keep hf5
 have B2:=B2.keep hf5
 have hs4:=hF4.size
 have hs5:=hf5.size
 have p:=B1.c8
 have pl:=B1.lt
 have pf:=B1.frozen
 go_wp2_with fail
 obtain⟨w6,hw6⟩:∃w6,w6=w5.setCell ⟨w.heap.size,7,none⟩ (.slice D3 m.maps.length d3):=⟨_,rfl⟩
 rw[<-hw6]
 have hc56:Fr (fun b=>b=w.heap.size) w5 w6:=hw6▸Fr.cell1 _ _ _ _
 have B1:Bx w6 w.heap.size 133 #[.string m.name,.slice D1 m.args.length d1,.int .i64 m.ret.kind,.string m.ret.name,.int .i64 m.locals,.int .i64 m.stack,.slice D2 m.code.length d2,.slice D3 m.maps.length d3]:=hw6▸B1.setc rfl
 have B2:=B2.keepX hc56 (by omega)
 have hlA:=hfA.size
 have hO1:=((hO1.keep (zzG _) hf5 (fun _ _ _ h=>h)).keep (zzG _) hc56 (fun b hb _ e=>by have:=hb.1;omega))
 have hO2:=((hO2.keep (zzG _) hf5 (fun _ _ _ h=>h)).keep (zzG _) hc56 (fun b hb _ e=>by have:=hb.1;omega))
 have hF6:Fr No w w6:=(hF4.trans0 hf5).trans hc56 (fun b hb e=>by omega)
 have hT0:CpP 165 3 MapO (zAl w.heap.size) w4.heap.size 0 k3 (fun _ _=>False) w6 (.slice D3 m.maps.length d3) m.maps:=
  .zero e3 (hrow.keep hc56 (fun q h e=>by have:=hq q h;omega)) hq (fun i h1 h2=>((r3 i h1 h2).keep hf5 zN).keep hc56 (fun b e=>by show w.heap.size≤b;omega))
 have hsz6:w4.heap.size≤w6.heap.size:=Nat.le_trans hf5.size hc56.size
 clear hw6 p pl pf hc56 hrow hf5 r3 s3 e3 hm ha hc hF4 hF2 hf3 hf1
 go_loopw [20] (fun i wr=>∃(j:Nat) (rows:List (Raw 3)) (Ys:Nat->Nat->Prop),j≤m.maps.length∧i=.int .i64 j∧Hid (CpP 165 3 MapO (zAl w.heap.size) w4.heap.size j rows Ys wr (.slice D3 m.maps.length d3) m.maps)∧Hid (Fr (fun b=>zcP (.slice D3 m.maps.length d3)=some b) w6 wr)) (fun i _=>m.maps.length-(intOf i).toNat)
 case atStart=>exact⟨0,k3,_,Nat.zero_le _,rfl,Lib.hid hT0,Lib.hid (Fr.refl _ _)⟩
 case round=>
  obtain⟨j,rows,Ys,hj,rfl,hT,hG⟩:=hrel
  by_cases hlt:j<m.maps.length
  ·have hT':=hT.out
   obtain⟨g,c9,he,hfz,hg,hgq,hlo,hcell⟩:=hT'.at_ (by omega)
   cases he
   have hjr:j<rows.length:=by rw[hT'.len];exact hlt
   obtain⟨vl,vs,er,hl,hs⟩:=hT'.rest j hjr hlt (Nat.le_refl _)
   obtain⟨Al,cl,rfl,_,_⟩:=hl.form
   obtain⟨As,cs',rfl,_,_⟩:=hs.form
   have c0:=hcell j hjr 0 (by omega)
   have c1:=hcell j hjr 1 (by omega)
   have c2:=hcell j hjr 2 (by omega)
   rw[er] at c0 c1 c2
   simp only[lz3,lz4,Nat.add_zero] at c0 c1 c2
   have B1r:=B1.keepX hG.out (fun e=>by rw[hgq] at e;cases e;omega)
   have hmem:=hl4 _ (List.getElem_mem hlt)
   have hrow0:=Lib.hid hT'.row
   have hC0:=Lib.hid (fun W X (hf:Fr X wr W) (hX:∀b,X b->w.heap.size≤b)=>zAm hf hX)
   obtain⟨w7,hw7⟩:∃w7,w7=wr.alloc (.cells #[.int .i64 m.maps[j].at_,.slice Al m.maps[j].locals.length cl,.slice As m.maps[j].stack.length cs'] 165):=⟨_,rfl⟩
   have hf7:Fr No wr w7:=hw7▸frc
   have B4:Bx w7 wr.heap.size 165 #[.int .i64 m.maps[j].at_,.slice Al m.maps[j].locals.length cl,.slice As m.maps[j].stack.length cs']:=hw7▸bxc
   have hL7:=hl.k0 hf7
   have hS7:=hs.k0 hf7
   have hrow7:=Lib.hid (hT'.row.keep0 hf7)
   clear hT0 hT' hcell hl hs
   go_wp2_with fail
   rw[<-hw7]
   have B1r:=B1r.keep hf7
   have d1:=hf7.keep0 c1
   have d2:=hf7.keep0 c2
   have fz7:=fun o=>(hf7.frozen (b:=g) o hg).trans (hfz o)
   have hg7:g<w7.heap.size:=Nat.lt_of_lt_of_le hg hf7.size
   replace hw7:=Lib.hid hw7
   generalize hx:m.maps[j]=x at *
   replace hx:=Lib.hid hx
   clear c0 c1 c2 hfz
   obtain⟨k4,e4,r4,s4⟩:=hL7.raws
   have HL:=fun W (hW:Fr No w7 W)=>zzY _ _ k4 W (s4.rawKeep hW zN) (by omega) (OneC.of e4 r4 zAj)
   replace e4:=Lib.hid e4
   have K1:=B1r.r8
   have K4:=B4.r3
   refine zn0 8 33 [mV (.pointer (some ⟨w.heap.size,7,none⟩)),mV (.slice (some ⟨g,0,none⟩) m.maps.length d3),mV (.int .i64 j),mV (.pointer (some ⟨wr.heap.size,1,none⟩)),mV (.slice Al x.locals.length cl),mC (cloT x.locals w7.heap.size) (zAk _ _),mV (.pointer (some ⟨g,j * 3,none⟩)),mV (.pointer (some ⟨g,j * 3+1,none⟩))] (by kernel_rfl) (by kernel_rfl) (by simp) ?_ ?_
   ·refine hc4 ?_ ?_ ?_ ?_ <| hc4 ?_ ?_ ?_ ?_ <| hopZ
    all_goals (intro a' W hW hoff hdep;have hbs:=hW.size;have H1:=hoff 1 rfl;have H3:=hoff 3 rfl;have H4:=hoff 4 rfl;refine nE rfl ?_)
    ·simp[execOp,Act.eval,H1,go_sem,zaa];exact fr1 rfl
    ·have D25:_=_:=hdep 0 25 rfl;clear hoff hdep;simp[execOp,Act.eval,go_sem,zaa, *];exact fr1 rfl
    ·simp[execOp,Act.eval,H3,go_sem,zaa];exact fr1 rfl
    ·simp[execOp,Act.eval,H4,go_sem,zaa];exact fr1 rfl
    ·have D28:_=_:=hdep 3 28 rfl;clear hoff hdep;simp[execOp,Act.eval,go_sem,zaa, *];exact fr1 rfl
    ·have D29:_=_:=hdep 4 29 rfl;simp[Act.eval,D29,go_sem,zaa];exact(HL _ hW).mono fun e w' h=>(let ⟨A,c,h1,h2,h3⟩:=h.leaf e4.out r4;⟨_,h1,h3,A,c,rfl,h2.wid (fun b hb _=>Nat.le_trans hbs hb)⟩)
    ·have D26:_=_:=hdep 1 26 rfl;have D27:_=_:=hdep 2 27 rfl;clear hoff hdep;simp[execOp,Act.eval,go_sem,zaa, *];exact fr1 rfl
    ·have D31:_=_:=hdep 6 31 rfl;simp[execOp,Act.eval,D31,go_sem,zaa];exact fr1 rfl
   intro vs WR hWR hv hne
   obtain⟨A7R5,c7R5,e5,hO7R5⟩:=hv 5 (by omega)
   simp only[lz6,List.drop_zero,znM,znK,znR,Nat.zero_add,Nat.reduceAdd,e5]
   simp only[Act.put,lz0,lz1,lz2]
   clear e5 hv
   clear HL K1 K4 hne r4 s4 e4 hL7
   have e1:=hWR.keep0 d1
   have e2:=hWR.keep0 d2
   have fzR:=fun o=>(hWR.frozen (b:=g) o hg7).trans (fz7 o)
   have hgR:g<WR.heap.size:=Nat.lt_of_lt_of_le hg7 hWR.size
   go_wp2_with fail
   obtain⟨w8,hw8⟩:∃w8,w8=WR.setCell ⟨g,j * 3+1,none⟩ (.slice A7R5 x.locals.length c7R5):=⟨_,rfl⟩
   rw[<-hw8]
   have hc8:Fr (fun b=>b=g) WR w8:=hw8▸Fr.cell1 _ _ _ _
   have hrow8:=Lib.hid (hw8▸(hrow7.out.keep0 hWR).setAt (i:=j) (j:=1) (by rw[hT.out.len]) hjr (by omega) (.slice A7R5 x.locals.length c7R5))
   have hF8:Fr (fun b=>b=g) wr w8:=(Fr.of0 (hf7.trans0 hWR)).same hc8
   obtain⟨fz8,hg8,q8⟩:=hrow8.out.rowAt (by rw[List.length_set,hT.out.len]) (i:=j) (by rw[List.length_set];exact hjr)
   have e1:=q8 1 (by omega)
   have e2:=q8 2 (by omega)
   simp only[List.getElem_set_self,Raw.put,er,lz1,lz2,lz3,lz4] at e1 e2
   have B1r:=(B1r.keep hWR).keepX hc8 (by omega)
   have B4:=(B4.keep hWR).keepX hc8 (by omega)
   have hO8:=(hO7R5.keep (zzG _) hc8 (fun b hb _ e=>by omega)).wid (Y':=fun b=>w7.heap.size≤b∧b<w8.heap.size) (fun b h1 h2=>⟨h1,h2⟩)
   have hS8:=(hS7.k0 hWR).keep (R':=TagC) hc8 (fun b e=>by show w.heap.size≤b;omega) (fun _ _ _ h=>h)
   replace hw8:=Lib.hid hw8
   clear fzR hgR q8 hO7R5 hS7 hrow7 hWR hc8 fz7 hg7 d1 d2
   obtain⟨k4,e4,r4,s4⟩:=hS8.raws
   have HL:=fun W (hW:Fr No w8 W)=>zzY _ _ k4 W (s4.rawKeep hW zN) (by omega) (OneC.of e4 r4 zAj)
   replace e4:=Lib.hid e4
   have K1:=B1r.r8
   have K4:=B4.r3
   refine zn0 8 41 [mV (.pointer (some ⟨w.heap.size,7,none⟩)),mV (.slice (some ⟨g,0,none⟩) m.maps.length d3),mV (.int .i64 j),mV (.pointer (some ⟨wr.heap.size,2,none⟩)),mV (.slice As x.stack.length cs'),mC (cloT x.stack w8.heap.size) (zAk _ _),mV (.pointer (some ⟨g,j * 3,none⟩)),mV (.pointer (some ⟨g,j * 3+2,none⟩))] (by kernel_rfl) (by kernel_rfl) (by simp) ?_ ?_
   ·refine hc4 ?_ ?_ ?_ ?_ <| hc4 ?_ ?_ ?_ ?_ <| hopZ
    all_goals (intro a' W hW hoff hdep;have hbs:=hW.size;have H1:=hoff 1 rfl;have H3:=hoff 3 rfl;have H4:=hoff 4 rfl;refine nE rfl ?_)
    ·simp[execOp,Act.eval,H1,go_sem,zaa];exact fr1 rfl
    ·have D33:_=_:=hdep 0 33 rfl;clear hoff hdep;simp[execOp,Act.eval,go_sem,zaa, *];exact fr1 rfl
    ·simp[execOp,Act.eval,H3,go_sem,zaa];exact fr1 rfl
    ·simp[execOp,Act.eval,H4,go_sem,zaa];exact fr1 rfl
    ·have D36:_=_:=hdep 3 36 rfl;clear hoff hdep;simp[execOp,Act.eval,go_sem,zaa, *];exact fr1 rfl
    ·have D37:_=_:=hdep 4 37 rfl;simp[Act.eval,D37,go_sem,zaa];exact(HL _ hW).mono fun e w' h=>(let ⟨A,c,h1,h2,h3⟩:=h.leaf e4.out r4;⟨_,h1,h3,A,c,rfl,h2.wid (fun b hb _=>Nat.le_trans hbs hb)⟩)
    ·have D34:_=_:=hdep 1 34 rfl;have D35:_=_:=hdep 2 35 rfl;clear hoff hdep;simp[execOp,Act.eval,go_sem,zaa, *];exact fr1 rfl
    ·have D39:_=_:=hdep 6 39 rfl;simp[execOp,Act.eval,D39,go_sem,zaa];exact fr1 rfl
   intro vs WS hWS hv hne
   obtain⟨A8R5,c8R5,e5,hO9R5⟩:=hv 5 (by omega)
   simp only[lz6,List.drop_zero,znM,znK,znR,Nat.zero_add,Nat.reduceAdd,e5]
   simp only[Act.put,lz0,lz1,lz2]
   clear e5 hv
   clear HL K1 K4 hne r4 s4 e4
   have e1:=hWS.keep0 e1
   have e2:=hWS.keep0 e2
   have fzS:=fun o=>(hWS.frozen (b:=g) o hg8).trans (fz8 o)
   have hgS:g<WS.heap.size:=Nat.lt_of_lt_of_le hg8 hWS.size
   go_wp2_with fail
   obtain⟨w9,hw9⟩:∃w9,w9=WS.setCell ⟨g,j * 3+2,none⟩ (.slice A8R5 x.stack.length c8R5):=⟨_,rfl⟩
   rw[<-hw9]
   have hc9:Fr (fun b=>b=g) WS w9:=hw9▸Fr.cell1 _ _ _ _
   have hrow9:=Lib.hid (hw9▸(hrow8.out.keep0 hWS).setAt (i:=j) (j:=2) (by rw[List.length_set,hT.out.len]) (by rw[List.length_set];exact hjr) (by omega) (.slice A8R5 x.stack.length c8R5))
   simp only[List.set_set,List.getElem_set_self] at hrow9
   have hs8:=hF8.size
   have hs9:=hWS.size
   have hs90:=hc9.size
   have hs7:=hf7.size
   have hF9:Fr (fun b=>b=g) wr w9:=(hF8.trans0 hWS).same hc9
   have hFv:Fr (fun b=>zcP (.slice (some ⟨g,0,none⟩) m.maps.length d3)=some b) wr w9:=hF9.mono (fun b _ e=>e▸hgq)
   have hO8:=hO8.keep (zzG _) ((Fr.of0 hWS).same hc9) (fun b hb _ e=>by omega)
   have hO9:=(hO9R5.keep (zzG _) hc9 (fun b hb _ e=>by omega)).wid (Y':=fun b=>w8.heap.size≤b∧b<w9.heap.size) (fun b h1 h2=>⟨h1,h2⟩)
   have hN:=Lib.hid (CpP.next (Z:=fun b=>wr.heap.size≤b∧b<w9.heap.size) zzH (zAm hF9 (fun b e=>by omega)) hT.out hlt (Nat.le_trans hsz6 hG.out.size) hrow9.out hFv (by
    rw[hx.out]
    refine⟨.slice A7R5 x.locals.length c7R5,.slice A8R5 x.stack.length c8R5,fun b=>w7.heap.size≤b∧b<w8.heap.size,fun b=>w8.heap.size≤b∧b<w9.heap.size,?_,fun b hb=>⟨⟨by omega,by omega⟩,fun h=>by omega⟩,fun b hb=>⟨by omega,by omega⟩,hO8,hO9⟩
    simp only[Raw.put,er,lz1,lz2]) (fun b hb=>hb))
   have hG9:=Lib.hid (hG.out.same hFv)
   clear hrow9 hrow8 hO8 hO9 hO9R5 hT hG hFv hF9 hF8 er
   go_roundw
   case rel=>exact⟨j+1,_,_,by omega,by go_num,hN,hG9⟩
   case measure=>simp[intOf];omega
  ·obtain rfl:j=m.maps.length:=by omega
   have hD:=Lib.hid hT.out.done
   have hlo:=hT.out.own
   have hFw:Fr No w wr:=hF6.trans hG.out (fun b hb e=>by have:=hlo b e;omega)
   have B1:=B1.keepX hG.out (fun e=>by have:=hlo _ e;omega)
   have B2:=B2.keepX hG.out (fun e=>by have:=hlo _ e;have:=B1.lt;omega)
   have hO1:=hO1.keep (zzG _) hG.out (fun b hb hb2 e=>by have:=hlo _ e;have:=hb.2;omega)
   have hO2:=hO2.keep (zzG _) hG.out (fun b hb hb2 e=>by have:=hlo _ e;have:=hb.2;omega)
   have p:=B1.c8
   have pl:=B1.lt
   have hOU:MthO wr (fun b=>wA.heap.size≤b) [.string m.name,.slice D1 m.args.length d1,.int .i64 m.ret.kind,.string m.ret.name,.int .i64 m.locals,.int .i64 m.stack,.slice D2 m.code.length d2,.slice D3 m.maps.length d3] m:=
    ⟨_,_,_,_,_,fun b=>w4.heap.size≤b,rfl,z1,z2,fun b hb=>⟨hb.1,fun h=>by have:=h.1;have:=hb.2;omega,fun h=>by have:=hb.2;omega⟩,fun b hb=>⟨Nat.le_trans hsA2 hb.1,fun h=>by have:=hb.2;omega⟩,fun b hb=>by show wA.heap.size≤b;omega,hO1,hO2,⟨_,_,hD.out⟩⟩
   replace hOU:=Lib.hid hOU
   clear hD hlo hO1 hO2 hT hG hT0
   go_upto_region 10 with (fail)
   go_step
   go_step
   go_step
   go_step
   refine zco rfl 133 (.tmp 2) (.tmp 42) rfl 8 (by kernel_rfl) (w.heap.size+1) 133 _ [.string m.name,.slice D1 m.args.length d1,.int .i64 m.ret.kind,.string m.ret.name,.int .i64 m.locals,.int .i64 m.stack,.slice D2 m.code.length d2,.slice D3 m.maps.length d3] rfl rfl B2 rfl rfl (by simp[Value.oneCell']) ?_
   intro wF BF hfF
   have hfin:=Lib.hid (show zAn m w (.returned (.agg _)) wF from⟨_,rfl,zzL _ _ _ _ _ (zzI _ _ _ _ _ _ hOU.out hfF (fun b hb _ e=>by omega)) (fun b hb _=>by omega),hFw.trans hfF (fun b hb e=>by omega)⟩)
   have f:=BF.c8
   have fl:=BF.lt
   simp only[Act.put]
   clear B1 B2 hOU hFw hF6 p pl BF hfF
   go_wp2_with fail
   refine bodyPost_ret (v:=.agg #[.string m.name,.slice D1 m.args.length d1,.int .i64 m.ret.kind,.string m.ret.name,.int .i64 m.locals,.int .i64 m.stack,.slice D2 m.code.length d2,.slice D3 m.maps.length d3]) (by simp[results,Tryz.results85,go_sem, *]) rfl ?_
   exact hfin.out
end Go.Proofs.YtpghfhjhjlmljaaGreat
