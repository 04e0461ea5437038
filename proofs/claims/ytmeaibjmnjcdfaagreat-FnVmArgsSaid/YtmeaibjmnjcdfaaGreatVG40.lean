/- The reference's l8Inner: a line that belongs to a class. -/
import Derived.Test.YtmeaibjmnjcdfaaGreatVG31
set_option maxHeartbeats 4000000
set_option maxRecDepth 100000
namespace Go.Proofs.YtmeaibjmnjcdfaaGreat
open Go.RowKit
def ztL (lo:Nat->Prop) (q:Cls×Bool) (w:World) (e:Ending) (w':World):Prop:=∃cs:List Value,e=.returned (.tuple #[.agg cs.toArray,.bool q.2])∧ClsC lo w' cs q.1∧Fr No w w'
def sFld:Bs:=[102,105,101,108,100]
def sMth:Bs:=[109,101,116,104,111,100]
def sFrm:Bs:=[102,114,97,109,101]
theorem ztM {ws:List Str} (h:∀x∈ws,x.size≤maxLen):(zqm ws).1.name.size≤maxLen∧(zqm ws).1.kind.name.size≤maxLen:=by
 unfold zqm
 split
 ·split
  ·exact⟨h _ (by simp),zqg (h _ (by simp))⟩
  ·exact⟨Nat.zero_le _,Nat.zero_le _⟩
 ·exact⟨Nat.zero_le _,Nat.zero_le _⟩
theorem ztN (lo:Nat->Prop) (c:Cls) (ccs:List Value) (X:Nat->Prop) (v:Value) (x0:Str) (xs:List Str) (line:Str) (w:World) (hlo:∀b,lo b->b<w.heap.size) (hc:ClsC lo w ccs c) (hws:Sl X w 1 StrC v (x0 :: xs)) (hx:Str.l x0=sFld) (hl:c.fields.length≤1000):
  Calls Tryz.prog 144 #[.agg ccs.toArray,v,.string line] w (ztL lo (⟨c.name,c.super,c.fields ++ [(zqm (x0 :: xs)).1],c.methods⟩,(zqm (x0 :: xs)).2&&c.methods.isEmpty) w):=by
 obtain⟨vf,vm,rfl,hz1,hz2,hf,hm⟩:=hc
 obtain⟨Af,cf,rfl,hcf,hlf⟩:=hf.form
 obtain⟨Am,cm,rfl,hcm,hlm⟩:=hm.form
 obtain⟨A,cap,rfl,hcap,hlen⟩:=hws.form
 obtain⟨bk,off,rfl,_,c0,z0⟩:=hws.strs (k:=0) (by simp)
 simp only[Nat.add_zero,List.getElem_cons_zero] at c0 z0
 have hbl:=lt_of_cell c0
 unfold maxLen at hlen hlf hlm
 have hwl:(x0 :: xs).length=xs.length+1:=rfl
 obtain⟨wA,hwA⟩:∃wA,wA=((w.alloc (.cells #[.string c.name,.string c.super,.slice Af c.fields.length cf,.slice Am c.methods.length cm] 55)).alloc (.cells #[.string ⟨#[]⟩,.string ⟨#[]⟩,.slice none 0 0,.slice none 0 0] 55)):=⟨_,rfl⟩
 have hfA:Fr No w wA:=hwA▸frc
 have B0:=(hwA▸bxc:Bx wA w.heap.size 55 #[.string c.name,.string c.super,.slice Af c.fields.length cf,.slice Am c.methods.length cm])
 have B1:=(hwA▸bxc:Bx wA (w.heap.size+1) 55 #[.string ⟨#[]⟩,.string ⟨#[]⟩,.slice none 0 0,.slice none 0 0])
 have g1:(x0.toList == [102,105,101,108,100])=true:=by rw[eq_l,hx];rfl
 have HF:=fun W (hW:Fr No w W)=>zra X _ (x0 :: xs) W (hws.k0 hW)
 obtain⟨ks,hkl,hkR,hks⟩:=hf.raw
 have hone:=zrJ zrP hkl hkR
 have hqz:(zqm (x0 :: xs)).1.name.size≤maxLen∧(zqm (x0 :: xs)).1.kind.name.size≤maxLen:=ztM (fun y hy=>by
  obtain⟨k,hk,rfl⟩:=List.getElem_of_mem hy
  obtain⟨_,_,_,_,_,h⟩:=hws.strs hk
  exact h)
 generalize zqm (x0 :: xs)=q at *
 obtain⟨⟨fn,⟨fk,fkn⟩⟩,ok⟩:=q
 dsimp only at *
 have hel:FldC [.string fn,.int .i64 fk,.string fkn] ⟨fn,⟨fk,fkn⟩⟩:=⟨rfl,hqz.1,hqz.2⟩
 replace hkR:=Lib.hid hkR
 clear hws hx
 go_enter Tryz.func144,Tryz.ntmps144
 go_wp2_with (go_at_call 192;rw[<-hwA];refine(HF wA hfA).mono ?_;rintro e w1 ⟨rfl,hf1⟩)
 obtain⟨wB,hwB⟩:∃wB,wB=w1.alloc (.cells #[.string fn,.int .i64 fk,.string fkn] 227):=⟨_,rfl⟩
 rw[<-hwB]
 have hfB:Fr No w1 wB:=hwB▸frc
 have BE:Bx wB w1.heap.size 227 #[.string fn,.int .i64 fk,.string fkn]:=hwB▸Bx.new w1 _ _
 have hwb:Fr No w wB:=(hfA.trans0 hf1).trans0 hfB
 have C0:=(B0.keep hf1).keep hfB
 have C1:=(B1.keep hf1).keep hfB
 have K0:=C0.r4
 have K1:=BE.r3
 have hksW:=Lib.hid (fun W (hW:Fr No wB W)=>hks.rawKeep (hwb.trans0 hW) zN)
 have hk9:ks.length≤100000:=by omega
 replace hwA:=Lib.hid hwA
 replace hwB:=Lib.hid hwB
 refine zn0 6 37 [mS 227 (#[]) 0 wB.heap.size,mV (.pointer (some ⟨w.heap.size,2,none⟩)),mV (.slice Af c.fields.length cf),mC (cpP 227 ks wB.heap.size) (zrG _ _ _),mV (.agg #[.string fn,.int .i64 fk,.string fkn]),mS 227 (#[.string fn,.int .i64 fk,.string fkn]) 1 wB.heap.size] (by kernel_rfl) (by kernel_rfl) (by simp) ?_ ?_
 ·refine hc4 ?_ ?_ ?_ ?_ <| hopC ?_ <| hopC ?_ <| hopZ
  all_goals (intro a' W hW hoff hdep;have hbs:=hW.size;have H3:=hoff 3 rfl;have H9:=hoff 9 rfl;refine nE rfl ?_)
  ·simp[execOp,go_sem,zaa];exact⟨(Fr.refl _ _).alloc _,⟨_,rfl,Bx.new_ rfl,hbs⟩,Nat.le_refl _⟩
  ·simp[execOp,Act.eval,H3,go_sem,zaa];exact fr1 rfl
  ·have D32:_=_:=hdep 1 32 rfl;clear hoff hdep;simp[execOp,Act.eval,go_sem,zaa, *];exact fr1 rfl
  ·obtain⟨b,D31,hb,hl⟩:(slB 227 #[] 0 wB.heap.size) _ W:=hdep 0 31 rfl
   have D33:_=_:=hdep 2 33 rfl
   exact zrH zr0 rfl (hksW.out W hW) hk9 hone D31 D33 hbs
  ·exact gx0
  ·have D35:_=_:=hdep 4 35 rfl;simp at D35;simp[execOp,Act.eval,D35,go_sem,zaa];exact⟨(Fr.refl _ _).alloc _,⟨_,rfl,Bx.new_ rfl,hbs⟩,Nat.le_refl _⟩
 intro vs WR hWR hv hne
 obtain⟨b0,e0,hb0,hl0⟩:=hv 0 (by omega)
 obtain⟨A0R3,c0R3,e3,hA0R3,hq0R3⟩:=hv 3 (by omega)
 obtain⟨b5,e5,hb5,hl5⟩:=hv 5 (by omega)
 simp only[lz6,List.drop_zero,znM,znQ,znK,znR,Nat.zero_add,Nat.reduceAdd,e0,e3,e5]
 simp only[Act.put,lz0,lz1,lz2]
 clear e0 e3 e5 hv
 have hlC1:=C1.lt
 have hq9:∀q,zcP (.slice A0R3 ks.length c0R3)=some q->w.heap.size+1<q:=fun q hq=>by have:=hq0R3 q hq;omega
 refine zqH zr0 rfl _ _ rfl (.slice A0R3 ks.length c0R3) ks.length ks rfl rfl hA0R3 (by omega) b5 227 [.string fn,.int .i64 fk,.string fkn] rfl hb5 rfl (by simp[Value.oneCell']) ?_
 intro g c2 w5 hrow5 hcap5 hgf hor
 have hg:w.heap.size+1<g:=by
  rcases hor with h9|h9
  ·exact hq9 _ h9
  ·have:=hWR.size;omega
 have D0:=(C0.keep hWR).keepX hgf (fun e=>by have:=hq9 _ e;omega)
 have D1:=(C1.keep hWR).keepX hgf (fun e=>by have:=hq9 _ e;omega)
 have hw5:Fr No w w5:=(hwb.trans0 hWR).trans hgf (fun b hb e=>by have:=hq9 _ e;omega)
 obtain⟨d0,d1,d2,d3⟩:=D0.c4
 obtain⟨f0,f1,f2,f3⟩:=D1.c4
 have dl:=D0.lt
 have fl:=D1.lt
 have df:=fun i=>D0.frozen i
 have ff:=fun i=>D1.frozen i
 have hfin:∀Wf b9,Fr (fun x=>x=w.heap.size∨x=w.heap.size+1) w5 Wf->ztL lo (⟨c.name,c.super,c.fields ++ [⟨fn,⟨fk,fkn⟩⟩],c.methods⟩,b9) w (.returned (.tuple #[.agg #[.string c.name,.string c.super,.slice (some ⟨g,0,none⟩) (ks.length+1) c2,.slice Am c.methods.length cm],.bool b9])) Wf:=fun Wf b9 hW=>by
  have hwf:Fr No w Wf:=hw5.trans hW (fun b hb e=>by omega)
  exact⟨[_,_,_,_],rfl,⟨_,_,rfl,hz1,hz2,RRow.sl (RRow.snoc (n:=w.heap.size) rfl hkl (fun i h1 h2=>hkR.out i h1 h2) hel (hrow5.keep hW (fun q hq e=>by rw[zcQ,if_neg (by omega)] at hq;cases hq;first|omega|(dsimp only at e;omega))) (by omega) hcap5) (fun q hq e=>by have:=hlo q e;omega),hm.keep hwf zN (fun _ _ _ h=>h.keep hwf zN)⟩,hwf⟩
 replace hfin:=Lib.hid hfin
 clear hrow5 hgf hor hA0R3 hb5 D0 D1 K0 K1 hks hf hm C0 C1 B0 B1 BE
 simp only[Act.put,lz0,lz1,lz2]
 cases ok
 ·go_wp2
  refine bodyPost_ret (v:=.tuple #[.agg #[.string c.name,.string c.super,.slice (some ⟨g,0,none⟩) (ks.length+1) c2,.slice Am c.methods.length cm],.bool false]) (by simp[results,Tryz.results144,go_sem, *]) rfl ?_
  refine hfin.out _ _ ?_
  repeat(first|(with_reducible exact Fr.refl _ _)|(with_reducible refine Fr.setCellXO (by first|exact .inl rfl|exact .inr rfl) ?_ _))
 ·by_cases hme:c.methods=[]
  ·have gm:((c.methods.length:Int) == 0)=true:=by rw[hme];rfl
   have ge:Hid ((true&&c.methods.isEmpty)=true):=by show _=_;rw[hme];rfl
   replace hme:=Lib.hid hme
   go_wp2
   refine bodyPost_ret (v:=.tuple #[.agg #[.string c.name,.string c.super,.slice (some ⟨g,0,none⟩) (ks.length+1) c2,.slice Am c.methods.length cm],.bool true]) (by simp[results,Tryz.results144,go_sem, *]) rfl ?_
   rw[ge.out]
   refine hfin.out _ _ ?_
   repeat(first|(with_reducible exact Fr.refl _ _)|(with_reducible refine Fr.setCellXO (by first|exact .inl rfl|exact .inr rfl) ?_ _))
  ·have hpos:=List.length_pos_iff.2 hme
   have gm:((c.methods.length:Int) == 0)=false:=beq_eq_false_iff_ne.2 (by omega)
   have ge:Hid ((true&&c.methods.isEmpty)=false):=by show _=_;simpa using hme
   clear hme
   go_wp2
   refine bodyPost_ret (v:=.tuple #[.agg #[.string c.name,.string c.super,.slice (some ⟨g,0,none⟩) (ks.length+1) c2,.slice Am c.methods.length cm],.bool false]) (by simp[results,Tryz.results144,go_sem, *]) rfl ?_
   rw[ge.out]
   refine hfin.out _ _ ?_
   repeat(first|(with_reducible exact Fr.refl _ _)|(with_reducible refine Fr.setCellXO (by first|exact .inl rfl|exact .inr rfl) ?_ _))
theorem ztO (lo:Nat->Prop) (c:Cls) (ccs:List Value) (X:Nat->Prop) (v:Value) (x0:Str) (xs:List Str) (line:Str) (w:World) (hlo:∀b,lo b->b<w.heap.size) (hc:ClsC lo w ccs c) (hws:Sl X w 1 StrC v (x0 :: xs)) (hx:Str.l x0=sMth) (hl:c.methods.length≤1000):
  Calls Tryz.prog 144 #[.agg ccs.toArray,v,.string line] w (ztL lo (⟨c.name,c.super,c.fields,c.methods ++ [(zqo (x0 :: xs)).1]⟩,(zqo (x0 :: xs)).2) w):=by
 obtain⟨vf,vm,rfl,hz1,hz2,hf,hm⟩:=hc
 obtain⟨Af,cf,rfl,hcf,hlf⟩:=hf.form
 obtain⟨Am,cm,rfl,hcm,hlm⟩:=hm.form
 obtain⟨A,cap,rfl,hcap,hlen⟩:=hws.form
 obtain⟨bk,off,rfl,_,c0,z0⟩:=hws.strs (k:=0) (by simp)
 simp only[Nat.add_zero,List.getElem_cons_zero] at c0 z0
 have hbl:=lt_of_cell c0
 unfold maxLen at hlen hlf hlm
 have hwl:(x0 :: xs).length=xs.length+1:=rfl
 obtain⟨wA,hwA⟩:∃wA,wA=((w.alloc (.cells #[.string c.name,.string c.super,.slice Af c.fields.length cf,.slice Am c.methods.length cm] 55)).alloc (.cells #[.string ⟨#[]⟩,.string ⟨#[]⟩,.slice none 0 0,.slice none 0 0] 55)):=⟨_,rfl⟩
 have hfA:Fr No w wA:=hwA▸frc
 have B0:=(hwA▸bxc:Bx wA w.heap.size 55 #[.string c.name,.string c.super,.slice Af c.fields.length cf,.slice Am c.methods.length cm])
 have B1:=(hwA▸bxc:Bx wA (w.heap.size+1) 55 #[.string ⟨#[]⟩,.string ⟨#[]⟩,.slice none 0 0,.slice none 0 0])
 have g1:(x0.toList == [102,105,101,108,100])=false:=by rw[eq_l,hx];rfl
 have g2:(x0.toList == [109,101,116,104,111,100])=true:=by rw[eq_l,hx];rfl
 have HF:=fun W (hW:Fr No w W)=>zrm X _ (x0 :: xs) W (hws.k0 hW)
 obtain⟨ks,hkl,hkR,hks⟩:=hm.raw
 have hone:=zrJ zrL hkl hkR
 generalize zqo (x0 :: xs)=q at *
 obtain⟨m9,ok⟩:=q
 dsimp only at *
 replace hkR:=Lib.hid hkR
 clear hws hx
 go_enter Tryz.func144,Tryz.ntmps144
 go_wp2_with (go_at_call 193;rw[<-hwA];refine(HF wA hfA).mono ?_;rintro e w1 ⟨mcs,rfl,hel,hf1⟩;refine Hid.out ?_)
 refine Lib.hid ?_
 have hA2:=Lib.hid (show w.heap.size+1<wA.heap.size from B1.lt)
 have hel9:=hel
 obtain⟨va9,vc9,vx9,rfl,_,_,ha9,hc9,hx9⟩:=hel
 obtain⟨Aa9,ca9,rfl,_,_⟩:=ha9.form
 obtain⟨Ac9,cc9,rfl,_,_⟩:=hc9.form
 obtain⟨Ax9,cx9,rfl,_,_⟩:=hx9.form
 go_wp2_with fail
 obtain⟨wB,hwB⟩:∃wB,wB=w1.alloc (.cells #[.string m9.name,.slice Aa9 m9.args.length ca9,.int .i64 m9.ret.kind,.string m9.ret.name,.int .i64 m9.locals,.int .i64 m9.stack,.slice Ac9 m9.code.length cc9,.slice Ax9 m9.maps.length cx9] 125):=⟨_,rfl⟩
 rw[<-hwB]
 have hfB:Fr No w1 wB:=hwB▸frc
 have BE:Bx wB w1.heap.size 125 #[.string m9.name,.slice Aa9 m9.args.length ca9,.int .i64 m9.ret.kind,.string m9.ret.name,.int .i64 m9.locals,.int .i64 m9.stack,.slice Ac9 m9.code.length cc9,.slice Ax9 m9.maps.length cx9]:=hwB▸Bx.new w1 _ _
 have hwb:Fr No w wB:=(hfA.trans0 hf1).trans0 hfB
 have C0:=(B0.keep hf1).keep hfB
 have C1:=(B1.keep hf1).keep hfB
 have K0:=C0.r4
 have K1:=BE.r8
 have hksW:=Lib.hid (fun W (hW:Fr No wB W)=>hks.rawKeep (hwb.trans0 hW) zN)
 have hk9:ks.length≤100000:=by omega
 replace hwA:=Lib.hid hwA
 replace hwB:=Lib.hid hwB
 refine zn0 6 58 [mS 125 (#[]) 0 wB.heap.size,mV (.pointer (some ⟨w.heap.size,3,none⟩)),mV (.slice Am c.methods.length cm),mC (cpP 125 ks wB.heap.size) (zrG _ _ _),mV (.agg #[.string m9.name,.slice Aa9 m9.args.length ca9,.int .i64 m9.ret.kind,.string m9.ret.name,.int .i64 m9.locals,.int .i64 m9.stack,.slice Ac9 m9.code.length cc9,.slice Ax9 m9.maps.length cx9]),mS 125 (#[.string m9.name,.slice Aa9 m9.args.length ca9,.int .i64 m9.ret.kind,.string m9.ret.name,.int .i64 m9.locals,.int .i64 m9.stack,.slice Ac9 m9.code.length cc9,.slice Ax9 m9.maps.length cx9]) 1 wB.heap.size] (by kernel_rfl) (by kernel_rfl) (by simp) ?_ ?_
 ·refine hc4 ?_ ?_ ?_ ?_ <| hopC ?_ <| hopC ?_ <| hopZ
  all_goals (intro a' W hW hoff hdep;have hbs:=hW.size;have H3:=hoff 3 rfl;have H11:=hoff 11 rfl;refine nE rfl ?_)
  ·simp[execOp,go_sem,zaa];exact⟨(Fr.refl _ _).alloc _,⟨_,rfl,Bx.new_ rfl,hbs⟩,Nat.le_refl _⟩
  ·simp[execOp,Act.eval,H3,go_sem,zaa];exact fr1 rfl
  ·have D53:_=_:=hdep 1 53 rfl;clear hoff hdep;simp[execOp,Act.eval,go_sem,zaa, *];exact fr1 rfl
  ·obtain⟨b,D52,hb,hl⟩:(slB 125 #[] 0 wB.heap.size) _ W:=hdep 0 52 rfl
   have D54:_=_:=hdep 2 54 rfl
   exact zrH zrU rfl (hksW.out W hW) hk9 hone D52 D54 hbs
  ·exact gx0
  ·have D56:_=_:=hdep 4 56 rfl;simp at D56;simp[execOp,Act.eval,D56,go_sem,zaa];exact⟨(Fr.refl _ _).alloc _,⟨_,rfl,Bx.new_ rfl,hbs⟩,Nat.le_refl _⟩
 intro vs WR hWR hv hne
 obtain⟨b0,e0,hb0,hl0⟩:=hv 0 (by omega)
 obtain⟨A0R3,c0R3,e3,hA0R3,hq0R3⟩:=hv 3 (by omega)
 obtain⟨b5,e5,hb5,hl5⟩:=hv 5 (by omega)
 simp only[lz6,List.drop_zero,znM,znQ,znK,znR,Nat.zero_add,Nat.reduceAdd,e0,e3,e5]
 simp only[Act.put,lz0,lz1,lz2]
 clear e0 e3 e5 hv
 have hlC1:=C1.lt
 have hq9:∀q,zcP (.slice A0R3 ks.length c0R3)=some q->w.heap.size+1<q:=fun q hq=>by have:=hq0R3 q hq;omega
 refine zqH zrU rfl _ _ rfl (.slice A0R3 ks.length c0R3) ks.length ks rfl rfl hA0R3 (by omega) b5 125 [.string m9.name,.slice Aa9 m9.args.length ca9,.int .i64 m9.ret.kind,.string m9.ret.name,.int .i64 m9.locals,.int .i64 m9.stack,.slice Ac9 m9.code.length cc9,.slice Ax9 m9.maps.length cx9] rfl hb5 rfl (by simp[Value.oneCell']) ?_
 intro g c2 w5 hrow5 hcap5 hgf hor
 have hg:w.heap.size+1<g:=by
  rcases hor with h9|h9
  ·exact hq9 _ h9
  ·have:=hWR.size;omega
 have D0:=(C0.keep hWR).keepX hgf (fun e=>by have:=hq9 _ e;omega)
 have D1:=(C1.keep hWR).keepX hgf (fun e=>by have:=hq9 _ e;omega)
 have hw5:Fr No w w5:=(hwb.trans0 hWR).trans hgf (fun b hb e=>by have:=hq9 _ e;omega)
 obtain⟨d0,d1,d2,d3⟩:=D0.c4
 obtain⟨f0,f1,f2,f3⟩:=D1.c4
 have dl:=D0.lt
 have fl:=D1.lt
 have df:=fun i=>D0.frozen i
 have ff:=fun i=>D1.frozen i
 have hfin:∀Wf b9,Fr (fun x=>x=w.heap.size∨x=w.heap.size+1) w5 Wf->ztL lo (⟨c.name,c.super,c.fields,c.methods ++ [m9]⟩,b9) w (.returned (.tuple #[.agg #[.string c.name,.string c.super,.slice Af c.fields.length cf,.slice (some ⟨g,0,none⟩) (ks.length+1) c2],.bool b9])) Wf:=fun Wf b9 hW=>by
  have hwf:Fr No w Wf:=hw5.trans hW (fun b hb e=>by omega)
  have hwf1:Fr (fun x=>x=w.heap.size∨x=w.heap.size+1) w1 Wf:=Fr.trans (Fr.of0 (Fr.trans (hfB.trans0 hWR) hgf (fun b hb e=>by have:=hq0R3 _ e;have:=hfB.size;omega))) hW (fun b hb e=>e)
  exact⟨[_,_,_,_],rfl,⟨_,_,rfl,hz1,hz2,hf.k0 hwf,RRow.sl (RRow.snoc (n:=w.heap.size) rfl hkl (fun i h1 h2=>(hkR.out i h1 h2).keep hwf zN) ((hel9.keep hwf1 (fun b e=>by have:=hA2.out;omega)).weaken (fun b h=>by have:=hlo b h;have:=hA2.out;omega)) (hrow5.keep hW (fun q hq e=>by rw[zcQ,if_neg (by omega)] at hq;cases hq;first|omega|(dsimp only at e;omega))) (by omega) hcap5) (fun q hq e=>by have:=hlo q e;omega)⟩,hwf⟩
 replace hfin:=Lib.hid hfin
 clear hrow5 hgf hor hA0R3 hb5 D0 D1 K0 K1 hks hf hm C0 C1 B0 B1 BE
 simp only[Act.put,lz0,lz1,lz2]
 go_wp2
 refine bodyPost_ret (v:=.tuple #[.agg #[.string c.name,.string c.super,.slice Af c.fields.length cf,.slice (some ⟨g,0,none⟩) (ks.length+1) c2],.bool ok]) (by simp[results,Tryz.results144,go_sem, *]) rfl ?_
 refine hfin.out _ _ ?_
 repeat(first|(with_reducible exact Fr.refl _ _)|(with_reducible refine Fr.setCellXO (by first|exact .inl rfl|exact .inr rfl) ?_ _))
end Go.Proofs.YtmeaibjmnjcdfaaGreat
