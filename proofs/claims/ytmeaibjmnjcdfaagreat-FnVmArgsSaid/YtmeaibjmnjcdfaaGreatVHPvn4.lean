/- The program's own machine: a new thing. -/
import Derived.Test.YtmeaibjmnjcdfaaGreatVHPvn3
import Derived.WalkLawsBesides
import Derived.Laws.EntriesVeiled
set_option maxHeartbeats 4000000
set_option maxRecDepth 100000
namespace Go.Proofs.YtmeaibjmnjcdfaaGreat
open Go.RowKit
theorem zwE {w:World} {base sz n:Nat} {e:TypeId} {v:Value} {xs:List Value} (h:w.ownsRow base e sz v n xs):RowV w e sz v n xs∧∀q,zcP v=some q->base≤q:=by
 refine⟨.inl ⟨h.1,h.2.imp id (fun⟨g,cap,cur,h1,h2,h3⟩=>⟨g,cap,cur,h1,Nat.zero_le _,h3⟩)⟩,fun q hq=>?_⟩
 rcases h.2 with ⟨rfl,rfl⟩ | ⟨g,cap,cur,rfl,h2,_⟩
 ·cases hq
 ·rw[zcQ] at hq
  split at hq
  ·cases hq
  ·cases hq;exact h2
abbrev tLnk:TypeId:=199
def layC (K:McP) (n:Nat) (wA:World) (j:Nat) (W:World):Prop:=Fr (fun x=>x=K.bl) wA W∧Lg W K.l K.bl (n+j) K.p
def layV (base:Nat) (L:List LFld):Value->World->Prop:=fun v W=>∃A c,v=.slice A L.length c∧RowV W tLnk 5 (.slice A L.length c) L.length (L.flatMap zj3)∧∀q,zcP (.slice A L.length c)=some q->base≤q
theorem layV.mono {base:Nat} {L:List LFld}:MonP (layV base L):=fun _ _ _ ⟨A,c,h1,h2,h3⟩ hf=>⟨A,c,h1,h2.keep0 hf,h3⟩
theorem layV.stab {base:Nat} {L:List LFld} {bl:Nat} (hb:bl<base) {v:Value} {W W':World} (h:layV base L v W) (hs:Fr (fun x=>x=bl) W W'):layV base L v W':=
 let ⟨A,c,h1,h2,h3⟩:=h;⟨A,c,h1,h2.keep hs (fun q hq e=>by have:=h3 q hq;omega),h3⟩
def zwF (f:LFld):Val:=if f.kind.kind=1 then ⟨1,0⟩ else ⟨3,0⟩
theorem zwG:(Tryz.prog.info? 195).map (fun i=>(i.zero,i.size,i.bytes))=some (some (.agg #[.int .i64 0,.string ⟨#[]⟩,.slice none 0 0]),3,48):=by kernel_rfl
theorem zwH (p:Plan) (r:Ref):zwl p r=(layB p r).map zwF:=rfl
theorem zwI (f:LFld):(zj3 f).length=5:=rfl
def zwJ (K:McP) (n:Nat) (s:St) (m:MLay) (r:Ref) (w:World) (e:Ending) (w':World):Prop:=
 e=.returned (.agg #[.int .i64 2,.int .i64 (s.heap.length:Int)])∧∃m',McS K n ⟨s.status,s.frames,s.heap ++ [⟨r,zwl K.p r⟩],s.outs,s.back⟩ m' w'∧m'.kc=m.kc∧(∀b∈mcB K m',b∈mcB K m∨w.heap.size≤b)∧Fr (K.own m) w w'
theorem zwK (K:McP) (E:McE K) (n:Nat) (s:St) (m:MLay) (w:World) (h:McS K n s m w) (r:Ref) (hr:r.name.size≤maxLen) (wk:(Lit.int .i64 r.keeper).wf=true) (hn:n<990000) (hhl:s.heap.length<100) (hL:(layB K.p r).length≤1000):
  Calls Tryz.prog 55 #[.pointer (some ⟨K.mb,0,none⟩),.agg #[.int .i64 r.keeper,.string r.name]] w (zwJ K (n+1) s m r w):=by
 unfold zwJ
 rw[zwH]
 have hlg:=h.lg
 have hbl:=hlg.lt
 have hbl0:=E.bl_lt
 have hw0:=h.anchor.size
 have hmm:=h.lt (zwt.2 (.inl rfl))
 have hmn:=h.new _ (zwt.2 (.inl rfl))
 have hZ:=Lib.hid (fun b (hb:b∈mcB K m)=>h.lt hb)
 obtain⟨Ah,ch,hvh,hh1,hh2⟩:=h.hrow.form
 replace hvh:=Lib.hid hvh
 replace hh2:=Lib.hid hh2
 have HL:=fun n' W (hW:Lg W K.l K.bl n' K.p) (h9:n'<1000000)=>zkl K.l K.bl n' K.p r W hW hr wk h9
 unfold zkk at HL
 obtain⟨rk,rn⟩:=r
 dsimp only at *
 generalize layB K.p ⟨rk,rn⟩=L at *
 obtain⟨wA,hwA⟩:∃wA,wA=((w.alloc (.cells #[.int .i64 rk,.string rn] 108)).alloc (.cells #[.int .i64 0,.int .i64 0] 32)).alloc (.cells #[.int .i64 rk,.string rn,.slice none 0 0] 195):=⟨_,rfl⟩
 have hfA:Fr No w wA:=hwA▸frc
 have B3:=(hwA▸bxc:Bx wA w.heap.size 108 #[.int .i64 rk,.string rn])
 have B4:=(hwA▸bxc:Bx wA (w.heap.size+1) 32 #[.int .i64 0,.int .i64 0])
 have B5:=(hwA▸bxc:Bx wA (w.heap.size+1+1) 195 #[.int .i64 rk,.string rn,.slice none 0 0])
 have hzA:wA.heap.size=w.heap.size+3:=by rw[hwA];simp
 go_enter Tryz.func55,Tryz.ntmps55
 go_wp2_with fail
 rw[<-hwA]
 have hG:∀j W,layC K n wA j W->Fr (fun x=>x=K.bl) wA W:=fun _ _ h=>h.1
 have hGs:∀W,Fr (fun x=>x=K.bl) wA W->wA.heap.size≤W.heap.size:=fun _ h=>h.size
 have KMA:∀W,Fr (fun x=>x=K.bl) wA W->W.cell? ⟨K.mb,0,none⟩=some (.pointer (some ⟨K.l,0,none⟩))∧K.mb<W.heap.size:=fun W hW=>by
  have:=(h.box.keep hfA).keepX hW (by omega)
  exact⟨this.cell 0,this.lt⟩
 have K3:∀W,Fr (fun x=>x=K.bl) wA W->W.cell? ⟨w.heap.size,0,none⟩=some (.int .i64 rk)∧W.cell? ⟨w.heap.size,1,none⟩=some (.string rn)∧w.heap.size<W.heap.size:=fun W hW=>by
  have:=B3.keepX hW (by omega)
  exact⟨this.c2.1,this.c2.2,this.lt⟩
 have h0:layC K n wA 0 wA.drew:=⟨(Fr.refl _ wA).drew,(hlg.keep hfA).keep ((Fr.refl No wA).drew)⟩
 replace hwA:=Lib.hid hwA
 refine zpN 1 18 [aV (.pointer (some ⟨K.mb,0,none⟩)),aV (.pointer (some ⟨K.mb,0,none⟩)),aV (.pointer (some ⟨K.mb,0,none⟩)),aV (.pointer (some ⟨K.l,0,none⟩)),aV (.agg #[.int .i64 rk,.string rn]),aW (layV wA.heap.size L) (layV.mono),aV (.int .i64 (L.length:Int)),aV (.int .i64 0)] (layC K n wA) (fun W W'=>Fr (fun x=>x=K.bl) W W') (by kernel_rfl) (by kernel_rfl) (by simp) (fun _ _ _ h hf=>⟨h.1.trans0 hf,h.2.keep hf⟩) (h0) ?_ ?_ ?_
 ·exact fun v W W' hs=>hSA rfl <| hSA rfl <| hSA rfl <| hSA rfl <| hSA rfl <| hopA (fun _ h=>by exact layV.stab (by omega) h hs) <| hSA rfl <| hSA rfl <| zpL
 ·refine hopA ?_ <| hopA ?_ <| hopA ?_ <| hopA ?_ <| hopA ?_ <| hopA ?_ <| hopA ?_ <| hopA ?_ <| zpL
  all_goals (intro _ a' W jc hjc hW0 hoff hdep;have hW:=hG jc _ hW0;have hbs:=hGs _ hW;have H0:=hoff 0 rfl;have H3:=hoff 3 rfl)
  ·simp[execOp,Act.eval,H0,go_sem,zaa];exact fr1 rfl
  ·have D10:_=_:=hdep 0 10 rfl;simp[execOp,Act.eval,D10,go_sem,zaa];exact fr1 rfl
  ·have D11:_=_:=hdep 1 11 rfl;simp[execOp,Act.eval,D11,go_sem,zaa];exact fr1 rfl
  ·have D12:_=_:=hdep 2 12 rfl;clear hoff hdep;simp[execOp,Act.eval,go_sem,zaa, *];exact fr1 rfl
  ·exact gx0
  ·have D13:_=_:=hdep 3 13 rfl;have D14:_=_:=hdep 4 14 rfl;replace hjc:jc<1:=hjc;simp[Act.eval,D13,D14,go_sem,zaa];exact(HL _ W hW0.2 (by omega)).mono (fun e w' h=>by obtain⟨v,h1,h2,h3,h4⟩:=h;obtain⟨q1,q2⟩:=zwE h2;obtain⟨A,c,q3,_,_⟩:=q1.form;subst q3;exact⟨_,h1,⟨hW0.1.trans h3 (fun _ _ h=>h),h4.mono (by omega)⟩,h3,A,c,rfl,q1,fun q hq=>Nat.le_trans hbs (q2 q hq)⟩)
  ·obtain⟨A,c,D15,hLr,hLq⟩:(layV wA.heap.size L) _ W:=hdep 5 15 rfl
   simp[Act.eval,D15,go_sem,zaa]
   exact fr1 rfl
  ·simp[execOp,go_sem,zaa];exact fr1 rfl
 intro vs WR hWR hv
 obtain⟨AR5,cR5,e5,hLrR5,hLqR5⟩:=hv 5 (by decide)
 simp only[zpE,zpI,zpJ,Nat.zero_add,Nat.reduceAdd,e5]
 simp only[Act.put,lz0,lz1,lz2]
 clear e5 hv
 obtain⟨hf1,hl1⟩:=id hWR
 have hWR1:=Lib.hid hWR
 obtain⟨w1,hw1⟩:∃w1,w1=WR:=⟨_,rfl⟩
 rw[<-hw1] at hf1 hl1 hLrR5 ⊢
 have hB41:=B4.keepX hf1 (by omega)
 have hB51:=B5.keepX hf1 (by omega)
 have hM1:McS K (n+1) s m w1:=(h.keep E hfA).lodge E hl1 hf1
 obtain⟨i0,hi0,hz0,hz1,hz2⟩:=info_parts zwd
 replace hi0:=Lib.hid hi0
 replace hz0:=Lib.hid hz0
 replace hz1:=Lib.hid hz1
 replace hz2:=Lib.hid hz2
 have hLr1:=Lib.hid hLrR5
 have hLq:=Lib.hid hLqR5
 replace hM1:=Lib.hid hM1
 replace hB41:=Lib.hid hB41
 have hI0:Hid (∃vf,Bx w1 (w.heap.size+1+1) 195 #[.int .i64 rk,.string rn,vf]∧zv8 w1 vf ((L.take 0).map zwF)∧(∀q,zcP vf=some q->wA.heap.size≤q)∧RowV w1 tLnk 5 (.slice AR5 L.length cR5) L.length (L.flatMap zj3)∧Fr (fun x=>w.heap.size+2≤x) w1 w1):=
  Lib.hid ⟨.slice none 0 0,hB51,RowV.nil _ _ _,(fun q hq=>by cases hq),hLrR5,Fr.refl _ _⟩
 clear hWR hG hGs KMA K3 h0 HL hLrR5 hLqR5 hl1 B3 B4 B5 hlg h
 go_wp2_with fail
 go_loopw [17] (fun i wr=>∃j:Nat,j≤L.length∧i=.int .i64 (j:Int)∧Hid (∃vf,Bx wr (w.heap.size+1+1) 195 #[.int .i64 rk,.string rn,vf]∧zv8 wr vf ((L.take j).map zwF)∧(∀q,zcP vf=some q->wA.heap.size≤q)∧RowV wr tLnk 5 (.slice AR5 L.length cR5) L.length (L.flatMap zj3)∧Fr (fun x=>w.heap.size+2≤x) w1 wr)) (fun i _=>L.length-(intOf i).toNat)
 case atStart=>exact⟨0,Nat.zero_le _,rfl,hI0⟩
 case round=>
  clear hI0
  obtain⟨j,hj,rfl,hI⟩:=hrel
  obtain⟨vf,hB5,hvf,hvq,hLr,hfr⟩:=hI.out
  clear hI
  replace hLq:=hLq.out
  obtain⟨Af,cf,hvv,hcf1,hcf2⟩:=RowV.form hvf
  have htl:((L.take j).map zwF).length=j:=by simp;omega
  rw[htl] at hvv hcf1
  subst hvv
  unfold maxLen at hcf2
  by_cases hlt:j<L.length
  ·obtain⟨gL,cL,curL,heL,qL1,qL2,hbL,_,_,_⟩:=RowV.at_ hLr (by omega)
   simp only[Value.slice.injEq] at heL
   obtain⟨rfl,_,rfl⟩:=heL
   unfold maxLen at qL2
   have hcl:=fun d (hd:d<5)=>(RowV.cell hLr rfl (j:=j * 5+d) (by omega)).trans (zqB zwI L j hlt d hd)
   have l0:wr.cell? ⟨gL,j * 5,none⟩=some (.int .i64 L[j].of_.keeper):=hcl 0 (by decide)
   have l1:wr.cell? ⟨gL,j * 5+1,none⟩=some (.string L[j].of_.name):=hcl 1 (by decide)
   have l2:wr.cell? ⟨gL,j * 5+2,none⟩=some (.int .i64 L[j].at_):=hcl 2 (by decide)
   have l3:wr.cell? ⟨gL,j * 5+3,none⟩=some (.int .i64 L[j].kind.kind):=hcl 3 (by decide)
   have l4:wr.cell? ⟨gL,j * 5+4,none⟩=some (.string L[j].kind.name):=hcl 4 (by decide)
   have ll:=hbL.lt
   clear hcl
   have hadd:IntKind.i64.wrap ((j:Int)+1)=((j+1:Nat):Int):=by rw[IntWalk.i64_in _ (by omega)];simp
   have hfv:zwF L[j]=if L[j].kind.kind=1 then ⟨1,0⟩ else ⟨3,0⟩:=rfl
   generalize hx:L[j]=x at *
   obtain⟨⟨x1,x2⟩,x3,⟨x4,x5⟩⟩:=x
   dsimp only at l0 l1 l2 l3 l4 hfv
   replace hx:=Lib.hid hx
   replace hfv:=Lib.hid hfv
   replace hB5:=Lib.hid hB5
   replace hvf:=Lib.hid hvf
   replace hLr:=Lib.hid hLr
   replace htl:=Lib.hid htl
   replace hadd:=Lib.hid hadd
   by_cases hk:x4=1
   ·subst hk
    go_wp2_with fail
    obtain⟨wB,hwB⟩:∃wB,wB=wr.alloc (.cells #[.int .i64 x1,.string x2,.int .i64 x3,.int .i64 1,.string x5] 199):=⟨_,rfl⟩
    rw[<-hwB]
    have hfB:Fr No wr wB:=hwB▸frc
    replace hwB:=Lib.hid hwB
    replace hB5:=hB5.out
    replace hvf:=hvf.out
    replace hLr:=hLr.out
    replace htl:=htl.out
    replace hadd:=hadd.out
    replace hfv:=hfv.out
    have KB5:=(hB5.keep hfB).r3
    have KF:True:=trivial
    clear l0 l1 l2 l3 l4 ll hbL
    refine zn0 4 29 [mV (.pointer (some ⟨w.heap.size+1+1,2,none⟩)),mV (.slice Af j cf),mV (.agg #[.int .i64 1,.int .i64 0]),mS 32 (#[.int .i64 1,.int .i64 0]) 1 wB.heap.size] (by kernel_rfl) (by kernel_rfl) (by simp) ?_ ?_
    ·refine hc4 ?_ ?_ ?_ ?_ <| hopZ
     all_goals (intro a' W hW hoff hdep;have hbs:=hW.size;have H5:=hoff 5 rfl;refine nE rfl ?_)
     ·simp[execOp,Act.eval,H5,go_sem,zaa];exact fr1 rfl
     ·have D25:_=_:=hdep 0 25 rfl;clear hoff hdep;simp[execOp,Act.eval,go_sem,zaa, *];exact fr1 rfl
     ·simp[go_sem,zaa];exact(zwA 0 _).mono fun e w' h=>⟨_,h.1,h.2,rfl⟩
     ·have D27:_=_:=hdep 2 27 rfl;simp at D27;simp[execOp,Act.eval,D27,go_sem,zaa];exact⟨(Fr.refl _ _).alloc _,⟨_,rfl,Bx.new_ rfl,hbs⟩,Nat.le_refl _⟩
    intro vs WR hWR hv hne
    obtain⟨b3,e3,hb3,hl3⟩:=hv 3 (by omega)
    simp only[lz6,List.drop_zero,znQ,znK,znR,Nat.zero_add,Nat.reduceAdd,e3]
    simp only[Act.put,lz0,lz1,lz2]
    clear e3 hv
    have hfBR:=hfB.trans0 hWR
    have hrowR:RowV WR tVal 2 (.slice Af j cf) j (((L.take j).map zwF).flatMap zv7):=by
     have:=RowV.keep0 hvf hfBR
     rw[htl] at this
     exact this
    have hsrc:=Lib.hid (Bx.news (cs:=zv7 ⟨1,0⟩) hb3)
    have hB5R:=hB5.keep hfBR
    have hLR:=RowV.keep0 hLr hfBR
    have hne:∀q,zcP (.slice Af j cf)=some q->q≠w.heap.size+1+1:=fun q hq=>by have:=hvq q hq;omega
    clear KB5 KF
    go_wp2_with (at_builtin;refine zcS _ rfl _ _ 132 rfl 32 i0 (.agg #[.int .i64 0,.int .i64 0]) 2 16 Tryz.underlying132 hi0.out hz0.out hz1.out hz2.out rfl (by decide) (.slice Af j cf) j (((L.take j).map zwF).flatMap zv7) rfl hrowR ⟨b3,0,none⟩ 1 1 (zv7 ⟨1,0⟩) rfl rfl hsrc.out (by simp[zv7,Value.oneCell']) (by decide) (by unfold maxLen;omega) (by omega) ?_;intro g' cap' w3 hrow hcap hgf hor;have hbx:=hB5R.keepX hgf (fun e=>hne _ e rfl);obtain⟨z0,z1,z2⟩:=hbx.c3;have zf:=(fun i=>hbx.frozen i);have zl:=hbx.lt)
    have hstore:Fr (fun x=>x=w.heap.size+1+1) w3 (w3.setCell ⟨w.heap.size+1+1,2,none⟩ (.slice (some ⟨g',0,none⟩) (j+1) cap')):=Fr.one _ _ _ _
    have hgn:wA.heap.size≤g':=by
     rcases hor with h9|h9
     ·exact hvq _ h9
     ·rw[h9];have:=hfr.size;have:=hfBR.size;have:=hf1.size;omega
    have hqn:zcP (.slice (some ⟨g',0,none⟩) (j+1) cap')=some g':=zqC (by omega)
    refine⟨⟨j+1,by omega,by simp,Lib.hid ⟨.slice (some ⟨g',0,none⟩) (j+1) cap',hbx.setc rfl,?_,fun q hq=>by rw[hqn] at hq;cases hq;exact hgn,?_,?_⟩⟩,by simp[intOf];omega⟩
    ·have e1:(L.take (j+1)).map zwF=(L.take j).map zwF ++ [⟨1,0⟩]:=by rw[List.take_succ_eq_append_getElem hlt,List.map_append,List.map_cons,List.map_nil,hx.out];simp[zwF]
     have hk:=hrow.keep hstore (fun q hq e=>by rw[hqn] at hq;cases hq;omega)
     unfold zv8
     rw[e1,List.flatMap_append]
     have e2:((L.take j).map zwF ++ [(⟨1,0⟩:Val)]).length=j+1:=by simp;omega
     rw[e2]
     simpa using hk
    ·exact(hLR.keep hgf (fun q hq e=>by
      obtain⟨g9,c9,cs9,he9,_,_,hb9,_,_,hq9⟩:=RowV.at_ hLR (by omega)
      rw[hq9] at hq
      cases hq
      exact RowV.ne hrowR hb9 (by decide) e rfl)).keep hstore (fun q hq e=>by have:=hLq q hq;omega)
    ·exact((hfr.trans0 hfBR).trans hgf (fun b hb e=>by have:=hvq b e;omega)).trans hstore (fun b hb e=>by omega)
   ·have hd1:(x4 == 1)=false:=by simp[hk]
    go_wp2_with fail
    obtain⟨wB,hwB⟩:∃wB,wB=wr.alloc (.cells #[.int .i64 x1,.string x2,.int .i64 x3,.int .i64 x4,.string x5] 199):=⟨_,rfl⟩
    rw[<-hwB]
    have hfB:Fr No wr wB:=hwB▸frc
    replace hwB:=Lib.hid hwB
    replace hB5:=hB5.out
    replace hvf:=hvf.out
    replace hLr:=hLr.out
    replace htl:=htl.out
    replace hadd:=hadd.out
    replace hfv:=hfv.out
    have KB5:=(hB5.keep hfB).r3
    have KF:True:=trivial
    clear l0 l1 l2 l3 l4 ll hbL
    refine zn0 4 35 [mV (.pointer (some ⟨w.heap.size+1+1,2,none⟩)),mV (.slice Af j cf),mV (.agg #[.int .i64 3,.int .i64 0]),mS 32 (#[.int .i64 3,.int .i64 0]) 1 wB.heap.size] (by kernel_rfl) (by kernel_rfl) (by simp) ?_ ?_
    ·refine hc4 ?_ ?_ ?_ ?_ <| hopZ
     all_goals (intro a' W hW hoff hdep;have hbs:=hW.size;have H5:=hoff 5 rfl;refine nE rfl ?_)
     ·simp[execOp,Act.eval,H5,go_sem,zaa];exact fr1 rfl
     ·have D31:_=_:=hdep 0 31 rfl;clear hoff hdep;simp[execOp,Act.eval,go_sem,zaa, *];exact fr1 rfl
     ·simp[go_sem,zaa];exact(zwB _).mono fun e w' h=>⟨_,h.1,h.2,rfl⟩
     ·have D33:_=_:=hdep 2 33 rfl;simp at D33;simp[execOp,Act.eval,D33,go_sem,zaa];exact⟨(Fr.refl _ _).alloc _,⟨_,rfl,Bx.new_ rfl,hbs⟩,Nat.le_refl _⟩
    intro vs WR hWR hv hne
    obtain⟨b3,e3,hb3,hl3⟩:=hv 3 (by omega)
    simp only[lz6,List.drop_zero,znQ,znK,znR,Nat.zero_add,Nat.reduceAdd,e3]
    simp only[Act.put,lz0,lz1,lz2]
    clear e3 hv
    have hfBR:=hfB.trans0 hWR
    have hrowR:RowV WR tVal 2 (.slice Af j cf) j (((L.take j).map zwF).flatMap zv7):=by
     have:=RowV.keep0 hvf hfBR
     rw[htl] at this
     exact this
    have hsrc:=Lib.hid (Bx.news (cs:=zv7 ⟨3,0⟩) hb3)
    have hB5R:=hB5.keep hfBR
    have hLR:=RowV.keep0 hLr hfBR
    have hne:∀q,zcP (.slice Af j cf)=some q->q≠w.heap.size+1+1:=fun q hq=>by have:=hvq q hq;omega
    clear KB5 KF
    go_wp2_with (at_builtin;refine zcS _ rfl _ _ 132 rfl 32 i0 (.agg #[.int .i64 0,.int .i64 0]) 2 16 Tryz.underlying132 hi0.out hz0.out hz1.out hz2.out rfl (by decide) (.slice Af j cf) j (((L.take j).map zwF).flatMap zv7) rfl hrowR ⟨b3,0,none⟩ 1 1 (zv7 ⟨3,0⟩) rfl rfl hsrc.out (by simp[zv7,Value.oneCell']) (by decide) (by unfold maxLen;omega) (by omega) ?_;intro g' cap' w3 hrow hcap hgf hor;have hbx:=hB5R.keepX hgf (fun e=>hne _ e rfl);obtain⟨z0,z1,z2⟩:=hbx.c3;have zf:=(fun i=>hbx.frozen i);have zl:=hbx.lt)
    have hstore:Fr (fun x=>x=w.heap.size+1+1) w3 (w3.setCell ⟨w.heap.size+1+1,2,none⟩ (.slice (some ⟨g',0,none⟩) (j+1) cap')):=Fr.one _ _ _ _
    have hgn:wA.heap.size≤g':=by
     rcases hor with h9|h9
     ·exact hvq _ h9
     ·rw[h9];have:=hfr.size;have:=hfBR.size;have:=hf1.size;omega
    have hqn:zcP (.slice (some ⟨g',0,none⟩) (j+1) cap')=some g':=zqC (by omega)
    refine⟨⟨j+1,by omega,by simp,Lib.hid ⟨.slice (some ⟨g',0,none⟩) (j+1) cap',hbx.setc rfl,?_,fun q hq=>by rw[hqn] at hq;cases hq;exact hgn,?_,?_⟩⟩,by simp[intOf];omega⟩
    ·have e1:(L.take (j+1)).map zwF=(L.take j).map zwF ++ [⟨3,0⟩]:=by rw[List.take_succ_eq_append_getElem hlt,List.map_append,List.map_cons,List.map_nil,hx.out];simp[zwF,hk]
     have hk:=hrow.keep hstore (fun q hq e=>by rw[hqn] at hq;cases hq;omega)
     unfold zv8
     rw[e1,List.flatMap_append]
     have e2:((L.take j).map zwF ++ [(⟨3,0⟩:Val)]).length=j+1:=by simp;omega
     rw[e2]
     simpa using hk
    ·exact(hLR.keep hgf (fun q hq e=>by
      obtain⟨g9,c9,cs9,he9,_,_,hb9,_,_,hq9⟩:=RowV.at_ hLR (by omega)
      rw[hq9] at hq
      cases hq
      exact RowV.ne hrowR hb9 (by decide) e rfl)).keep hstore (fun q hq e=>by have:=hLq q hq;omega)
    ·exact((hfr.trans0 hfBR).trans hgf (fun b hb e=>by have:=hvq b e;omega)).trans hstore (fun b hb e=>by omega)
  ·obtain rfl:j=L.length:=by omega
   rw[List.take_length] at hvf htl
   obtain⟨j0,hj0,hk0,hk1,hk2⟩:=info_parts zwG
   replace hj0:=Lib.hid hj0
   replace hk0:=Lib.hid hk0
   replace hk1:=Lib.hid hk1
   replace hk2:=Lib.hid hk2
   replace hh2:=hh2.out
   unfold maxLen at hh2
   have hMr:McS K (n+1) s m wr:=hM1.out.far E hfr (fun b hb=>⟨by omega,fun hx=>by have:=hZ.out b hx;omega⟩)
   have hB4r:=hB41.out.keepX hfr (by omega)
   have KB5:=hB5.r3
   have KM:=hMr.cells
   rw[hvh.out] at KM
   have hsub:IntKind.i64.wrap (s.heap.length:Int)=(s.heap.length:Int):=IntWalk.i64_in _ (by omega)
   replace hvf:=Lib.hid hvf
   replace hLr:=Lib.hid hLr
   replace hB5:=Lib.hid hB5
   replace hB4r:=Lib.hid hB4r
   replace hMr:=Lib.hid hMr
   replace htl:=Lib.hid htl
   go_wp2_with fail
   refine zn0 7 45 [mE (mV (.pointer (some ⟨K.mb,0,none⟩))),mV (.pointer (some ⟨K.mb,0,none⟩)),mV (.pointer (some ⟨K.mb,0,none⟩)),mV (.pointer (some ⟨K.mb,4,none⟩)),mV (.slice Ah s.heap.length ch),mV (.agg #[.int .i64 rk,.string rn,.slice Af L.length cf]),mS 195 (#[.int .i64 rk,.string rn,.slice Af L.length cf]) 1 wr.heap.size] (by kernel_rfl) (by kernel_rfl) (by simp) ?_ ?_
   ·refine hc4 ?_ ?_ ?_ ?_ <| hopC ?_ <| hopC ?_ <| hopC ?_ <| hopZ
    all_goals (intro a' W hW hoff hdep;have hbs:=hW.size;have H0:=hoff 0 rfl;have H5:=hoff 5 rfl)
    ·exact yE rfl ⟨.pointer (some ⟨K.mb,0,none⟩),fun W=>by simp[execOp,Act.eval,H0,go_sem],rfl,rfl⟩
    ·refine nE rfl ?_;simp[execOp,Act.eval,H0,go_sem,zaa];exact fr1 rfl
    ·have D39:_=_:=hdep 1 39 rfl;refine nE rfl ?_;simp[execOp,Act.eval,D39,go_sem,zaa];exact fr1 rfl
    ·have D40:_=_:=hdep 2 40 rfl;refine nE rfl ?_;simp[execOp,Act.eval,D40,go_sem,zaa];exact fr1 rfl
    ·have D41:_=_:=hdep 3 41 rfl;refine nE rfl ?_;clear hoff hdep;simp[execOp,Act.eval,go_sem,zaa, *];exact fr1 rfl
    ·exact nE rfl gx0
    ·have D43:_=_:=hdep 5 43 rfl;simp at D43;refine nE rfl ?_;simp[execOp,Act.eval,D43,go_sem,zaa];exact⟨(Fr.refl _ _).alloc _,⟨_,rfl,Bx.new_ rfl,hbs⟩,Nat.le_refl _⟩
   intro vs WR hWR hv hne
   obtain⟨b6,e6,hb6,hl6⟩:=hv 6 (by omega)
   simp only[lz6,List.drop_zero,znL,znQ,znK,znR,Nat.zero_add,Nat.reduceAdd,e6]
   simp only[Act.put,lz0,lz1,lz2]
   clear e6 hv
   have hR:=hMr.out.keep E hWR
   have hrowR:RowV WR tObj 3 (.slice Ah s.heap.length ch) s.heap.length (m.ko.flatMap objL.C):=by
    have:=hR.hrow
    rw[hvh.out] at this
    exact this
   have hsrc:=Lib.hid (Bx.news (cs:=[Value.int .i64 rk,.string rn,.slice Af L.length cf]) hb6)
   have hboxR:=hR.box
   have hne:∀q,zcP (.slice Ah s.heap.length ch)=some q->q≠K.mb:=fun q hq=>hR.out3.2.2.1 q (by rw[hvh.out];exact zwv hq)
   have hvnR:∀q,zcP (.slice Af L.length cf)=some q->q∉mcB K m∧K.w0.heap.size≤q:=fun q hq=>⟨fun hx=>by have:=hZ.out q hx;have:=hvq q hq;omega,by have:=hvq q hq;omega⟩
   have hfin:=fun {g' cap':Nat} {w3:World} (hrow:RowV w3 tObj 3 (.slice (some ⟨g',0,none⟩) (s.heap.length+1) cap') (s.heap.length+1) (m.ko.flatMap objL.C ++ [.int .i64 rk,.string rn,.slice Af L.length cf])) (hgf:Fr (fun b=>zcP (.slice Ah s.heap.length ch)=some b) WR w3) (hor:zcP (.slice Ah s.heap.length ch)=some g'∨g'=WR.heap.size) (hcap:s.heap.length+1≤cap')=>
    hR.newObj E (r:=⟨rk,rn⟩) hr (zv8.keep0 hvf.out hWR) hvnR hrow (by rw[hvh.out];exact hgf) (by rw[hvh.out];exact hor) hcap
   have hB4R:=hB4r.out.keep hWR
   clear KM KB5
   replace hR:=Lib.hid hR
   go_wp2_with (at_builtin;(refine zcS _ rfl _ _ 30 rfl 195 j0 (.agg #[.int .i64 0,.string ⟨#[]⟩,.slice none 0 0]) 3 48 Tryz.underlying30 hj0.out hk0.out hk1.out hk2.out rfl (by decide) (.slice Ah s.heap.length ch) s.heap.length (m.ko.flatMap objL.C) rfl hrowR ⟨b6,0,none⟩ 1 1 [Value.int .i64 rk,.string rn,.slice Af L.length cf] rfl rfl hsrc.out (by simp[Value.oneCell']) (by decide) (by unfold maxLen;omega) (by omega) ?_);(intro g' cap' w3 hrow hcap hgf hor);have hbx:=hboxR.keepX hgf (fun e=>hne _ e rfl);(obtain⟨m3,hS3,hk3,_,hB3,hf3⟩:=hfin hrow hgf hor hcap);(have hB43:=hB4R.keepX hgf (fun e=>by have:=hZ.out _ (zwt.2 (.inr (.inr (.inr (.inl (zwv (v:=m.vh) (by rw[hvh.out];exact e)))))));omega));have z4:w3.cell? ⟨K.mb,4,none⟩=some m.vh:=hbx.cell 4;have zf:=(fun i=>hbx.frozen i);have zl:=hbx.lt;obtain⟨y0,y1⟩:=hB43.c2;have yf:=(fun i=>hB43.frozen i);have yl:=hB43.lt;(have hne1:¬w.heap.size+1=K.mb:=by omega);replace hf3:=Lib.hid hf3;replace hB3:=Lib.hid hB3;replace hB43:=Lib.hid hB43)
   refine bodyPost_ret (v:=.agg #[.int .i64 2,.int .i64 (s.heap.length:Int)]) (by simp[results,Tryz.results55,go_sem, *]) rfl ?_
   have hB3':∀b∈mcB K m3,b∈mcB K m∨wA.heap.size≤b:=fun b hb=>by
    rcases hB3.out b hb with h9|h9|h9
    ·exact .inl h9
    ·exact .inr (hvq b h9)
    ·exact .inr (by have:=hWR.size;have:=hfr.size;have:=hf1.size;omega)
   have hst:∀(W:World) u v,Fr (fun b=>b=w.heap.size+1) W ((W.setCell ⟨w.heap.size+1,0,none⟩ u).setCell ⟨w.heap.size+1,1,none⟩ v):=fun W u v=>(Fr.one _ _ _ _).same (Fr.one _ _ _ _)
   refine⟨rfl,m3,hS3.far E (hst _ _ _) (fun b hb=>⟨by omega,fun hx=>?_⟩),hk3,fun b hb=>(hB3' b hb).imp id (fun h=>by omega),?_⟩
   ·rcases hB3' b hx with h9|h9
    ·have:=hZ.out b h9;omega
    ·omega
   ·exact(((((hfA.of0 (X:=K.own m)).trans hf1 (fun b _ h=>.inl h)).trans hfr (fun b hb h=>by omega)).trans0 hWR).trans hf3.out (fun b _ h=>.inr h)).trans (hst _ _ _) (fun b hb h=>by omega)
theorem zwL {p:Plan} (hp:lodB p=true) {k:Int} {s:Str} {r:Ref} (h:zwk p k s=some r):r.name=s∧(Lit.int .i64 r.keeper).wf=true∧canB p r=true:=by
 unfold zwk at h
 split at h
 ·rename_i h1
  obtain⟨kc,i,pre,hq,hh,_⟩:=zmH hp h1
  rw[hq] at h
  split at h
  ·rename_i h2
   cases h
   exact⟨rfl,zb3 (by simp) (by have:=hh.2.1;have:=zbM hp;simp;omega),h2⟩
  ·cases h
 ·cases h
theorem some_or {q r:Ref} (h:some q=none∨some q=some r):q=r:=by
 rcases h with h9|h9
 ·cases h9
 ·exact Option.some.inj h9
def TkV (f:Frm):Value->World->Prop:=fun v _=>∃x r,zcD f.stack=some (x,r)∧v=.agg #[.int .i64 x.kind,.string x.name]∧x.name.size≤maxLen
def TkC (K:LkP) (n:Nat) (Z:Nat->Prop) (j:Int) (f:Frm) (vl:Value) (a:World):World->Prop:=fun W=>∃x r,zcD f.stack=some (x,r)∧LkOk K n Z j ⟨f.locals,r⟩ a W∧W.cell? ⟨K.kb,11,none⟩=some vl
theorem TkV.mono (f:Frm):MonP (TkV f):=fun _ _ _ h _=>h
theorem TkC.to {K:LkP} (E:LkE K) {n:Nat} {Z:Nat->Prop} {j:Int} {f:Frm} {vl:Value} {a W W':World} (h:TkC K n Z j f vl a W) (hf:Fr No W W'):TkC K n Z j f vl a W':=let ⟨x,r,h1,h2,h3⟩:=h;⟨x,r,h1,h2.to E hf,hf.keep0 h3⟩
section
variable {K:LkP} {n:Nat} {Z:Nat->Prop} {j:Int} {f:Frm} {vl vs:Value} {w w':World}
end
def errT (c:Int) (v:Value):Prop:=(c=1∧v=.nilIface)∨(c≠1∧∃b,v=.iface 189 (.pointer (some b)))
theorem ErrV.t {c:Int} {v:Value} {w:World} (h:ErrV c v w):errT c v:=by
 rcases h with ⟨h1,h2⟩ | ⟨h1,b,h2,_⟩
 ·exact .inl ⟨h1,h2⟩
 ·exact .inr ⟨h1,_,h2⟩
def GotC (K:LkP) (n:Nat) (a:World):World->Prop:=fun W=>Fr (fun b=>b=K.bl) a W∧Lg W K.l K.bl n K.p
theorem GotC.to {K:LkP} {n:Nat} {a W W':World} (h:GotC K n a W) (hf:Fr No W W'):GotC K n a W':=⟨h.1.trans0 hf,h.2.keep hf⟩
theorem zwu.mono {K:McP} {n n':Nat} {s':St} {m:MLay} {w w':World} {e:Ending} (h:zwu K n s' m w e w') (hn:n≤n'):zwu K n' s' m w e w':=⟨h.1,h.2.mono hn⟩
def StOk (K:McP) (n:Nat) (s':St) (m0:MLay) (w w':World):Prop:=∃m,McS K n s' m w'∧(∀b∈mcB K m,b∈mcB K m0∨w.heap.size≤b)∧Fr (K.own m0) w w'
theorem zwM (K:McP) (E:McE K) (n:Nat) (s':St) (fs:List Cal) (m:MLay) (w:World) (h:McS K n ⟨1,fs,s'.heap,s'.outs,s'.back⟩ m w) (h1:s'.status=1->fs=s'.frames) (h2:s'.status≠1->s'.frames=[]):
  Calls Tryz.prog 57 #[.pointer (some ⟨K.mb,0,none⟩),.int .i64 s'.status] w (fun e w'=>e=.returned (.tuple #[])∧StOk K n s' m w w'):=by
 obtain⟨st,fr,hp,ou,bk⟩:=s'
 dsimp only at *
 have KM:=h.cells w (Fr.refl _ _)
 obtain⟨_,_,z2,z3,_,_,_,_,zf,zl⟩:=KM
 by_cases hc:st=1
 ·subst hc
  have:=h1 rfl
  subst this
  have hfin:StOk K n ⟨1,fs,hp,ou,bk⟩ m w w:=⟨m,h,fun b hb=>.inl hb,Fr.refl _ _⟩
  clear h h1 h2
  go_enter Tryz.func57,Tryz.ntmps57
  go_wp2
  go_end0
  exact⟨rfl,hfin⟩
 ·have:=h2 hc
  subst this
  have hst:Fr (fun b=>b=K.mb) w ((w.setCell ⟨K.mb,2,none⟩ (.int .i64 st)).setCell ⟨K.mb,3,none⟩ (.slice none 0 0)):=(Fr.one _ _ _ _).same (Fr.one _ _ _ _)
  have hb:=(h.box.set_ 2 (.int .i64 st)).set_ 3 (.slice none 0 0)
  have hM:=h.noCalls E hst (st:=st) hb
  have hfin:StOk K n ⟨st,[],hp,ou,bk⟩ m w ((w.setCell ⟨K.mb,2,none⟩ (.int .i64 st)).setCell ⟨K.mb,3,none⟩ (.slice none 0 0)):=⟨_,hM,fun b hb=>by
   rcases zwt.1 hb with hb|hb|hb|hb|hb|hb
   ·exact .inl (zwt.2 (.inl hb))
   ·cases hb
   ·simp at hb
   ·exact .inl (zwt.2 (.inr (.inr (.inr (.inl hb)))))
   ·exact .inl (zwt.2 (.inr (.inr (.inr (.inr (.inl hb))))))
   ·exact .inl (zwt.2 (.inr (.inr (.inr (.inr (.inr hb)))))),hst.mono (fun b _ e=>.inr (by subst e;exact zwt.2 (.inl rfl)))⟩
  clear h h1 h2 hM hb
  go_enter Tryz.func57,Tryz.ntmps57
  go_wp2
  go_end0
  exact⟨rfl,hfin⟩
section
variable {K:McP} {w:World}
theorem Sl.mlate {α:Type} {sz:Nat} {R R':List Value->α->Prop} {v:Value} {xs:List α} (h:Sl (fun b=>b=K.bl) K.w0 sz R v xs) (hsz:0<sz) (hf:Fr K.late K.w0 w) (hR:∀cs x,x∈xs->R cs x->R' cs x):Sl K.late w sz R' v xs:=by
 have h1:=h.oldX (R':=R') hsz hR
 exact(h1.weaken (Y:=K.late) (fun _ h=>h) (fun _ _ _ h=>h)).keep hf (fun _ h=>h) (fun _ _ _ h=>h)
theorem Sl.back {α:Type} {sz:Nat} {R:List Value->α->Prop} {v:Value} {xs:List α} (h:Sl K.late w sz R v xs) (hf:Fr K.late K.w0 w):Sl (fun b=>b=K.bl) K.w0 sz R v xs:=by
 obtain⟨A,cap,rfl,h1,h2,h3⟩:=h
 refine⟨A,cap,rfl,h1,h2,fun h0=>?_⟩
 obtain⟨b,off,rfl,hX,hc⟩:=h3 h0
 have hb:b<K.w0.heap.size:=by
  rcases Nat.lt_or_ge b K.w0.heap.size with h9|h9
  ·exact h9
  ·exact absurd (.inr h9) hX
 refine⟨b,off,rfl,fun e=>hX (.inl e),fun k hk=>?_⟩
 obtain⟨cs,hR,hl,hcs⟩:=hc k hk
 exact⟨cs,hR,hl,fun j hj=>by rw[<-hf.cellX _ hb hX];exact hcs j hj⟩
end
theorem McT.ins {K:McP} {n:Nat} {s:St} {fs:List Cal} {f:Cal} {m:MLay} {ks:List KC} {k:KC} {w:World} (h:McT K n s fs f m ks k w) {a:Nat} (ha:a<(zo3 K.p f.of_).code.length):
  ∃b off c,k.vc=.slice (some ⟨b,off,none⟩) (zo3 K.p f.of_).code.length c∧(zo3 K.p f.of_).code[a].name.size≤maxLen∧(zo3 K.p f.of_).code[a].member.size≤maxLen∧∀W,Fr No w W->W.cell? ⟨b,off+a * 4,none⟩=some (.int .i64 (zo3 K.p f.of_).code[a].op)∧W.cell? ⟨b,off+a * 4+1,none⟩=some (.int .i64 (zo3 K.p f.of_).code[a].a)∧W.cell? ⟨b,off+a * 4+2,none⟩=some (.string (zo3 K.p f.of_).code[a].name)∧W.cell? ⟨b,off+a * 4+3,none⟩=some (.string (zo3 K.p f.of_).code[a].member)∧b<W.heap.size:=by
 have hS:=h.cal.2.2.2.1.mlate (R':=InsC) (by decide) h.st.anchor (fun _ _ _ h=>h)
 obtain⟨A,c,hv,_,_⟩:=hS.form
 rw[hv] at hS
 obtain⟨b,off,rfl,_,i0,i1,i2,i3,z1,z2⟩:=hS.ins ha
 exact⟨b,off,c,hv,z1,z2,fun W hW=>⟨hW.keep0 i0,hW.keep0 i1,hW.keep0 i2,hW.keep0 i3,lt_of_cell (hW.keep0 i0)⟩⟩
def cloW (xs:List Val) (base:Nat):Value->World->Prop:=fun v W=>∃A c,v=.slice A xs.length c∧zv8 W (.slice A xs.length c) xs∧∀q,zcP (.slice A xs.length c)=some q->base≤q
theorem zwN (xs:List Val) (base:Nat):MonP (cloW xs base):=fun _ _ _ ⟨A,c,h1,h2,h3⟩ hf=>⟨A,c,h1,h2.keep0 hf,h3⟩
theorem zwO {xs:List Val} {base:Nat} {w w':World} {e:Ending} (hb:base≤w.heap.size) (h:zwf xs w e w'):∃v,e=.returned v∧Fr No w w'∧cloW xs base v w':=by
 obtain⟨v,rfl,h1,h2,h3⟩:=h
 obtain⟨A,c,rfl,_,_⟩:=h1.form
 exact⟨_,rfl,h3,A,c,rfl,h1,fun q hq=>Nat.le_trans hb (h2 q hq).1⟩
def HpR (base:Nat) (W:World) (v:Value) (xs:List Obj) (ko:List KO):Prop:=
 RowV W tObj 3 v xs.length (ko.flatMap objL.C)∧Els objL W ko xs∧(rowB v ++ ko.flatMap KO.B).Nodup∧(∀b∈rowB v ++ ko.flatMap KO.B,base≤b)
def zwP (base:Nat) (W:World) (v:Value) (xs:List Obj):Prop:=∃ko,HpR base W v xs ko
theorem HpR.keep {X:Nat->Prop} {base:Nat} {W W':World} {v:Value} {xs:List Obj} {ko:List KO} (h:HpR base W v xs ko) (hf:Fr X W W') (hX:∀b,base≤b->b<W.heap.size->¬X b):HpR base W' v xs ko:=by
 obtain⟨h1,h2,h3,h4⟩:=h
 exact⟨h1.keepB hf (fun b hb=>hX b (h4 b (List.mem_append_left _ hb)) (h1.ltB hb)),h2.keep hf (fun b hb=>hX b (h4 b (List.mem_append_right _ hb)) (h2.lt b hb)),h3,h4⟩
theorem HpR.keep0 {base:Nat} {W W':World} {v:Value} {xs:List Obj} {ko:List KO} (h:HpR base W v xs ko) (hf:Fr No W W'):HpR base W' v xs ko:=h.keep hf (fun _ _ _ h=>h)
theorem HpR.lt {base:Nat} {W:World} {v:Value} {xs:List Obj} {ko:List KO} (h:HpR base W v xs ko):∀b∈rowB v ++ ko.flatMap KO.B,b<W.heap.size:=fun b hb=>(List.mem_append.1 hb).elim (fun hb=>h.1.ltB hb) (fun hb=>h.2.1.lt b hb)
def zwQ (xs:List Obj) (w:World) (e:Ending) (w':World):Prop:=∃v,e=.returned v∧zwP w.heap.size w' v xs∧Fr No w w'
theorem HpR.snoc {base:Nat} {W W':World} {v vf:Value} {xs:List Obj} {o:Obj} {g' cap':Nat} {ko:List KO} (h:HpR base W v xs ko) (hn:o.of_.name.size≤maxLen) (hf:zv8 W vf o.fields) (hff:∀q,zcP vf=some q->base≤q)
  (hne:∀q,zcP vf=some q->q∉rowB v ++ ko.flatMap KO.B)
  (hrow:RowV W' tObj 3 (.slice (some ⟨g',0,none⟩) (xs.length+1) cap') (xs.length+1) (ko.flatMap objL.C ++ [.int .i64 o.of_.keeper,.string o.of_.name,vf]))
  (hgf:Fr (fun b=>zcP v=some b) W W') (hor:zcP v=some g'∨g'=W.heap.size) (hcap:xs.length+1≤cap') (hbase:base≤W.heap.size):
  zwP base W' (.slice (some ⟨g',0,none⟩) (xs.length+1) cap') (xs ++ [o]):=by
 obtain⟨h1,h2,h3,h4⟩:=h
 have hqn:rowB (.slice (some ⟨g',0,none⟩) (xs.length+1) cap')=[g']:=by unfold rowB;rw[zqC (by omega)];rfl
 have h3':=List.nodup_append.1 h3
 have hk:∀b∈ko.flatMap KO.B,¬zcP v=some b:=fun b hb e=>h3'.2.2 b (zwv e) b hb rfl
 have hkv:∀b∈rowB vf,¬zcP v=some b:=fun b hb e=>hne b (zvT.1 hb) (List.mem_append_left _ (zwv e))
 have hfl:(ko ++ [(⟨o.of_,vf⟩:KO)]).flatMap KO.B=ko.flatMap KO.B ++ rowB vf:=by rw[List.flatMap_append];simp[KO.B]
 refine⟨ko ++ [⟨o.of_,vf⟩],?_,?_,?_,?_⟩
 ·rw[List.flatMap_append,List.length_append]
  exact hrow
 ·exact(h2.keep hgf hk).snoc ⟨rfl,hn,hf.keepB hgf hkv⟩
 ·rw[hqn,hfl,List.singleton_append,List.nodup_cons,List.nodup_append]
  refine⟨fun hx=>?_,h3'.2.1,zvU _,fun a ha b hb e=>?_⟩
  ·rcases List.mem_append.1 hx with hx|hx
   ·rcases hor with h9|h9
    ·exact hk _ hx h9
    ·have:=h2.lt _ hx;omega
   ·rcases hor with h9|h9
    ·exact hkv _ hx h9
    ·have:=hf.ltB hx;omega
  ·subst e
   exact hne a (zvT.1 hb) (List.mem_append_right _ ha)
 ·rw[hqn,hfl]
  intro b hb
  rcases List.mem_append.1 hb with hb|hb
  ·rw[List.mem_singleton] at hb
   subst hb
   rcases hor with h9|h9
   ·exact h4 _ (List.mem_append_left _ (zwv h9))
   ·omega
  ·rcases List.mem_append.1 hb with hb|hb
   ·exact h4 _ (List.mem_append_right _ hb)
   ·exact hff _ (zvT.1 hb)
theorem zwR (v:Value) (xs:List Obj) (w:World) (h:Sl No w 3 (ObjC No w) v xs) (hl:xs.length≤1000) (hfl:∀o∈xs,o.fields.length≤1000):
  Calls Tryz.prog 105 #[v] w (zwQ xs w):=by
 obtain⟨A,c,rfl,_,_⟩:=h.form
 have hI0:Hid (zwP w.heap.size w (.slice none 0 0) (xs.take 0)∧Fr No w w):=Lib.hid ⟨⟨[],RowV.nil _ _ _,trivial,by simp[rowB,zf2],by simp[rowB,zf2]⟩,Fr.refl _ _⟩
 go_enter Tryz.func105,Tryz.ntmps105
 go_wp2_with fail
 go_loopw [8,3] (fun i v wr=>∃j:Nat,j≤xs.length∧i=.int .i64 j∧Hid (zwP w.heap.size wr v (xs.take j)∧Fr No w wr)) (fun i _ _=>xs.length-(intOf i).toNat)
 case atStart=>exact⟨0,Nat.zero_le _,rfl,hI0⟩
 case round=>
  clear hI0
  obtain⟨j,hj,rfl,hI⟩:=hrel
  obtain⟨hI,hfr⟩:=hI.out
  obtain⟨Av,cv,rfl⟩:∃Av cv,u3=.slice Av j cv:=by
   obtain⟨ko,h1⟩:=hI
   obtain⟨A,c,he,_,_⟩:=h1.1.form
   rw[List.length_take,Nat.min_eq_left hj] at he
   exact⟨A,c,he⟩
  replace hI:=Lib.hid hI
  have hfrh:=Lib.hid hfr
  by_cases hlt:j<xs.length
  ·have hwr:=h.keep (R':=ObjC No wr) hfr (fun _ h=>h) (fun _ _ _ h=>h.keep hfr (fun _ h=>h))
   obtain⟨b,off,Af,cf,rfl,_,o0,o1,o2,z1,hsf,_,_⟩:=hwr.obj hlt
   have hfo:=hfl _ (List.getElem_mem hlt)
   have htk:xs.take (j+1)=xs.take j ++ [xs[j]]:=List.take_succ_eq_append_getElem hlt
   clear hwr
   generalize xs[j]=o at *
   obtain⟨⟨ok,on⟩,fs⟩:=o
   dsimp only at o0 o1 o2 z1 hsf hfo
   replace htk:=Lib.hid htk
   clear hfl hfr
   go_wp2_with fail
   obtain⟨wB,hwB⟩:∃wB,wB=wr.alloc (.cells #[.int .i64 ok,.string on,.slice Af fs.length cf] tObj):=⟨_,rfl⟩
   rw[<-hwB]
   have hfB:Fr No wr wB:=hwB▸frc
   have hBo:=(hwB▸bxc:Bx wB wr.heap.size tObj #[.int .i64 ok,.string on,.slice Af fs.length cf])
   replace hwB:=Lib.hid hwB
   have KB:=hBo.r3
   have HC:=fun W (hW:Fr No wB W)=>zwh No (.slice Af fs.length cf) fs W ((hsf.keep hfB (fun _ h=>h) (fun _ _ _ h=>h)).keep hW (fun _ h=>h) (fun _ _ _ h=>h)) hfo
   have hbs:=fun W (hW:Fr No wB W)=>hW.size
   have hBs:=hfB.size
   clear o0 o1 o2 hBo
   refine zn0 6 18 [mE (mV (.slice Av j cv)),mV (.pointer (some ⟨wr.heap.size,0,none⟩)),mV (.agg #[.int .i64 ok,.string on]),mV (.pointer (some ⟨wr.heap.size,2,none⟩)),mV (.slice Af fs.length cf),mC (cloW fs wB.heap.size) (zwN _ _)] (by kernel_rfl) (by kernel_rfl) (by simp) ?_ ?_
   ·refine hc4 ?_ ?_ ?_ ?_ <| hopC ?_ <| hopC ?_ <| hopZ
    all_goals (intro a' W hW hoff hdep;have hbs:=hW.size;have H3:=hoff 3 rfl;have H5:=hoff 5 rfl)
    ·exact yE rfl ⟨.slice Av j cv,fun W=>by simp[execOp,Act.eval,H3,go_sem],rfl,rfl⟩
    ·refine nE rfl ?_;simp[execOp,Act.eval,H5,go_sem,zaa];exact fr1 rfl
    ·have D13:_=_:=hdep 1 13 rfl;refine nE rfl ?_;clear hoff hdep;simp[execOp,Act.eval,go_sem,zaa, *];exact fr1 rfl
    ·refine nE rfl ?_;simp[execOp,Act.eval,H5,go_sem,zaa];exact fr1 rfl
    ·have D15:_=_:=hdep 3 15 rfl;refine nE rfl ?_;clear hoff hdep;simp[execOp,Act.eval,go_sem,zaa, *];exact fr1 rfl
    ·have D16:_=_:=hdep 4 16 rfl;refine nE rfl ?_;simp[Act.eval,D16,go_sem,zaa];exact(HC _ hW).mono (by intro e w9 h;obtain⟨v,rfl,h3,h4⟩:=zwO hbs h;exact⟨v,rfl,h3,h4⟩)
   intro vs WR hWR hv hne
   obtain⟨AR5,cR5,e5,htR5,hqR5⟩:=hv 5 (by omega)
   simp only[lz6,List.drop_zero,znM,znL,znK,znR,Nat.zero_add,Nat.reduceAdd,e5]
   simp only[Act.put,lz0,lz1,lz2]
   clear e5 hv
   clear hne
   obtain⟨ko,hK⟩:=hI.out
   have hlj:(xs.take j).length=j:=by rw[List.length_take,Nat.min_eq_left hj]
   have hwR:=hWR.size
   have hfwr:=hfrh.out
   have hws:=hfwr.size
   have hfR2:Fr No wB (WR.alloc (.cells #[.int .i64 ok,.string on,.slice AR5 fs.length cR5] tObj)):=hWR.trans0 frc
   have hKR:=(hK.keep0 hfB).keep0 hfR2
   have hvR:zv8 (WR.alloc (.cells #[.int .i64 ok,.string on,.slice AR5 fs.length cR5] tObj)) (.slice AR5 fs.length cR5) fs:=htR5.keep0 frc
   have hrow1:=hKR.1
   rw[hlj] at hrow1
   have hnews:=Lib.hid ((bxc:Bx (WR.alloc (.cells #[.int .i64 ok,.string on,.slice AR5 fs.length cR5] tObj)) WR.heap.size tObj [Value.int .i64 ok,.string on,.slice AR5 fs.length cR5].toArray).news)
   have hltK:=hK.lt
   have hnn:∀q,zcP (.slice AR5 fs.length cR5)=some q->q∉rowB (.slice Av j cv) ++ ko.flatMap KO.B:=fun q hq hx=>by have:=hltK q hx;have:=hqR5 q hq;omega
   have hfin:=fun(g' cap':Nat) (w3:World) (hrow:RowV w3 tObj 3 (.slice (some ⟨g',0,none⟩) (j+1) cap') (j+1) (ko.flatMap objL.C ++ [.int .i64 ok,.string on,.slice AR5 fs.length cR5])) (hgf:Fr (fun b=>zcP (.slice Av j cv)=some b) (WR.alloc (.cells #[.int .i64 ok,.string on,.slice AR5 fs.length cR5] tObj)) w3) (hor:zcP (.slice Av j cv)=some g'∨g'=(WR.alloc (.cells #[.int .i64 ok,.string on,.slice AR5 fs.length cR5] tObj)).heap.size) (hcap:j+1≤cap')=>
    (show zwP w.heap.size w3 (.slice (some ⟨g',0,none⟩) (j+1) cap') (xs.take (j+1))∧Fr No w w3 from⟨by
     have h9:=hKR.snoc (o:=⟨⟨ok,on⟩,fs⟩) (g':=g') (cap':=cap') (W':=w3) z1 hvR (fun q hq=>by have:=hqR5 q hq;omega) hnn (by rw[hlj];exact hrow) hgf hor (by rw[hlj];exact hcap) (by have:=hfR2.size;omega)
     rw[hlj,<-htk.out] at h9
     exact h9,((hfwr.trans0 hfB).trans0 hfR2).trans hgf (fun b hb e=>by have:=hK.2.2.2 b (List.mem_append_left _ (zwv e));omega)⟩)
   obtain⟨j0,hj0,hk0,hk1,hk2⟩:=info_parts zwG
   replace hj0:=Lib.hid hj0
   replace hk0:=Lib.hid hk0
   replace hk1:=Lib.hid hk1
   replace hk2:=Lib.hid hk2
   have hadd:IntKind.i64.wrap ((j:Int)+1)=((j+1:Nat):Int):=by rw[IntWalk.i64_in _ (by omega)];simp
   clear hKR hvR hK hfR2 htR5 hltK KB HC hbs hnn hqR5
   replace hfin:=Lib.hid hfin
   go_wp2_with (at_builtin;(refine zcS _ rfl _ _ 30 rfl 195 j0 (.agg #[.int .i64 0,.string ⟨#[]⟩,.slice none 0 0]) 3 48 Tryz.underlying30 hj0.out hk0.out hk1.out hk2.out rfl (by decide) (.slice Av j cv) j (ko.flatMap objL.C) rfl hrow1 ⟨WR.heap.size,0,none⟩ 1 1 [Value.int .i64 ok,.string on,.slice AR5 fs.length cR5] rfl rfl hnews.out (by simp[Value.oneCell']) (by decide) (by unfold maxLen;omega) (by omega) ?_);(intro g' cap' w3 hrow hcap hgf hor);(have hfi:=Lib.hid (hfin.out _ _ _ hrow hgf hor hcap)))
   exact⟨⟨j+1,by omega,by simp,hfi⟩,by simp[intOf];omega⟩
  ·obtain rfl:j=xs.length:=by omega
   rw[List.take_length] at hI
   go_wp2_with fail
   refine bodyPost_ret (v:=.slice Av xs.length cv) (by simp[results,Tryz.results105,go_sem, *]) rfl ?_
   exact⟨_,rfl,hI.out,hfrh.out⟩
section
variable {w:World}
theorem Bx.r6 {g:Nat} {t:TypeId} {c0 c1 c2 c3 c4 c5:Value} (h:Bx w g t #[c0,c1,c2,c3,c4,c5]):∀W,Fr No w W->W.cell? ⟨g,0,none⟩=some c0∧W.cell? ⟨g,1,none⟩=some c1∧W.cell? ⟨g,2,none⟩=some c2∧W.cell? ⟨g,3,none⟩=some c3∧W.cell? ⟨g,4,none⟩=some c4∧W.cell? ⟨g,5,none⟩=some c5∧(∀j,W.frozen? ⟨g,j,none⟩=false)∧g<W.heap.size:=fun _ hW=>
 ⟨(h.keep hW).cell 0,(h.keep hW).cell 1,(h.keep hW).cell 2,(h.keep hW).cell 3,(h.keep hW).cell 4,(h.keep hW).cell 5,fun j=>(h.keep hW).frozen j,(h.keep hW).lt⟩
end
theorem zcm {p:Plan} (hp:lodB p=true) {k:Int} {s m:Str} (h:(zd4 p k s m).2=1):(zd4 p k s m).1.1.name.size≤maxLen∧∃kq ix a:Nat,Here p (zd4 p k s m).1.1 kq ix∧(zd4 p k s m).1.2=a∧a<(zbG p (zd4 p k s m).1.1).methods.length:=by
 unfold zd4 zd3 at h ⊢
 split at h
 ·rename_i h1
  rw[if_pos h1]
  cases hq:zhp p (zdS p k s m).1 m with
  | none=>rw[hq] at h;cases h
  | some q=>
   obtain⟨q,a⟩:=q
   rw[hq] at h
   dsimp only at h ⊢
   split at h
   ·rename_i h2
    rw[if_pos h2]
    exact zdZ hp hq
   ·cases h
 ·rename_i h1
  exact absurd h h1
theorem zcn {p:Plan} (hp:lodB p=true) {q:Ref×Int} {k i a:Nat} (hh:Here p q.1 k i) (hq:q.2=a) (ha:a<(zbG p q.1).methods.length):zcG p q=(zbG p q.1).methods[a]∧mthB (zcG p q)=true:=by
 have e:zcG p q=(zbG p q.1).methods[a]:=by
  unfold zcG
  rw[hq,show((a:Int)).toNat=a by omega]
  simp[ha]
 exact⟨e,by rw[e];exact zg1 (Here.clsB hp hh) _ (List.getElem_mem ha)⟩
section
variable {K:McP} {n:Nat} {s:St} {m:MLay} {w w1:World}
theorem McS.newCall (h:McS K n s m w) (E:McE K) {k:KC} {f:Cal} (hR:CalR K w k f) (hkn:∀b∈k.B,b∉mcB K m∧K.w0.heap.size≤b) (hnd:k.B.Nodup) {g' cap':Nat}
  (hrow:RowV w1 tPtr 1 (.slice (some ⟨g',0,none⟩) (s.frames.length+1) cap') (s.frames.length+1) (m.kc.flatMap (calL K).C ++ [.pointer (some ⟨k.c,0,none⟩)]))
  (hf:Fr (fun b=>zcP m.vc=some b) w w1) (hor:zcP m.vc=some g'∨g'=w.heap.size) (hcap:s.frames.length+1≤cap'):
  ∃m',McS K n ⟨s.status,s.frames ++ [f],s.heap,s.outs,s.back⟩ m' (w1.setCell ⟨K.mb,3,none⟩ (.slice (some ⟨g',0,none⟩) (s.frames.length+1) cap'))∧(∀b∈mcB K m',b∈mcB K m∨b∈k.B∨w.heap.size≤b) ∧
   Fr (fun b=>b∈mcB K m) w (w1.setCell ⟨K.mb,3,none⟩ (.slice (some ⟨g',0,none⟩) (s.frames.length+1) cap')):=by
 obtain⟨a1,a2,a3,a4,a5⟩:=h.out3
 have hklt:∀b∈k.B,b<w.heap.size:=fun b hb=>(calL K).lt hR hb
 have hst:Fr (fun b=>b=K.mb) w1 (w1.setCell ⟨K.mb,3,none⟩ (.slice (some ⟨g',0,none⟩) (s.frames.length+1) cap')):=Fr.one _ _ _ _
 have hin:∀b,zcP m.vc=some b->b∈mcB K m:=fun b hb=>zwt.2 (.inr (.inl (zwv hb)))
 have hgm:g'≠K.mb:=by
  rcases hor with h9|h9
  ·exact a1 _ (zwv h9)
  ·have:=h.box.lt;omega
 have hvg:∀q∈k.B,q≠g':=fun q hq e=>by
  subst e
  rcases hor with h9|h9
  ·exact(hkn _ hq).1 (hin _ h9)
  ·have:=hklt _ hq;omega
 have hq':rowB (.slice (some ⟨g',0,none⟩) (s.frames.length+1) cap')=[g']:=by unfold rowB;rw[zqC (by omega)];rfl
 have hN:(([K.mb]:List Nat) ++ ((rowB m.vc ++ m.kc.flatMap KC.B) ++ (rowB m.vh ++ (m.ko.flatMap KO.B ++ rowB m.vo)))).Nodup:=by
  have:=h.nodup
  unfold mcB at this
  simpa using this
 have ho:=fun b hb=>zwr hN (b:=b) hb
 have hfw:Fr (fun b=>b=K.mb∨zcP m.vc=some b) w (w1.setCell ⟨K.mb,3,none⟩ (.slice (some ⟨g',0,none⟩) (s.frames.length+1) cap')):=(hf.mono (fun b _ h=>.inr h)).same (hst.mono (fun b _ h=>.inl h))
 have hN2:(rowB m.vc ++ m.kc.flatMap KC.B).Nodup:=by
  rw[List.nodup_append,List.nodup_append] at hN
  exact hN.2.1.1
 have hkc:∀b∈m.kc.flatMap KC.B,¬zcP m.vc=some b:=fun b hb e=>by
  rw[List.nodup_append] at hN2
  exact hN2.2.2 b (zwv e) b hb rfl
 have hfl:(m.kc ++ [k]).flatMap KC.B=m.kc.flatMap KC.B ++ k.B:=by rw[List.flatMap_append];simp
 have hbl:∀b∈mcB K ⟨.slice (some ⟨g',0,none⟩) (s.frames.length+1) cap',m.vh,m.vo,m.kc ++ [k],m.ko⟩,b∈mcB K m∨b∈k.B∨w.heap.size≤b:=fun b hb=>by
  rcases zwt.1 hb with hb|hb|hb|hb|hb|hb
  ·exact .inl (zwt.2 (.inl hb))
  ·dsimp only at hb
   rw[hq',List.mem_singleton] at hb
   subst hb
   exact hor.imp (hin _) (fun e=>.inr (by omega))
  ·dsimp only at hb
   rw[hfl,List.mem_append] at hb
   rcases hb with hb|hb
   ·exact .inl (zwt.2 (.inr (.inr (.inl hb))))
   ·exact .inr (.inl hb)
  ·exact .inl (zwt.2 (.inr (.inr (.inr (.inl hb)))))
  ·exact .inl (zwt.2 (.inr (.inr (.inr (.inr (.inl hb))))))
  ·exact .inl (zwt.2 (.inr (.inr (.inr (.inr (.inr hb))))))
 have hX:∀b,(b=K.mb∨zcP m.vc=some b)->b∈mcB K m:=fun b hb=>by
  rcases hb with rfl|hb
  ·exact zwt.2 (.inl rfl)
  ·exact hin b hb
 refine⟨⟨.slice (some ⟨g',0,none⟩) (s.frames.length+1) cap',m.vh,m.vo,m.kc ++ [k],m.ko⟩,?_,hbl,hfw.mono (fun b _ hb=>hX b hb)⟩
 refine { anchor:=h.ancOf hfw (fun b hb=>h.new b (hX b hb)),lg:=h.lgOf E hfw (fun b hb=>h.new b (hX b hb)),box:=(h.box.keepX hf (fun e=>a1 _ (zwv e) rfl)).setc rfl,crow:=?_,cels:=?_,hrow:=?_,hels:=?_,orow:=?_,nodup:=?_,new:=fun b hb=>?_ }
 ·have:=hrow.keep hst (fun q hq e=>by rw[zqC (by omega)] at hq;cases hq;exact hgm e)
  show RowV _ tPtr 1 _ (s.frames ++ [f]).length ((m.kc ++ [k]).flatMap (calL K).C)
  rw[List.flatMap_append]
  have el:(s.frames ++ [f]).length=s.frames.length+1:=by simp
  rw[el]
  simpa[calL] using this
 ·exact(h.cels.keep hfw (fun q hq hx=>by
   rcases hx with hx|hx
   ·exact a2 q hq hx
   ·exact hkc q hq hx)).snoc ((calL K).keep hR hfw (fun q hq hx=>(hkn q hq).1 (hX q hx)))
 ·exact h.hrow.keepB hfw (fun q hq hx=>by
   rcases hx with hx|hx
   ·exact a3 q hq hx
   ·exact ho q (.inr (List.mem_append_left _ hq)) (List.mem_append_left _ (zwv hx)))
 ·exact h.hels.keep hfw (fun q hq hx=>by
   rcases hx with hx|hx
   ·exact a4 q hq hx
   ·exact ho q (.inr (List.mem_append_right _ (List.mem_append_left _ hq))) (List.mem_append_left _ (zwv hx)))
 ·exact RowV.keepB h.orow hfw (fun q hq hx=>by
   rcases hx with hx|hx
   ·exact a5 q hq hx
   ·exact ho q (.inr (List.mem_append_right _ (List.mem_append_right _ hq))) (List.mem_append_left _ (zwv hx)))
 ·have hlt:∀b,b∈([K.mb]:List Nat)∨b∈rowB m.vh ++ (m.ko.flatMap KO.B ++ rowB m.vo)->b∈mcB K m:=fun b hb=>by
   rcases hb with hb|hb
   ·exact zwt.2 (.inl (List.mem_singleton.1 hb))
   ·simp only[List.mem_append] at hb
    rcases hb with hb|hb|hb
    ·exact zwt.2 (.inr (.inr (.inr (.inl hb))))
    ·exact zwt.2 (.inr (.inr (.inr (.inr (.inl hb)))))
    ·exact zwt.2 (.inr (.inr (.inr (.inr (.inr hb)))))
  have:=zwC (B':=[g'] ++ (m.kc.flatMap KC.B ++ k.B)) hN (fun b hb=>by
   rw[List.mem_append,List.mem_append,List.mem_singleton] at hb
   rcases hb with rfl|hb|hb
   ·rcases hor with h9|h9
    ·exact .inl (List.mem_append_left _ (zwv h9))
    ·exact .inr ⟨fun hx=>by have:=h.lt (hlt _ (.inl hx));omega,fun hx=>by have:=h.lt (hlt _ (.inr hx));omega⟩
   ·exact .inl (List.mem_append_right _ hb)
   ·have h8:=(hkn b hb).1
    exact .inr ⟨fun hx=>h8 (hlt _ (.inl hx)),fun hx=>h8 (hlt _ (.inr hx))⟩) (by
   rw[List.singleton_append,List.nodup_cons,List.nodup_append]
   refine⟨fun hx=>?_,(List.nodup_append.1 hN2).2.1,hnd,fun a ha b hb e=>?_⟩
   ·rcases List.mem_append.1 hx with hx|hx
    ·rcases hor with h9|h9
     ·exact hkc _ hx h9
     ·have:=h.lt (zwt.2 (.inr (.inr (.inl hx))));omega
    ·exact hvg _ hx rfl
   ·subst e
    exact(hkn a hb).1 (zwt.2 (.inr (.inr (.inl ha)))))
  unfold mcB
  rw[hq',hfl]
  simpa using this
 ·rcases hbl b hb with h9|h9|h9
  ·exact h.new b h9
  ·exact(hkn b h9).2
  ·exact Nat.le_trans h.anchor.size h9
end
def zc6 (X:Nat->Prop) (w:World) (l:Nat) (p:Plan):Prop:=
 lodB p=true∧∃A cap bo ba bl,Bx w l 105 #[.slice A p.keepers.length cap,.map (some bo),.map (some ba),.map (some bl)]∧Sl X w 2 (KprC X w) (.slice A p.keepers.length cap) p.keepers∧MapF w bo 15 (ownF p)
theorem LkE.lodge {K:LkP} (E:LkE K) {w:World} (hf:Fr K.late K.w0 w):zc6 K.late w K.l K.p:=by
 obtain⟨n,g,⟨h0,A,cap,bo,ba,k1,k2,k3,k4,k5,k6,k7,k8⟩,_⟩:=E.lg
 have nb:∀b,b<K.w0.heap.size->b≠K.bl->¬K.late b:=fun b h1 h2 h=>by rcases h with h|h<;>omega
 exact⟨h0,A,cap,bo,ba,_,k1.keepX hf (nb _ k1.lt k2),k5.late (by decide) hf (fun _ _ _ h=>(h.oldX.weaken (Y:=K.late) (fun _ h=>h)).keep hf (fun _ h=>h)),k6.keepX hf (nb bo k6.lt k3)⟩
theorem zc7 (X:Nat->Prop) (l:Nat) (p:Plan) (k:Nat) (s:Str) (i:Nat) (w:World) (h:zc6 X w l p) (hk:k<p.keepers.length) (hs:s.size≤maxLen)
  (y:Kpr) (hy:zbC p k=y) (hi:i<y.owns.length) (hix:zbx (zbp s) y.owns=some (i:Int)):
  ∃Af cf Am cm,ClsC X w [.string y.owns[i].name,.string y.owns[i].super,.slice Af y.owns[i].fields.length cf,.slice Am y.owns[i].methods.length cm] y.owns[i] ∧
   ∀W,Fr No w W->Calls Tryz.prog 100 #[.pointer (some ⟨l,0,none⟩),.agg #[.int .i64 k,.string s]] W (Gives (.agg #[.string y.owns[i].name,.string y.owns[i].super,.slice Af y.owns[i].fields.length cf,.slice Am y.owns[i].methods.length cm]) W):=by
 obtain⟨hp,A,cap,bo,ba,bl,hB,hP,hO⟩:=h
 have h3:=zbM hp
 have hkl:=hk
 have hix:ownF p (k:Int) s=some (i:Int):=by rw[za9 hk,hy];exact hix
 have wk:(Lit.int .i64 (k:Int)).wf=true:=zb3 (by omega) (by omega)
 have hlook:=fun W (h:Fr No w W)=>(hO.keep h).look wk hs
 rw[hix] at hlook
 simp only[Option.getD_some] at hlook
 rw[zbN hk] at hy
 obtain⟨b,off,Ao,co,Aa,ca,rfl,hX,c0,c1,hown,_,hoc,hom,_,_⟩:=hP.kpr hk
 rw[hy] at c0 c1 hown hoc hom
 clear hy
 obtain⟨b2,off2,Af,cf,Am,cm,rfl,hX2,d0,d1,d2,d3,hz0,hz1,hcf,hcm,_,_,_,_⟩:=hown.cls hi
 have hR:ClsC X w [.string y.owns[i].name,.string y.owns[i].super,.slice Af y.owns[i].fields.length cf,.slice Am y.owns[i].methods.length cm] y.owns[i]:=⟨_,_,rfl,hz0,hz1,hcf,hcm⟩
 clear hP hown hcf hcm hO hix hp
 unfold maxLen at hom
 generalize y.owns[i]=c at *
 refine⟨Af,cf,Am,cm,hR,fun W hW=>?_⟩
 replace hB:=hB.keep hW
 replace c0:=hW.keep0 c0
 replace c1:=hW.keep0 c1
 replace d0:=hW.keep0 d0
 replace d1:=hW.keep0 d1
 replace d2:=hW.keep0 d2
 replace d3:=hW.keep0 d3
 replace hlook:=fun W' (h:Fr No W W')=>hlook W' (hW.trans0 h)
 clear hR hW
 clear hX hX2 hz0 hz1
 generalize hwW:W=w at *
 clear hwW
 obtain⟨e0,e1,e2,e3⟩:=hB.c4
 have hl:=hB.lt
 have hbl:=lt_of_cell c0
 have hbl2:=lt_of_cell d0
 have hkk:(k:Int).toNat=k:=by omega
 have hii:(i:Int).toNat=i:=by omega
 have hfA:Fr No w ((w.alloc (.cells #[.int .i64 k,.string s] 108)).alloc (.cells #[.string ⟨#[]⟩,.string ⟨#[]⟩,.slice none 0 0,.slice none 0 0] 55)):=((Fr.refl No w).alloc _).alloc _
 have hBA:=hB.keep hfA
 have hKA:Bx ((w.alloc (.cells #[.int .i64 k,.string s] 108)).alloc (.cells #[.string ⟨#[]⟩,.string ⟨#[]⟩,.slice none 0 0,.slice none 0 0] 55)) w.heap.size 108 #[.int .i64 k,.string s]:=(Bx.new_ rfl).alloc _
 have hRA:Bx ((w.alloc (.cells #[.int .i64 k,.string s] 108)).alloc (.cells #[.string ⟨#[]⟩,.string ⟨#[]⟩,.slice none 0 0,.slice none 0 0] 55)) (w.heap.size+1) 55 #[.string ⟨#[]⟩,.string ⟨#[]⟩,.slice none 0 0,.slice none 0 0]:=Bx.new_ (by simp)
 have hlk:=hlook (World.drew ((w.alloc (.cells #[.int .i64 k,.string s] 108)).alloc (.cells #[.string ⟨#[]⟩,.string ⟨#[]⟩,.slice none 0 0,.slice none 0 0] 55))) hfA.drew
 replace c0:=hfA.keep0 c0
 replace c1:=hfA.keep0 c1
 replace d0:=hfA.keep0 d0
 replace d1:=hfA.keep0 d1
 replace d2:=hfA.keep0 d2
 replace d3:=hfA.keep0 d3
 clear hlook hB e0 e1 e2 e3
 go_enter Tryz.func100,Tryz.ntmps100
 go_wp2
 generalize((w.alloc (.cells #[.int .i64 k,.string s] 108)).alloc (.cells #[.string ⟨#[]⟩,.string ⟨#[]⟩,.slice none 0 0,.slice none 0 0] 55))=wA at *
 have hdr:Fr No wA wA.drew:=(Fr.refl No wA).drew
 replace hBA:=hBA.keep hdr
 replace hKA:=hKA.keep hdr
 replace hRA:=hRA.keep hdr
 replace c0:=hdr.keep0 c0
 replace c1:=hdr.keep0 c1
 replace d0:=hdr.keep0 d0
 replace d1:=hdr.keep0 d1
 replace d2:=hdr.keep0 d2
 replace d3:=hdr.keep0 d3
 replace hfA:=hfA.trans0 hdr
 clear hdr
 (refine wp_region_still_tail 17 (by kernel_rfl) (by kernel_rfl) ?_);(change wpStill _ _ (World.drew _) (fun a'=>wpList _ _ _ _ a' (World.drew _)) _ _)
 generalize wA.drew=wD at *
 obtain⟨e0,e1,e2,e3⟩:=hBA.c4
 obtain⟨k0,k1⟩:=hKA.c2
 obtain⟨r0,r1,r2,r3⟩:=hRA.c4
 have fr:=fun j=>hRA.frozen j
 have hl1:=hBA.lt
 have hl2:=hKA.lt
 have hl3:=hRA.lt
 have hb1:=lt_of_cell c0
 have hb2:=lt_of_cell d0
 (simp only[lz7,List.take_zero,lz6,List.drop_zero]);(repeat still_step);(try refine wpStill_nil ?_)
 go_wp2
 refine bodyPost_ret (v:=.agg #[.string c.name,.string c.super,.slice Af c.fields.length cf,.slice Am c.methods.length cm]) (by simp[results,Tryz.results100,go_sem, *]) rfl ?_
 exact .mk0 (by exact frc)
theorem zc8 {X:Nat->Prop} {l:Nat} {p:Plan} {k i:Nat} {s:Str} {w:World} (h:zc6 X w l p) (hh:Here p ⟨k,s⟩ k i) (hs:s.size≤maxLen):
  ∃Af cf Am cm,ClsC X w [.string (zbG p ⟨k,s⟩).name,.string (zbG p ⟨k,s⟩).super,.slice Af (zbG p ⟨k,s⟩).fields.length cf,.slice Am (zbG p ⟨k,s⟩).methods.length cm] (zbG p ⟨k,s⟩) ∧
   ∀W,Fr No w W->Calls Tryz.prog 100 #[.pointer (some ⟨l,0,none⟩),.agg #[.int .i64 k,.string s]] W (Gives (.agg #[.string (zbG p ⟨k,s⟩).name,.string (zbG p ⟨k,s⟩).super,.slice Af (zbG p ⟨k,s⟩).fields.length cf,.slice Am (zbG p ⟨k,s⟩).methods.length cm]) W):=by
 obtain⟨Af,cf,Am,cm,hR,HC⟩:=zc7 X l p k s i w h hh.2.1 hs (zbC p k) rfl hh.2.2.1 hh.2.2.2
 rw[<-hh.cls] at hR HC
 exact⟨Af,cf,Am,cm,hR,HC⟩
theorem zc9 {X:Nat->Prop} {l:Nat} {p:Plan} {k i a:Nat} {s:Str} {w:World} (h:zc6 X w l p) (hh:Here p ⟨k,s⟩ k i) (hs:s.size≤maxLen) (ha:a<(zbG p ⟨k,s⟩).methods.length):
  ∃cs:List Value,MthC X w cs (zbG p ⟨k,s⟩).methods[a]∧∀W,Fr No w W->Calls Tryz.prog 54 #[.pointer (some ⟨l,0,none⟩),.agg #[.int .i64 k,.string s,.int .i64 a]] W (Gives (.agg cs.toArray) W):=by
 obtain⟨Af,cf,Am,cm,hR,HC⟩:=zc8 h hh hs
 generalize zbG p ⟨k,s⟩=c at *
 obtain⟨vf,vm,he,_,_,_,hm⟩:=hR
 simp only[List.cons.injEq,true_and,and_true] at he
 obtain⟨rfl,rfl⟩:=he
 have hml:=hm.at_.2.2.1
 unfold maxLen at hml
 obtain⟨bm,om,Aa,ca,Ac,cc,Ax,cx,rfl,_,d0,d1,d2,d3,d4,d5,d6,d7,hr1,hr2,hr3,hr4,hr5,_,_,_,_,_,_⟩:=hm.mth ha
 refine⟨[.string c.methods[a].name,.slice Aa c.methods[a].args.length ca,.int .i64 c.methods[a].ret.kind,.string c.methods[a].ret.name,.int .i64 c.methods[a].locals,.int .i64 c.methods[a].stack,.slice Ac c.methods[a].code.length cc,.slice Ax c.methods[a].maps.length cx],⟨_,_,_,rfl,hr1,hr2,hr3,hr4,hr5⟩,fun w0 hW=>?_⟩
 clear hm hr1 hr2 hr3 hr4 hr5
 generalize c.methods[a]=m at *
 replace d0:=hW.keep0 d0
 replace d1:=hW.keep0 d1
 replace d2:=hW.keep0 d2
 replace d3:=hW.keep0 d3
 replace d4:=hW.keep0 d4
 replace d5:=hW.keep0 d5
 replace d6:=hW.keep0 d6
 replace d7:=hW.keep0 d7
 replace HC:=fun W' (h:Fr No w0 W')=>HC W' (hW.trans0 h)
 have hk0:(0:Int)≤(a:Int):=by omega
 have hka:(a:Int)<(c.methods.length:Int):=by omega
 clear hW h hh
 obtain⟨wA,hwA⟩:∃wA,wA=((w0.alloc (.cells #[.int .i64 k,.string s,.int .i64 a] 113)).alloc (.cells #[.string ⟨#[]⟩,.slice none 0 0,.int .i64 0,.string ⟨#[]⟩,.int .i64 0,.int .i64 0,.slice none 0 0,.slice none 0 0] 125)):=⟨_,rfl⟩
 have hfA:Fr No w0 wA:=hwA▸frc
 have B0:Bx wA w0.heap.size 113 #[.int .i64 k,.string s,.int .i64 a]:=hwA▸bxc
 have B1:Bx wA (w0.heap.size+1) 125 #[.string ⟨#[]⟩,.slice none 0 0,.int .i64 0,.string ⟨#[]⟩,.int .i64 0,.int .i64 0,.slice none 0 0,.slice none 0 0]:=hwA▸bxc
 replace d0:=cr (hfA.keep0 d0)
 replace d1:=cr (hfA.keep0 d1)
 replace d2:=cr (hfA.keep0 d2)
 replace d3:=cr (hfA.keep0 d3)
 replace d4:=cr (hfA.keep0 d4)
 replace d5:=cr (hfA.keep0 d5)
 replace d6:=cr (hfA.keep0 d6)
 replace d7:=cr (hfA.keep0 d7)
 have K0:=B0.r3
 go_enter Tryz.func54,Tryz.ntmps54
 go_wp2_with fail
 rw[<-hwA]
 clear hwA
 refine zn0 9 14 [mV (.pointer (some ⟨l,0,none⟩)),mV (.pointer (some ⟨w0.heap.size,0,none⟩)),mV (.agg #[.int .i64 k,.string s]),mV (.agg #[.string c.name,.string c.super,.slice Af c.fields.length cf,.slice (some ⟨bm,om,none⟩) c.methods.length cm]),mV (.slice (some ⟨bm,om,none⟩) c.methods.length cm),mV (.pointer (some ⟨w0.heap.size,2,none⟩)),mV (.int .i64 a),mV (.pointer (some ⟨bm,om+a * 8,none⟩)),mV (.agg #[.string m.name,.slice Aa m.args.length ca,.int .i64 m.ret.kind,.string m.ret.name,.int .i64 m.locals,.int .i64 m.stack,.slice Ac m.code.length cc,.slice Ax m.maps.length cx])] (by kernel_rfl) (by kernel_rfl) (by simp) ?_ ?_
 ·refine hc4 ?_ ?_ ?_ ?_ <| hc4 ?_ ?_ ?_ ?_ <| hopC ?_ <| hopZ
  all_goals (intro a' W hW hoff hdep;have hbs:=hW.size;have H0:=hoff 0 rfl;have H3:=hoff 3 rfl;refine nE rfl ?_)
  ·simp[execOp,Act.eval,H0,go_sem,zaa];exact fr1 rfl
  ·simp[execOp,Act.eval,H3,go_sem,zaa];exact fr1 rfl
  ·have D6:_=_:=hdep 1 6 rfl;clear hoff hdep;simp[execOp,Act.eval,go_sem,zaa, *];exact fr1 rfl
  ·have D5:_=_:=hdep 0 5 rfl;have D7:_=_:=hdep 2 7 rfl;simp[Act.eval,D5,D7,go_sem,zaa];exact(HC _ (hfA.trans0 hW)).mono fun e w'' h=>⟨_,h.1,h.2,rfl⟩
  ·have D8:_=_:=hdep 3 8 rfl;simp[execOp,Act.eval,D8,go_sem,zaa];exact fr1 rfl
  ·simp[execOp,Act.eval,H3,go_sem,zaa];exact fr1 rfl
  ·have D10:_=_:=hdep 5 10 rfl;clear hoff hdep;simp[execOp,Act.eval,go_sem,zaa, *];exact fr1 rfl
  ·have D9:_=_:=hdep 4 9 rfl;have D11:_=_:=hdep 6 11 rfl;clear hoff hdep;simp[execOp,Act.eval,go_sem,zaa, *];exact fr1 rfl
  ·have D12:_=_:=hdep 7 12 rfl;clear hoff hdep;simp[execOp,Act.eval,go_sem,zaa, *];exact fr1 rfl
 intro vs WR hWR hv hne
 simp only[lz6,List.drop_zero,znK,znR,Nat.zero_add,Nat.reduceAdd]
 simp only[Act.put,lz0,lz1,lz2]
 clear hv
 have q1:Fr No w0 WR:=hfA.trans0 hWR
 have B1':=B1.keep hWR
 obtain⟨z0,z1,z2,z3,z4,z5,z6,z7⟩:=B1'.c8
 have zf:=fun j=>B1'.frozen j
 have zl:=B1'.lt
 go_wp2
 refine bodyPost_ret (v:=.agg #[.string m.name,.slice Aa m.args.length ca,.int .i64 m.ret.kind,.string m.ret.name,.int .i64 m.locals,.int .i64 m.stack,.slice Ac m.code.length cc,.slice Ax m.maps.length cx]) (by simp[results,Tryz.results54,go_sem, *]) rfl ?_
 exact .mk1 rfl frc
section
variable {K:McP} {w:World}
theorem McE.lodgeX (E:McE K) (hf:Fr K.late K.w0 w):zc6 K.late w K.l K.p:=by
 obtain⟨n,g,⟨h0,A,cap,bo,ba,k1,k2,k3,k4,k5,k6,k7,k8⟩,_⟩:=E
 have nb:∀b,b<K.w0.heap.size->b≠K.bl->¬K.late b:=fun b h1 h2 h=>by rcases h with h|h<;>omega
 exact⟨h0,A,cap,bo,ba,_,k1.keepX hf (nb _ k1.lt k2),k5.mlate (by decide) hf (fun _ _ _ h=>(h.oldX.weaken (Y:=K.late) (fun _ h=>h)).keep hf (fun _ h=>h)),k6.keepX hf (nb bo k6.lt k3)⟩
end
abbrev tFrm:TypeId:=351
def kvC (p:Value×Value):List Value:=[p.1,p.2]
def kvB (p:Value×Value):List Nat:=(zcP p.1).toList ++ (zcP p.2).toList
def FrmR (W:World) (p:Value×Value) (f:Frm):Prop:=zcX W tTag p.1 f.locals∧zcX W tTag p.2 f.stack
def Frms (W:World) (Y:Nat->Prop) (v:Value) (fs:List Frm):Prop:=
 ∃kvs:List (Value×Value),RowV W tFrm 2 v fs.length (kvs.flatMap kvC)∧kvs.length=fs.length∧(∀x∈kvs.zip fs,FrmR W x.1 x.2)∧(kvs.flatMap kvB).Nodup∧(∀q∈kvs.flatMap kvB,Y q)∧(∀q,zcP v=some q->Y q)
theorem zdx {p:Value×Value} {q:Nat}:q∈kvB p↔zcP p.1=some q∨zcP p.2=some q:=by
 unfold kvB
 rw[List.mem_append,Option.mem_toList,Option.mem_toList]
section
variable {W W':World} {Y Y' X:Nat->Prop} {v:Value} {fs:List Frm}
theorem FrmR.keep {p:Value×Value} {f:Frm} (h:FrmR W p f) (hf:Fr X W W') (hX:∀q∈kvB p,¬X q):FrmR W' p f:=
 ⟨h.1.keep hf (fun q hq=>hX q (zdx.2 (.inl hq))),h.2.keep hf (fun q hq=>hX q (zdx.2 (.inr hq)))⟩
theorem FrmR.lt {p:Value×Value} {f:Frm} (h:FrmR W p f) {q:Nat} (hq:q∈kvB p):q<W.heap.size:=by
 rcases zdx.1 hq with hq|hq
 ·exact h.1.1.lt hq
 ·exact h.2.1.lt hq
theorem zdy {α β:Type}:∀{xs:List α} {ys:List β} (_:xs.length=ys.length) {x:α} (_:x∈xs),∃y,(x,y)∈xs.zip ys
 | x :: xs,y :: ys,hl,z,hz=>by
  rcases List.mem_cons.1 hz with rfl|hz
  ·exact⟨y,by simp⟩
  ·obtain⟨y',h'⟩:=zdy (xs:=xs) (ys:=ys) (by simpa using hl) hz
   exact⟨y',List.mem_cons_of_mem _ h'⟩
theorem Frms.nil (W:World) (Y:Nat->Prop):Frms W Y (.slice none 0 0) []:=⟨[],RowV.nil _ _ _,rfl,by simp,by simp,by simp,fun q hq=>by cases hq⟩
theorem Frms.lt (_:Frms W Y v fs) {kvs:List (Value×Value)} (hl:kvs.length=fs.length) (hr:∀x∈kvs.zip fs,FrmR W x.1 x.2) {q:Nat} (hq:q∈kvs.flatMap kvB):q<W.heap.size:=by
 obtain⟨p,hp,hq⟩:=List.mem_flatMap.1 hq
 obtain⟨f,hf⟩:=zdy hl hp
 exact(hr _ hf).lt hq
theorem Frms.keep (h:Frms W Y v fs) (hf:Fr X W W') (hX:∀b,Y b->b<W.heap.size->¬X b) (hY:∀b,Y b->b<W.heap.size->Y' b):Frms W' Y' v fs:=by
 obtain⟨kvs,h1,h2,h3,h4,h5,h6⟩:=h
 have hlt:∀q∈kvs.flatMap kvB,q<W.heap.size:=fun q hq=>Frms.lt (Y:=Y) ⟨kvs,h1,h2,h3,h4,h5,h6⟩ h2 h3 hq
 refine⟨kvs,h1.keep hf (fun q hq=>hX q (h6 q hq) (h1.lt hq)),h2,fun x hx=>(h3 x hx).keep hf (fun q hq=>?_),h4,fun q hq=>hY q (h5 q hq) (hlt q hq),fun q hq=>hY q (h6 q hq) (h1.lt hq)⟩
 have hm:q∈kvs.flatMap kvB:=List.mem_flatMap.2 ⟨x.1,(List.of_mem_zip hx).1,hq⟩
 exact hX q (h5 q hm) (hlt q hm)
theorem Frms.keep0 (h:Frms W Y v fs) (hf:Fr No W W'):Frms W' Y v fs:=h.keep hf (fun _ _ _ h=>h) (fun _ h _=>h)
theorem Frms.form (h:Frms W Y v fs):∃A c,v=.slice A fs.length c∧fs.length≤c∧c≤maxLen:=by
 obtain⟨kvs,h1,_⟩:=h
 exact h1.form
theorem RowV.box {e:TypeId} {sz n:Nat} {xs:List Value} (h:RowV W e sz v n xs) {q:Nat} (hq:zcP v=some q):∃cs,Bx W q e cs:=by
 rcases h with ⟨_,⟨rfl,rfl⟩ | ⟨g,cap,cur,rfl,_,hb,_⟩⟩ | ⟨rfl,rfl,A,rfl⟩
 ·cases hq
 ·rw[zcQ] at hq
  split at hq
  ·cases hq
  ·cases hq;exact⟨_,hb⟩
 ·rw[zcQ,if_pos rfl] at hq;cases hq
theorem zdz:tTag≠tFrm:=by decide
theorem Frms.snoc {w W2:World} {kvs:List (Value×Value)} {v1 v2 v':Value} {g':Nat} {f:Frm} (h1:RowV w tFrm 2 v fs.length (kvs.flatMap kvC)) (h2:kvs.length=fs.length) (h3:∀x∈kvs.zip fs,FrmR w x.1 x.2) (h4:(kvs.flatMap kvB).Nodup) (h5:∀q∈kvs.flatMap kvB,Y q) (h6:∀q,zcP v=some q->Y q)
  (hf0:Fr No w W) (hl:zcX W tTag v1 f.locals) (hs:zcX W tTag v2 f.stack) (hb1:∀q,zcP v1=some q->w.heap.size≤q∧Y q) (hb2:∀q,zcP v2=some q->w.heap.size≤q∧Y q) (hne:∀q,zcP v1=some q->zcP v2=some q->False)
  (hrow:RowV W2 tFrm 2 v' (fs.length+1) (kvs.flatMap kvC ++ [v1,v2])) (hf:Fr (fun b=>zcP v=some b) W W2) (hor:zcP v=some g'∨g'=W.heap.size) (hv':zcP v'=some g') (hYn:∀b,w.heap.size≤b->Y b):Frms W2 Y v' (fs ++ [f]):=by
 have hbk:∀{t:Value} {xs:List Tag},zcX W tTag t xs->∀q,zcP t=some q->¬zcP v=some q:=fun ht q hq hv=>by
  obtain⟨cs,hb⟩:=(h1.keep0 hf0).box hv
  exact ht.1.ne hb zdz hq rfl
 have hlt:∀q∈kvs.flatMap kvB,q<w.heap.size:=fun q hq=>Frms.lt (Y:=Y) ⟨kvs,h1,h2,h3,h4,h5,h6⟩ h2 h3 hq
 refine⟨kvs ++ [(v1,v2)],by simpa[kvC] using hrow,by simp[h2],fun x hx=>?_,?_,fun q hq=>?_,fun q hq=>?_⟩
 ·rw[List.zip_append h2,List.mem_append] at hx
  rcases hx with hx|hx
  ·have hr:=(h3 x hx).keep (X:=No) hf0 (fun _ _ h=>h)
   exact hr.keep hf (fun q hq=>by
    rcases zdx.1 hq with h9|h9
    ·exact hbk hr.1 q h9
    ·exact hbk hr.2 q h9)
  ·simp only[List.zip_cons_cons,List.zip_nil_left,List.mem_singleton] at hx
   subst hx
   exact⟨hl.keep hf (hbk hl),hs.keep hf (hbk hs)⟩
 ·rw[List.flatMap_append,List.nodup_append]
  refine⟨h4,?_,fun a ha b hb e=>?_⟩
  ·simp only[List.flatMap_cons,List.flatMap_nil,List.append_nil,kvB]
   cases e1:zcP v1 with
   | none=>cases e2:zcP v2<;>simp
   | some q1=>
    cases e2:zcP v2 with
    | none=>simp
    | some q2=>
     simp only[Option.toList_some,List.cons_append,List.nil_append,List.nodup_cons,List.mem_singleton,List.not_mem_nil,not_false_eq_true,List.nodup_nil,and_true]
     rintro rfl
     exact hne q1 e1 e2
  ·subst e
   have ha':=hlt a ha
   simp only[List.flatMap_cons,List.flatMap_nil,List.append_nil] at hb
   rcases zdx.1 hb with h9|h9
   ·have:=(hb1 a h9).1;omega
   ·have:=(hb2 a h9).1;omega
 ·rw[List.flatMap_append,List.mem_append] at hq
  rcases hq with hq|hq
  ·exact h5 q hq
  ·simp only[List.flatMap_cons,List.flatMap_nil,List.append_nil] at hq
   rcases zdx.1 hq with h9|h9
   ·exact(hb1 q h9).2
   ·exact(hb2 q h9).2
 ·rw[hv'] at hq
  cases hq
  rcases hor with h9|h9
  ·exact h6 _ h9
  ·rw[h9];exact hYn _ hf0.size
end
end Go.Proofs.YtmeaibjmnjcdfaaGreat
