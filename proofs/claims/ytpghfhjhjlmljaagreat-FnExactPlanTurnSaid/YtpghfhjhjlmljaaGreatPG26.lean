/- The program's PlanTurn: keepers with something turned, in rows of their own. -/
import Derived.Test.YtpghfhjhjlmljaaGreatPG24
import Derived.Test.YtpghfhjhjlmljaaGreatPG25
set_option maxHeartbeats 8000000
set_option maxRecDepth 100000
namespace Go.Proofs.YtpghfhjhjlmljaaGreat
open Go.RowKit
def zBj (N:Nat) (c:Chg) (vf vm:Value) (T:TypeId) (d:Value) (f:FuncId):Prop:=
 (Tryz.prog.funcs[f]?).map (fun fn=>(fn.name == "runtime.NumGoroutine",fn.body.isNone))=some (false,false) ∧
 (∀n W,(Go.method (n+1) T d "loop.example/lodgekeeper/impl.apply").run Tryz.prog W=.ok (f,d) W)∧(∀n W,(nilAhead (n+1) T d "loop.example/lodgekeeper/impl.apply").run Tryz.prog W=.ok (some false) W) ∧
 ∀W g n cq i ks Y,zzE W Y (.slice (some ⟨g,0,none⟩) n cq) ks->∀(hi:i<ks.length),SmK ks[i]->(∀b,Y b->b<W.heap.size->N≤b)->ClsC (fun b=>N≤b) W [.string c.cls.name,.string c.cls.super,vf,vm] c.cls->
  Calls Tryz.prog f #[d,.pointer (some ⟨g,i * 2,none⟩)] W (zAN Y (.slice (some ⟨g,0,none⟩) n cq) (ks.set i (zA2 c ks[i])) W)
theorem zBk (N:Nat) (c:Chg) (vf vm:Value) (h:chgB c=true) (hz:c.name.size≤maxLen):∃T d f,zA0 c vf vm=.iface T d∧zBj N c vf vm T d f:=by
 have h0:=h
 unfold zA0
 rw[if_pos h0]
 unfold chgB at h
 by_cases h1:c.kind=1
 ·rw[if_pos h1] at h ⊢
  simp only[lz5,decide_eq_true_eq] at h
  refine⟨_,_,169,rfl,by kernel_rfl,(fun n W=>by kernel_rfl),(fun n W=>by kernel_rfl),fun W g n cq i ks Y hT hi hs hY hC=>?_⟩
  have:=zAS (fun b=>N≤b) c.cls vf vm g n cq i ks Y W hT hi hC (zA7 h.2.1.2) hY hs.1
  rw[zA9 h.2.2] at this
  unfold zA2
  rw[if_pos h1]
  exact this
 ·rw[if_neg h1] at h ⊢
  by_cases h3:c.kind=3
  ·rw[if_pos h3] at h ⊢
   refine⟨_,_,174,rfl,by kernel_rfl,(fun n W=>by kernel_rfl),(fun n W=>by kernel_rfl),fun W g n cq i ks Y hT hi hs hY hC=>?_⟩
   have:=zAT ⟨c.name,c.tq⟩ g n cq i ks Y W hT hi hz hs.2.1
   unfold zA2
   rw[if_neg h1,if_neg (by omega),if_pos h3]
   exact this
  ·rw[if_neg h3] at h ⊢
   by_cases h2:c.kind=2
   ·rw[if_pos h2]
    refine⟨_,_,170,rfl,by kernel_rfl,(fun n W=>by kernel_rfl),(fun n W=>by kernel_rfl),fun W g n cq i ks Y hT hi hs hY hC=>?_⟩
    have:=zAO c.name g n cq i ks Y W hT hi
    unfold zA2
    rw[if_neg h1,if_pos h2]
    exact this
   ·rw[if_neg h2]
    refine⟨_,_,175,rfl,by kernel_rfl,(fun n W=>by kernel_rfl),(fun n W=>by kernel_rfl),fun W g n cq i ks Y hT hi hs hY hC=>?_⟩
    have:=zAP c.name g n cq i ks Y W hT hi
    unfold zA2
    rw[if_neg h1,if_neg h2,if_neg h3]
    exact this
def fnV9 (T:TypeId) (d:Value):Value->World->Prop:=fun v _=>v=.func (.method "loop.example/lodgekeeper/impl.apply") #[.iface T d] #[]∧True
theorem zBl (T:TypeId) (d:Value):MonP (fnV9 T d):=fun _ _ _ h _=>h
def zBm (p:Plan) (c:Chg) (w:World) (e:Ending) (w':World):Prop:=∃v,e=.returned (.tuple #[.agg #[v],.bool (zA4 p c)])∧zzE w' (fun b=>w.heap.size≤b) v (zA5 p c)∧Fr No w w'
theorem ptNo {p:Plan} {c:Chg} (h:zA4 p c=false) {w w':World} (hf:Fr No w w'):zBm p c w (.returned (.tuple #[.agg #[.slice none 0 0],.bool false])) w':=by
 refine⟨_,by rw[h],?_,hf⟩
 unfold zA5
 rw[h]
 exact OwnL.nil _ _
theorem zBn (p:Plan) (pv:Value) (c:Chg) (ccs:List Value) (w:World) (hp:Sl No w 2 (KprC No w) pv p.keepers) (hc:ChgC No w ccs c):
  Calls Tryz.prog 9 #[.agg #[pv],.agg ccs.toArray] w (zBm p c w):=by
 have hcc:=id hc
 obtain⟨vf,vm,rfl,hz0,hz1,hz2,hf,hm⟩:=hcc
 obtain⟨A,cap,rfl,_,_⟩:=hp.form
 obtain⟨Af,cf,rfl,_,_⟩:=hf.form
 obtain⟨Am,cm,rfl,_,_⟩:=hm.form
 obtain⟨wA,hwA⟩:∃wA,wA=((w.alloc (.cells #[.slice A p.keepers.length cap] 35)).alloc (.cells #[.int .i64 c.kind,.int .i64 c.keeper,.string c.name,.int .i64 c.tq,.string c.cls.name,.string c.cls.super,.slice Af c.cls.fields.length cf,.slice Am c.cls.methods.length cm] 44)).alloc (.cells #[.slice none 0 0] 35):=⟨_,rfl⟩
 have hfA:Fr No w wA:=hwA▸frc
 have B1:=(hwA▸bxc:Bx wA w.heap.size 35 #[.slice A p.keepers.length cap])
 have B2:=(hwA▸bxc:Bx wA (w.heap.size+1) 44 #[.int .i64 c.kind,.int .i64 c.keeper,.string c.name,.int .i64 c.tq,.string c.cls.name,.string c.cls.super,.slice Af c.cls.fields.length cf,.slice Am c.cls.methods.length cm])
 have B3:=(hwA▸bxc:Bx wA (w.heap.size+1+1) 35 #[.slice none 0 0])
 have hsA:wA.heap.size=w.heap.size+3:=by rw[hwA];simp
 have HV:=zA1 No c _ _ wA (hc.keep hfA zN)
 have HO:=fun W (hW:Fr No wA W)=>zze p _ W (hp.keep (hfA.trans0 hW) zN (fun _ _ _ h=>h.keep (hfA.trans0 hW) zN))
 have hcl:ClsC (fun b=>w.heap.size≤b) w [.string c.cls.name,.string c.cls.super,.slice Af c.cls.fields.length cf,.slice Am c.cls.methods.length cm] c.cls:=ClsC.old ⟨_,_,rfl,hz1,hz2,hf,hm⟩
 clear hc hf hm
 replace hwA:=Lib.hid hwA
 have q:=B2.c8
 have ql:=B2.lt
 by_cases hb:chgB c=true
 ·obtain⟨T,d,f,hT,hA0,hA1,hA2,hA3⟩:=zBk w.heap.size c (.slice Af c.cls.fields.length cf) (.slice Am c.cls.methods.length cm) hb hz0
  rw[hT] at HV
  cases hlp:lodB p
  ·have hn:zA4 p c=false:=by unfold zA4;rw[hlp];simp
   replace hn:=Lib.hid hn
   rw[hlp] at HO
   clear hA0 hA1 hA2 hA3 hcl hlp hb hT
   go_enter Tryz.func9,Tryz.ntmps9
   go_wp2_with fail
   rw[<-hwA.out]
   refine HV.mono ?_
   rintro e w1 ⟨rfl,hf1⟩
   have B1:=B1.keep hf1
   have B3:=B3.keep hf1
   have p1:=B1.c1
   have p1l:=B1.lt
   clear HV q ql
   go_wp2_with fail
   refine(HO _ hf1).mono ?_
   rintro e w2 ⟨rfl,hf2⟩
   have B3:=B3.keep hf2
   have p3:=B3.c1
   have p3l:=B3.lt
   have p3f:=B3.frozen
   have hfin:=Lib.hid (fun u=>ptNo hn.out (w:=w) (w':=w2.setCell ⟨w.heap.size+1+1,0,none⟩ u) (((hfA.trans0 hf1).trans0 hf2).trans (Fr.cell1 _ _ _ _) (fun b hb e=>by omega)))
   clear HO
   go_wp2_with fail
   refine bodyPost_ret (v:=.tuple #[.agg #[.slice none 0 0],.bool false]) (by simp[results,Tryz.results9,go_sem, *]) rfl ?_
   exact hfin.out _
  ·rw[hlp] at HO
   have hsml:=zA8 hlp
   have hk1:0≤c.keeper:=by
    unfold chgB at hb
    simp only[lz5,decide_eq_true_eq] at hb
    exact hb.1.1.1
   obtain⟨i,hi⟩:∃i:Nat,c.keeper=(i:Int):=⟨c.keeper.toNat,by omega⟩
   have hTP:Hid ((zA3 p c).keepers=p.keepers.set i (zA2 c (p.keepers.getD i ⟨[],[]⟩))):=Lib.hid (by unfold zA3;rw[hi];rfl)
   have hTB:Hid (zA4 p c=(decide ((i:Int)<p.keepers.length)&&lodB (zA3 p c))):=Lib.hid (by unfold zA4;rw[hb,hlp,hi];rfl)
   rw[hi] at B2 q HV hwA ⊢
   replace hi:=Lib.hid hi
   clear hlp hb hT
   by_cases hkn:i<p.keepers.length
   ·go_enter Tryz.func9,Tryz.ntmps9
    go_wp2_with fail
    rw[<-hwA.out]
    refine HV.mono ?_
    rintro e w1 ⟨rfl,hf1⟩
    have B1:=B1.keep hf1
    have B2:=B2.keep hf1
    have B3:=B3.keep hf1
    have p1:=B1.c1
    have p1l:=B1.lt
    clear HV q ql
    go_wp2_with fail
    refine(HO _ hf1).mono ?_
    rintro e w2 ⟨rfl,hf2⟩
    have B1:=B1.keep hf2
    have B2:=B2.keep hf2
    have B3:=B3.keep hf2
    have p1:=B1.c1
    have p1l:=B1.lt
    have p2:=B2.c8
    have p2l:=B2.lt
    have hF2:Fr No w w2:=(hfA.trans0 hf1).trans0 hf2
    have HP:=zAL No p _ w2 (hp.keep hF2 zN (fun _ _ _ h=>h.keep hF2 zN)) hsml.1 hsml.2
    have h2l2:=B3.lt
    clear HO hf1 hf2 hfA
    go_wp2_with fail
    refine HP.mono ?_
    rintro e w3 ⟨vq,rfl,hT3,hf3⟩
    obtain⟨g,cq,_,_,rfl,_⟩:=OwnL.at_ hT3 hkn
    have B2:=B2.keep hf3
    have B3:=B3.keep hf3
    have hF3:=hF2.trans0 hf3
    have hs2:=hF2.size
    have hs3:=hf3.size
    have h2l:=B3.lt
    clear HP p1 p1l p2 p2l B1
    go_wp2_with fail
    obtain⟨w4,hw4⟩:∃w4,w4=w3.alloc (.cells #[.slice (some ⟨g,0,none⟩) p.keepers.length cq] 35):=⟨_,rfl⟩
    rw[<-hw4]
    have hf4:Fr No w3 w4:=hw4▸frc
    have B7:Bx w4 w3.heap.size 35 #[.slice (some ⟨g,0,none⟩) p.keepers.length cq]:=hw4▸bxc
    have B2:=B2.keep hf4
    have B3:=B3.keep hf4
    have hF4:=hF3.trans0 hf4
    have hs4:w4.heap.size=w3.heap.size+1:=by rw[hw4];simp
    have hT4:zzE w4 (fun b=>w2.heap.size≤b∧b<w3.heap.size) _ p.keepers:=(OwnL.wid hT3 (fun b h1 h2=>⟨h1,h2⟩)).keep zzK hf4 (fun _ _ _ h=>h)
    have hg4:=(OwnL.at_ hT4 hkn)
    obtain⟨g',_,_,_,e9,_,hg9,hgY,_⟩:=hg4
    cases e9
    have K2:=B2.r8
    have K7:=B7.r1
    clear hw4 hT3
    refine zn0 9 37 [mV (.iface T d),mV (.pointer (some ⟨w3.heap.size,0,none⟩)),mV (.slice (some ⟨g,0,none⟩) p.keepers.length cq),mV (.pointer (some ⟨w.heap.size+1,1,none⟩)),mV (.int .i64 (i:Int)),mV (.pointer (some ⟨g,i * 2,none⟩)),mV (.func (.method "loop.example/lodgekeeper/impl.apply") #[.iface T d] #[]),mC (fnV9 T d) (zBl T d),mV (.iface T d)] (by kernel_rfl) (by kernel_rfl) (by simp) ?_ ?_
    ·refine hc4 ?_ ?_ ?_ ?_ <| hc4 ?_ ?_ ?_ ?_ <| hopC ?_ <| hopZ
     all_goals (intro a' W hW hoff hdep;have hbs:=hW.size;have H6:=hoff 6 rfl;have H7:=hoff 7 rfl;have H3:=hoff 3 rfl;refine nE rfl ?_)
     ·simp[execOp,Act.eval,H6,go_sem,zaa];exact fr1 rfl
     ·simp[execOp,Act.eval,H7,go_sem,zaa];exact fr1 rfl
     ·have D29:_=_:=hdep 1 29 rfl;clear hoff hdep;simp[execOp,Act.eval,go_sem,zaa, *];exact fr1 rfl
     ·simp[execOp,Act.eval,H3,go_sem,zaa];exact fr1 rfl
     ·have D31:_=_:=hdep 3 31 rfl;clear hoff hdep;simp[execOp,Act.eval,go_sem,zaa, *];exact fr1 rfl
     ·have D30:_=_:=hdep 2 30 rfl;have D32:_=_:=hdep 4 32 rfl;clear hoff hdep;simp[execOp,Act.eval,go_sem,zaa, *];exact fr1 rfl
     ·have D28:_=_:=hdep 0 28 rfl;simp[execOp,Act.eval,D28,go_sem,zaa];exact fr1 rfl
     ·have D34:_=_:=hdep 6 34 rfl
      simp[execOp,Act.eval,D34,go_sem,zaa,hA2];exact⟨Fr.refl _ _,rfl,trivial⟩
     ·have D28:_=_:=hdep 0 28 rfl;simp[execOp,Act.eval,D28,go_sem,zaa];exact fr1 rfl
    intro vs WR hWR hv hne
    obtain⟨e7,_⟩:=hv 7 (by omega)
    simp only[lz6,List.drop_zero,znM,znK,znR,Nat.zero_add,Nat.reduceAdd,e7]
    simp only[Act.put,lz0,lz1,lz2]
    clear e7 hv
    clear hne K2 K7
    have hTR:zzE WR (fun b=>w2.heap.size≤b∧b<w3.heap.size) _ p.keepers:=OwnL.keep zzK hT4 hWR (fun _ _ _ h=>h)
    have hFR:=hF4.trans0 hWR
    have HA:=hA3 WR g _ cq i p.keepers _ hTR hkn (hsml.2 _ (List.getElem_mem hkn)) (fun b hb _=>by omega) (ClsC.keep hcl hFR zN)
    have B7:=B7.keep hWR
    have B2:=B2.keep hWR
    have B3:=B3.keep hWR
    have hsR:=hWR.size
    clear hT4 hTR hcl hWR hF4
    go_wp2_with fail
    rw[zym hA0,Oper.upon_enter]
    refine HA.mono ?_
    rintro e w5 ⟨rfl,hT5,hf5⟩
    have hTP':p.keepers.set i (zA2 c p.keepers[i])=(zA3 p c).keepers:=by rw[hTP.out];simp[List.getD,hkn]
    rw[hTP'] at hT5
    have hF5:Fr No w w5:=hFR.trans hf5 (fun b hb e=>by omega)
    have B7:=B7.keepX hf5 (fun e=>by omega)
    have B3:=B3.keepX hf5 (fun e=>by omega)
    have hs5:=hf5.size
    have hlen:(zA3 p c).keepers.length=p.keepers.length:=by rw[<-hTP',List.length_set]
    have HL:=zze (zA3 p c) _ w5 (OwnL.kprs hT5 (fun _ _ _ h=>h))
    have p7:=B7.c1
    have p7l:=B7.lt
    clear HA hTP'
    cases hlq:lodB (zA3 p c)
    ·rw[hlq] at HL
     have hn:zA4 p c=false:=by rw[hTB.out,hlq,Bool.and_false]
     replace hn:=Lib.hid hn
     clear hlq
     go_wp2_with fail
     refine HL.mono ?_
     rintro e w6 ⟨rfl,hf6⟩
     have B3:=B3.keep hf6
     have p3:=B3.c1
     have p3l:=B3.lt
     have p3f:=B3.frozen
     have hfin:=Lib.hid (fun u=>ptNo hn.out (w:=w) (w':=w6.setCell ⟨w.heap.size+1+1,0,none⟩ u) ((hF5.trans0 hf6).trans (Fr.cell1 _ _ _ _) (fun b hb e=>by omega)))
     clear HL hT5
     go_wp2_with fail
     refine bodyPost_ret (v:=.tuple #[.agg #[.slice none 0 0],.bool false]) (by simp[results,Tryz.results9,go_sem, *]) rfl ?_
     exact hfin.out _
    ·rw[hlq] at HL
     have hn:zA4 p c=true:=by rw[hTB.out,hlq,decide_eq_true (by omega)];rfl
     replace hn:=Lib.hid hn
     clear hlq
     go_wp2_with fail
     refine HL.mono ?_
     rintro e w6 ⟨rfl,hf6⟩
     have B7:=B7.keep hf6
     have B3:=B3.keep hf6
     have p7:=B7.c1
     have p7l:=B7.lt
     have p3:=B3.c1
     have p3l:=B3.lt
     have p3f:=B3.frozen
     have hfin:=Lib.hid (show zBm p c w (.returned (.tuple #[.agg #[.slice (some ⟨g,0,none⟩) p.keepers.length cq],.bool true])) (w6.setCell ⟨w.heap.size+1+1,0,none⟩ (.slice (some ⟨g,0,none⟩) p.keepers.length cq)) from
      ⟨_,by rw[hn.out],by
       unfold zA5
       rw[hn.out,if_pos rfl]
       exact((OwnL.keep zzK hT5 hf6 (fun _ _ _ h=>h)).keep zzK (Fr.cell1 _ _ _ _) (fun b hb _ (e:b=w.heap.size+1+1)=>by omega)).wid (fun b hb _=>by omega),(hF5.trans0 hf6).trans (Fr.cell1 _ _ _ _) (fun b hb (e:b=w.heap.size+1+1)=>by omega)⟩)
     clear HL hT5
     go_wp2_with fail
     refine bodyPost_ret (v:=.tuple #[.agg #[.slice (some ⟨g,0,none⟩) p.keepers.length cq],.bool true]) (by simp[results,Tryz.results9,go_sem, *]) rfl ?_
     exact hfin.out
   ·have hn:zA4 p c=false:=by rw[hTB.out,decide_eq_false (by omega)];rfl
    replace hn:=Lib.hid hn
    clear hA0 hA1 hA2 hA3 hcl
    go_enter Tryz.func9,Tryz.ntmps9
    go_wp2_with fail
    rw[<-hwA.out]
    refine HV.mono ?_
    rintro e w1 ⟨rfl,hf1⟩
    have B1:=B1.keep hf1
    have B2:=B2.keep hf1
    have B3:=B3.keep hf1
    have p1:=B1.c1
    have p1l:=B1.lt
    clear HV q ql
    go_wp2_with fail
    refine(HO _ hf1).mono ?_
    rintro e w2 ⟨rfl,hf2⟩
    have B1:=B1.keep hf2
    have B2:=B2.keep hf2
    have B3:=B3.keep hf2
    have p1:=B1.c1
    have p1l:=B1.lt
    have p2:=B2.c8
    have p2l:=B2.lt
    have p3:=B3.c1
    have p3l:=B3.lt
    have p3f:=B3.frozen
    have hfin:=Lib.hid (fun u=>ptNo hn.out (w:=w) (w':=w2.setCell ⟨w.heap.size+1+1,0,none⟩ u) (((hfA.trans0 hf1).trans0 hf2).trans (Fr.cell1 _ _ _ _) (fun b hb e=>by omega)))
    clear HO
    go_wp2_with fail
    refine bodyPost_ret (v:=.tuple #[.agg #[.slice none 0 0],.bool false]) (by simp[results,Tryz.results9,go_sem, *]) rfl ?_
    exact hfin.out _
 ·have hb':chgB c=false:=by simpa using hb
  have hn:zA4 p c=false:=by unfold zA4;rw[hb'];rfl
  have hV:zA0 c (.slice Af c.cls.fields.length cf) (.slice Am c.cls.methods.length cm)=.nilIface:=by unfold zA0;rw[if_neg hb]
  rw[hV] at HV
  replace hn:=Lib.hid hn
  clear hb hb' HO hV
  go_enter Tryz.func9,Tryz.ntmps9
  go_wp2_with fail
  rw[<-hwA.out]
  refine HV.mono ?_
  rintro e w1 ⟨rfl,hf1⟩
  have B3:=B3.keep hf1
  have p3:=B3.c1
  have p3l:=B3.lt
  have p3f:=B3.frozen
  have hfin:=Lib.hid (fun u=>ptNo hn.out (w:=w) (w':=w1.setCell ⟨w.heap.size+1+1,0,none⟩ u) ((hfA.trans0 hf1).trans (Fr.cell1 _ _ _ _) (fun b hb e=>by omega)))
  clear HV q ql
  go_wp2_with fail
  refine bodyPost_ret (v:=.tuple #[.agg #[.slice none 0 0],.bool false]) (by simp[results,Tryz.results9,go_sem, *]) rfl ?_
  exact hfin.out _
theorem zty {P:Program} (w:World) (t ty e:TypeId) (i:TypeInfo) (ht:P.underlying t=some (.slice e)) (hi:P.info? e=some i) (A B:Option Addr) (n c c2:Nat) (hn:n≤c):
  (Builtin.append_ #[t,t] ty #[.slice A n c,.slice B 0 c2]).run P w=.ok (.slice A n c) w:=by
 have hl:∀b:Addr,(loadCells b 0).run P w=.ok #[] w:=fun b=>by simp[loadCells,loadCellsFrom]
 cases A<;>cases B<;>simp[Builtin.append_,run_underlying ht,sizeOf,typeInfo,hi,Builtin.lenOf,Builtin.firstCells,hl,storeCells,hn]
theorem zBo {w:World} {ops:Array Oper} {rest:List Oper} {o:Oper} {a:Act} {Q:Exit->Act->World->Prop} {S E:TypeId} {sz bytes:Nat} (T:ElT S E sz bytes) (hgd:o.guard=none) (s x:Operand) (ho:o.op=.call { callee:=.builtin .append,args:=#[s,x],argTypes:=#[S,S] })
  (v:Value) (n:Nat) (ks:List (Raw sz)) (hs:a.eval s=v) (hn:n=ks.length) (hrow:RowV w E sz v n (rawL ks)) (hkl:n≤100000) (X:Nat->Prop) (u:Value) (ls:List (Raw sz)) (hx:a.eval x=u) (h:Sl X w sz RawC u ls) (hl:ls.length≤100000) (hone:OneC ls)
  (k:∀A c w',RowV w' E sz (.slice A (n+ls.length) c) (n+ls.length) (rawL (ks ++ ls))->Fr (fun b=>zcP v=some b) w w'->(∀q,zcP (.slice A (n+ls.length) c)=some q->zcP v=some q∨q=w.heap.size)->wpList Tryz.prog ops Q rest (a.put o.dst (.slice A (n+ls.length) c)) w'):wpList Tryz.prog ops Q (o :: rest) a w:=by
 obtain⟨A2,c2,rfl,_,_⟩:=h.form
 rcases Nat.eq_zero_or_pos ls.length with h0|h0
 ·obtain rfl:=List.eq_nil_of_length_eq_zero h0
  obtain⟨i0,z,hi,_⟩:=T.info
  obtain⟨A,c,rfl,hc,_⟩:=hrow.form
  refine wpList_plain hgd fun K hK=>?_
  have hr:=zty (P:=Tryz.prog) w S o.type E i0 T.und hi A A2 n c c2 hc
  unfold Oper.wp execOp
  simp only[List.length_nil] at hx
  simp only[ho,resolve,invoke,builtin,Sem.run_bind,Sem.run_pure,Result.andThen_ok,List.map_toArray,List.map_cons,List.map_nil,hs,hx,hr]
  have hk:=k A c w (by simpa using hrow) (Fr.refl _ _) (fun q hq=>.inl (by simpa using hq))
  simp only[List.length_nil,Nat.add_zero] at hk
  exact hK _ _ hk
 ·obtain⟨b,off,cs,hA,_,_,_⟩:=h.cells h0
  cases hA
  refine zqG T hgd s x ho v n ks hs hn hrow hkl X b off c2 ls hx h h0 hl hone ?_
  intro g c w' h1 h2 h3 h4
  exact k _ _ _ h1 h3 (fun q hq=>by rw[zcQ,if_neg (by omega)] at hq;cases hq;exact h4)
theorem Sl.oldX {α:Type} {X:Nat->Prop} {w:World} {sz:Nat} {R R':List Value->α->Prop} {v:Value} {xs:List α} (h:Sl X w sz R v xs) (hsz:0<sz) (hR:∀cs x,x∈xs->R cs x->R' cs x):Sl (fun b=>X b∨w.heap.size≤b) w sz R' v xs:=by
 obtain⟨A,cap,rfl,h1,h2,h3⟩:=h
 refine⟨A,cap,rfl,h1,h2,fun h0=>?_⟩
 obtain⟨b,off,rfl,hX,hc⟩:=h3 h0
 refine⟨b,off,rfl,?_,fun k hk=>?_⟩
 ·obtain⟨cs,_,hl,hcs⟩:=hc 0 h0
  have hv:cs[0]? =some (cs[0]'(by omega)):=lz8 (by omega)
  have:=hcs 0 hsz
  rw[hv] at this
  have:=lt_of_cell this
  rintro(h|h)
  ·exact hX h
  ·omega
 ·obtain⟨cs,hRc,hl,hcs⟩:=hc k hk
  exact⟨cs,hR cs _ (List.getElem_mem hk) hRc,hl,hcs⟩
section
variable {X:Nat->Prop} {w:World} {cs:List Value}
theorem MapC.oldX {m:Mp} (h:MapC X w cs m):MapC (fun b=>X b∨w.heap.size≤b) w cs m:=by
 obtain⟨vl,vs,rfl,h1,h2⟩:=h
 exact⟨vl,vs,rfl,h1.oldX (by decide) (fun _ _ _ h=>h),h2.oldX (by decide) (fun _ _ _ h=>h)⟩
theorem MthC.oldX {m:Mth} (h:MthC X w cs m):MthC (fun b=>X b∨w.heap.size≤b) w cs m:=by
 obtain⟨va,vc,vm,rfl,h1,h2,h3,h4,h5⟩:=h
 exact⟨va,vc,vm,rfl,h1,h2,h3.oldX (by decide) (fun _ _ _ h=>h),h4.oldX (by decide) (fun _ _ _ h=>h),h5.oldX (by decide) (fun _ _ _ h=>h.oldX)⟩
theorem ClsC.oldX {c:Cls} (h:ClsC X w cs c):ClsC (fun b=>X b∨w.heap.size≤b) w cs c:=by
 obtain⟨vf,vm,rfl,h1,h2,h3,h4⟩:=h
 exact⟨vf,vm,rfl,h1,h2,h3.oldX (by decide) (fun _ _ _ h=>h),h4.oldX (by decide) (fun _ _ _ h=>h.oldX)⟩
theorem KprC.oldX {k:Kpr} (h:KprC X w cs k):KprC (fun b=>X b∨w.heap.size≤b) w cs k:=by
 obtain⟨vo,va,rfl,h1,h2⟩:=h
 exact⟨vo,va,rfl,h1.oldX (by decide) (fun _ _ _ h=>h.oldX),h2.oldX (by decide) (fun _ _ _ h=>h)⟩
end
end Go.Proofs.YtpghfhjhjlmljaaGreat
