/- The reference's l5Begin: what is known at a method's beginning. -/
import Derived.Test.YthembcdcdnffeaaGreatDG32
set_option maxHeartbeats 8000000
set_option maxRecDepth 100000
namespace Go.Proofs.YthembcdcdnffeaaGreat
open Go.RowKit
def zdv (w:World) (b:Nat):Nat:=match w.cell? ⟨b,0,none⟩ with
 | some (.slice _ n _)=>n
 | _=>0
theorem zcX.one {w:World} {b:Nat} {t:Tag} (hB:Bx w b tTag #[.int .i64 t.kind,.string t.name]) (ht:t.name.size≤maxLen):zcX w tTag (.slice (some ⟨b,0,none⟩) 1 1) [t]:=
 ⟨.inl ⟨by simp[zcU],.inr ⟨b,1,_,rfl,Nat.zero_le _,hB,by simp,by unfold maxLen;omega,by simp,by simp[zcU]⟩⟩,fun x hx=>by rw[List.mem_singleton.1 hx];exact ht⟩
structure BegI (nm:Str) (xs:List Tag) (w:World) (A:Option Addr) (c:Nat) (cm:Array Value) (wr:World):Prop where
 row:zcX wr tTag (.slice A xs.length c) xs
 blk:∀q,zcP (.slice A xs.length c)=some q->w.heap.size+2≤q
 bm:Bx wr w.heap.size 60 cm
 br:Bx wr (w.heap.size+1) tFr #[.slice none 0 0,.slice none 0 0]
 bf:Bx wr (w.heap.size+3) tFr #[.slice A xs.length c,.slice none 0 0]
 fr:Fr No w wr
theorem BegI.next {nm:Str} {xs:List Tag} {w:World} {A:Option Addr} {c:Nat} {cm:Array Value} {W W2:World} (h:BegI nm xs w A c cm W) {x:Tag} (hx:x.name.size≤maxLen) {g' cap':Nat}
  (hrow:RowV W2 tTag 2 (.slice (some ⟨g',0,none⟩) (xs.length+1) cap') (xs.length+1) (xs.flatMap zcU ++ zcU x)) (hcap:xs.length+1≤cap') (hf:Fr (fun b=>zcP (.slice A xs.length c)=some b) W W2) (hor:zcP (.slice A xs.length c)=some g'∨w.heap.size+2≤g'):
  BegI nm (xs ++ [x]) w (some ⟨g',0,none⟩) cap' cm (W2.setCell ⟨w.heap.size+3,0,none⟩ (.slice (some ⟨g',0,none⟩) (xs.length+1) cap')):=by
 have el:(xs ++ [x]).length=xs.length+1:=by simp
 have hne:∀q,zcP (.slice A xs.length c)=some q->q≠w.heap.size+3:=fun q hq=>h.row.1.ne h.bf zkN hq
 have hst:Fr (fun b=>b=w.heap.size+3) W2 (W2.setCell ⟨w.heap.size+3,0,none⟩ (.slice (some ⟨g',0,none⟩) (xs.length+1) cap')):=Fr.one _ _ _ _
 have hbf:=h.bf.keepX hf (fun e=>hne _ e rfl)
 have hgb:zcP (.slice (some ⟨g',0,none⟩) (xs.length+1) cap')=some g':=by rw[zcQ,if_neg (by omega)]
 have hr2:zcX W2 tTag (.slice (some ⟨g',0,none⟩) (xs ++ [x]).length cap') (xs ++ [x]):=by
  refine⟨?_,fun y hy=>?_⟩
  ·rw[el,List.flatMap_append]
   simpa using hrow
  ·rcases List.mem_append.1 hy with hy|hy
   ·exact h.row.2 y hy
   ·rw[List.mem_singleton.1 hy];exact hx
 have hg3:g'≠w.heap.size+3:=hr2.1.ne hbf zkN (by rw[el];exact hgb)
 have hg2:w.heap.size+2≤g':=hor.elim (fun h'=>h.blk _ h') id
 refine⟨hr2.keep hst (fun q hq e=>?_),fun q hq=>?_,?_,?_,?_,?_⟩
 ·rw[el,hgb] at hq;cases hq;exact hg3 e
 ·rw[el,hgb] at hq;cases hq;exact hg2
 ·exact(h.bm.keepX hf (fun e=>by have:=h.blk _ e;omega)).keepX hst (by omega)
 ·exact(h.br.keepX hf (fun e=>by have:=h.blk _ e;omega)).keepX hst (by omega)
 ·rw[el];exact hbf.setc rfl
 ·exact(h.fr.trans hf (fun b hb e=>by have:=h.blk _ e;omega)).trans hst (fun b hb e=>by omega)
theorem BegI.keep0 {nm:Str} {xs:List Tag} {w:World} {A:Option Addr} {c:Nat} {cm:Array Value} {W W2:World} (h:BegI nm xs w A c cm W) (hf:Fr No W W2):BegI nm xs w A c cm W2:=
 ⟨h.row.keep hf (fun _ _ h=>h),h.blk,h.bm.keep hf,h.br.keep hf,h.bf.keep hf,h.fr.trans0 hf⟩
def BegP (f:Frm) (w:World) (e:Ending) (w':World):Prop:=Fr No w w'∧∃Al cl,e=.returned (.agg #[.slice Al f.locals.length cl,.slice none 0 0])∧FrmI w' (.slice Al f.locals.length cl) (.slice none 0 0) f∧∀q,zcP (.slice Al f.locals.length cl)=some q->w.heap.size≤q
theorem zdw (Y:Nat->Prop) (nm:Str) (m:Mth) (ms:List Value) (w:World) (hm:MthC Y w ms m) (hn:nm.size≤maxLen) (hok:mthB m=true):
  Calls Tryz.prog 43 #[.string nm,.agg ms.toArray] w (BegP (zcM nm m) w):=by
 obtain⟨hna,_,_,hlo,hhi,_⟩:=ze7 hok
 obtain⟨va,vc,vm,rfl,_,hrn,har,hcr,hxr⟩:=hm
 obtain⟨Aa,ca,rfl,_,_⟩:=har.form
 obtain⟨Ac,cc,rfl,_,_⟩:=hcr.form
 obtain⟨Ax,cx,rfl,_,_⟩:=hxr.form
 clear hcr hxr
 obtain⟨cm,hcm⟩:∃cm:Array Value,cm=#[.string m.name,.slice Aa m.args.length ca,.int .i64 m.ret.kind,.string m.ret.name,.int .i64 m.locals,.int .i64 m.stack,.slice Ac m.code.length cc,.slice Ax m.maps.length cx]:=⟨_,rfl⟩
 obtain⟨wA,hwA⟩:∃wA,wA=((((w.alloc (.cells #[.string m.name,.slice Aa m.args.length ca,.int .i64 m.ret.kind,.string m.ret.name,.int .i64 m.locals,.int .i64 m.stack,.slice Ac m.code.length cc,.slice Ax m.maps.length cx] 60)).alloc (.cells #[.slice none 0 0,.slice none 0 0] tFr)).alloc (.cells #[.int .i64 2,.string nm] tTag)).alloc (.cells #[.slice (some ⟨w.heap.size+2,0,none⟩) 1 1,.slice none 0 0] tFr)):=⟨_,rfl⟩
 have hfA:Fr No w wA:=hwA▸frc
 have hsA:wA.heap.size=w.heap.size+4:=by rw[hwA];simp
 have B0:=(hwA▸bxc:Bx wA w.heap.size 60 #[.string m.name,.slice Aa m.args.length ca,.int .i64 m.ret.kind,.string m.ret.name,.int .i64 m.locals,.int .i64 m.stack,.slice Ac m.code.length cc,.slice Ax m.maps.length cx])
 have B1:=(hwA▸bxc:Bx wA (w.heap.size+1) tFr #[.slice none 0 0,.slice none 0 0])
 have B2:=(hwA▸bxc:Bx wA (w.heap.size+2) tTag #[.int .i64 2,.string nm])
 have B3:=(hwA▸bxc:Bx wA (w.heap.size+3) tFr #[.slice (some ⟨w.heap.size+2,0,none⟩) 1 1,.slice none 0 0])
 have hI0:BegI nm (clsT nm :: (m.args.take 0).map zel) w (some ⟨w.heap.size+2,0,none⟩) 1 cm wA:=
  ⟨zcX.one (t:=clsT nm) B2 hn,fun q hq=>by rw[zcQ,if_neg (by omega)] at hq;cases hq;exact Nat.le_refl _,hcm▸B0,B1,B3,hfA⟩
 clear B0 B1 B2 B3
 obtain⟨i0,hi,hz0,hz1,hz2⟩:=info_parts ze8
 go_enter Tryz.func43,Tryz.ntmps43
 go_wp2_with fail
 refine zaE (fun W=>W=wA) (by rw[hwA]) ?_
 rintro W0 hW0
 rw[hW0]
 clear hW0
 replace hwA:=Lib.hid hwA
 replace hi:=Lib.hid hi
 replace hz0:=Lib.hid hz0
 replace hz1:=Lib.hid hz1
 replace hz2:=Lib.hid hz2
 go_loopw [6] (fun i wr=>∃(k:Nat) (A:Option Addr) (c:Nat),k≤m.args.length∧i=.int .i64 k∧Hid (BegI nm (clsT nm :: (m.args.take k).map zel) w A c cm wr)) (fun i _=>m.args.length-(intOf i).toNat)
 case atStart=>exact⟨0,_,_,Nat.zero_le _,rfl,hI0⟩
 case round=>
  clear hI0
  obtain⟨k,A,c,hk,rfl,hM⟩:=hrel
  have hB:=hM.out
  have hlen:(clsT nm :: (m.args.take k).map zel).length=k+1:=by simp;omega
  by_cases hlt:k<m.args.length
  ·obtain⟨b,off,rfl,_,c0,c1,z⟩:=(har.keep (R':=KndC) hB.fr (fun _ h=>h.elim) (fun _ _ _ h=>h)).knd hlt
   have HT:=fun W=>zkM m.args[k] W z
   have hts:=zkS z
   have hstep:clsT nm :: (m.args.take (k+1)).map zel=(clsT nm :: (m.args.take k).map zel) ++ [zel m.args[k]]:=by
    rw[List.take_succ_eq_append_getElem hlt,List.map_append];rfl
   generalize m.args[k]=kd at *
   generalize hto:zel kd=tg at *
   clear hto
   generalize hxs:clsT nm :: (m.args.take k).map zel=xs at *
   have KM:=(hcm▸hB.bm:Bx wr w.heap.size 60 #[.string m.name,.slice (some ⟨b,off,none⟩) m.args.length ca,.int .i64 m.ret.kind,.string m.ret.name,.int .i64 m.locals,.int .i64 m.stack,.slice Ac m.code.length cc,.slice Ax m.maps.length cx]).r8
   have KF:=hB.bf.r2
   have KX0:=cr c0
   have KX1:=cr c1
   rw[hlen] at KF
   replace hB:=Lib.hid hB
   replace hstep:=Lib.hid hstep
   obtain⟨d0,d1,d2,d3,d4,d5,d6,d7,_,dl⟩:=KM wr (Fr.refl _ _)
   go_wp2_with fail
   clear d0 d1 d2 d3 d4 d5 d6 d7 dl
   refine zn0 9 27 [mV (.pointer (some ⟨w.heap.size+3,0,none⟩)),mV (.slice A (k+1) c),mV (.pointer (some ⟨w.heap.size,1,none⟩)),mV (.slice (some ⟨b,off,none⟩) m.args.length ca),mV (.int .i64 k),mV (.pointer (some ⟨b,off+k * 2,none⟩)),mV (.agg #[.int .i64 kd.kind,.string kd.name]),mV (.agg #[.int .i64 tg.kind,.string tg.name]),mS 116 (#[.int .i64 tg.kind,.string tg.name]) 1 wr.heap.size] (by kernel_rfl) (by kernel_rfl) (by simp) ?_ ?_
   ·refine hopC ?_ <| hopC ?_ <| hopC ?_ <| hopC ?_ <| hopC ?_ <| hopC ?_ <| hopC ?_ <| hopC ?_ <| hopC ?_ <| hopZ
    all_goals (intro a' W hW hoff hdep;have hbs:=hW.size;have H5:=hoff 5 rfl;have H3:=hoff 3 rfl;have H6:=hoff 6 rfl;refine nE rfl ?_)
    ·simp[execOp,Act.eval,H5,go_sem,zaa];exact fr1 rfl
    ·have D18:_=_:=hdep 0 18 rfl;clear hoff hdep;simp[execOp,Act.eval,go_sem,zaa, *];exact fr1 rfl
    ·simp[execOp,Act.eval,H3,go_sem,zaa];exact fr1 rfl
    ·have D20:_=_:=hdep 2 20 rfl;clear hoff hdep;simp[execOp,Act.eval,go_sem,zaa, *];exact fr1 rfl
    ·simp[execOp,Act.eval,H6,go_sem,zaa];exact fr1 rfl
    ·have D21:_=_:=hdep 3 21 rfl;have D22:_=_:=hdep 4 22 rfl;clear hoff hdep;simp[execOp,Act.eval,go_sem,zaa, *];exact fr1 rfl
    ·have D23:_=_:=hdep 5 23 rfl;clear hoff hdep;simp[execOp,Act.eval,go_sem,zaa, *];exact fr1 rfl
    ·have D24:_=_:=hdep 6 24 rfl;simp[Act.eval,D24,go_sem,zaa];exact(HT W).mono fun e w'' h=>⟨_,h.1,h.2,rfl⟩
    ·have D25:_=_:=hdep 7 25 rfl;simp at D25;simp[execOp,Act.eval,D25,go_sem,zaa];exact⟨(Fr.refl _ _).alloc _,⟨_,rfl,Bx.new_ rfl,hbs⟩,Nat.le_refl _⟩
   intro vs WR hWR hv hne
   obtain⟨b8,e8,hb8,hl8⟩:=hv 8 (by omega)
   simp only[lz6,List.drop_zero,znQ,znK,znR,Nat.zero_add,Nat.reduceAdd,e8]
   simp only[Act.put,lz0,lz1,lz2]
   clear e8 hv
   have hBR:=hB.out.keep0 hWR
   have hsrc:=Lib.hid (Bx.news (cs:=zcU tg) hb8)
   have hrowR:=hBR.row.1
   rw[hlen] at hrowR
   have hbfR:=hBR.bf
   have hne:∀q,zcP (.slice A (k+1) c)=some q->q≠w.heap.size+3:=fun q hq=>hrowR.ne hbfR zkN hq
   rw[hlen] at hbfR
   replace hBR:=Lib.hid hBR
   have hlh:=Lib.hid hlen
   clear KM KF KX0 KX1 HT hM hlen
   go_wp2_with (at_builtin;refine zcS _ rfl _ _ 75 rfl tTag i0 (.agg #[.int .i64 0,.string ⟨#[]⟩]) 2 24 Tryz.underlying75 hi.out hz0.out hz1.out hz2.out rfl (by decide) (.slice A (k+1) c) (k+1) (xs.flatMap zcU) rfl hrowR ⟨b8,0,none⟩ 1 1 (zcU tg) rfl rfl hsrc.out (by simp[zcU,Value.oneCell']) (by decide) (by unfold maxLen;omega) (by omega) ?_;intro g' cap' w2 hrow hcap hgf hor;have hbx:=hbfR.keepX hgf (fun e=>hne _ e rfl);obtain⟨z0,z1⟩:=hbx.c2;have zf:=(fun i=>hbx.frozen i);have zl:=hbx.lt)
   go_roundw
   case rel=>
    have hwr:=hB.out.fr.size
    have hb4:=hB.out.bf.lt
    have hR:=hWR.size
    have hx:=hBR.out.next hts (by rw[hlh.out];exact hrow) (by rw[hlh.out];exact hcap) (by rw[hlh.out];exact hgf) (by rw[hlh.out];exact hor.imp id (fun h=>by omega))
    rw[hlh.out] at hx
    refine⟨k+1,some ⟨g',0,none⟩,cap',by omega,by go_num,?_⟩
    show BegI _ _ _ _ _ _ _
    rw[hstep.out]
    exact hx
   case measure=>simp[intOf];omega
  ·have hke:k=m.args.length:=by omega
   subst hke
   rw[List.take_length] at hM hB hlen
   have hB0:=hM.out
   obtain⟨d0,d1,d2,d3,d4,d5,d6,d7⟩:=(hcm▸hB.bm:Bx wr w.heap.size 60 #[.string m.name,.slice Aa m.args.length ca,.int .i64 m.ret.kind,.string m.ret.name,.int .i64 m.locals,.int .i64 m.stack,.slice Ac m.code.length cc,.slice Ax m.maps.length cx]).c8
   have dl:=hB.bm.lt
   have hI1:BegI nm ((clsT nm :: m.args.map zel) ++ List.replicate (m.args.length+1-(m.args.length+1)) noT) w A c cm wr:=by
    rw[Nat.sub_self,List.replicate_zero,List.append_nil];exact hB
   have hargs:=Lib.hid har
   clear har hM hB hB0 hlen hk hlt
   go_wp2
   clear d0 d1 d2 d3 d4 d5 d6 d7 dl
   go_loopw [36] (fun _ wr=>∃(j:Nat) (A:Option Addr) (c:Nat),m.args.length+1≤j∧(j:Int)≤m.locals∧Hid (BegI nm ((clsT nm :: m.args.map zel) ++ List.replicate (j-(m.args.length+1)) noT) w A c cm wr)) (fun _ wr=>m.locals.toNat-zdv wr (w.heap.size+3))
   case atStart=>exact⟨_,_,_,Nat.le_refl _,hlo,hI1⟩
   case round=>
    clear hI1
    obtain⟨j,A,c,hj0,hj1,hM⟩:=hrel
    have hB:=hM.out
    have hlen:((clsT nm :: m.args.map zel) ++ List.replicate (j-(m.args.length+1)) noT).length=j:=by simp;omega
    have hstep:(clsT nm :: m.args.map zel) ++ List.replicate (j+1-(m.args.length+1)) noT=((clsT nm :: m.args.map zel) ++ List.replicate (j-(m.args.length+1)) noT) ++ [noT]:=by
     rw[show j+1-(m.args.length+1)=(j-(m.args.length+1))+1 by omega,List.replicate_succ',List.append_assoc]
    obtain⟨d0,d1,d2,d3,d4,d5,d6,d7⟩:=(hcm▸hB.bm:Bx wr w.heap.size 60 #[.string m.name,.slice Aa m.args.length ca,.int .i64 m.ret.kind,.string m.ret.name,.int .i64 m.locals,.int .i64 m.stack,.slice Ac m.code.length cc,.slice Ax m.maps.length cx]).c8
    have dl:=hB.bm.lt
    have hbf:=hB.bf
    have hrow:=hB.row.1
    have hbr:=hB.br
    by_cases hlt2:(j:Int)<m.locals
    ·generalize hxs:(clsT nm :: m.args.map zel) ++ List.replicate (j-(m.args.length+1)) noT=xs at *
     rw[hlen] at hbf hrow
     obtain⟨f0,f1⟩:=hbf.c2
     have ff:=fun i=>hbf.frozen i
     have fl:=hbf.lt
     have hne:∀q,zcP (.slice A j c)=some q->q≠w.heap.size+3:=fun q hq=>hrow.ne hbf zkN hq
     have hW:Fr No wr (wr.alloc (.cells #[.int .i64 0,.string ⟨#[]⟩] tTag)):=frc
     have hrowR:=hrow.keep0 hW
     have hbfR:=hbf.keep hW
     have hsrc:=Lib.hid (Bx.news (cs:=zcU noT) (Bx.new wr tTag #[.int .i64 0,.string ⟨#[]⟩]))
     replace hB:=Lib.hid hB
     replace hstep:=Lib.hid hstep
     have hlh:=Lib.hid hlen
     clear hM hlen hbr hrow hbf hW
     go_wp2_with (at_builtin;refine zcS _ rfl _ _ 75 rfl tTag i0 (.agg #[.int .i64 0,.string ⟨#[]⟩]) 2 24 Tryz.underlying75 hi.out hz0.out hz1.out hz2.out rfl (by decide) (.slice A j c) j (xs.flatMap zcU) rfl hrowR ⟨wr.heap.size,0,none⟩ 1 1 (zcU noT) rfl rfl hsrc.out (by simp[zcU,Value.oneCell']) (by decide) (by unfold maxLen;omega) (by omega) ?_;intro g' cap' w2 hrow hcap hgf hor;have hbx:=hbfR.keepX hgf (fun e=>hne _ e rfl);clear f0 f1 ff fl;obtain⟨z0,z1⟩:=hbx.c2;have zf:=(fun i=>hbx.frozen i);have zl:=hbx.lt)
     go_roundw
     case rel=>
      have hwr:=hB.out.fr.size
      have hb4:=hB.out.bf.lt
      have hBR:=hB.out.keep0 (show Fr No wr (wr.alloc (.cells #[.int .i64 0,.string ⟨#[]⟩] tTag)) from frc)
      have hx:=hBR.next (x:=noT) (Nat.zero_le _) (by rw[hlh.out];exact hrow) (by rw[hlh.out];exact hcap) (by rw[hlh.out];exact hgf) (by rw[hlh.out];exact hor.imp id (fun h=>by simp at h;omega))
      rw[hlh.out] at hx
      refine⟨j+1,some ⟨g',0,none⟩,cap',by omega,by omega,?_⟩
      show BegI _ _ _ _ _ _ _
      rw[hstep.out]
      exact hx
     case measure=>
      have e1:zdv wr (w.heap.size+3)=j:=by
       have:=hB.out.bf.cell 0
       unfold zdv
       rw[this]
       exact hlh.out
      have e2:zdv (w2.setCell ⟨w.heap.size+3,0,none⟩ (.slice (some ⟨g',0,none⟩) (j+1) cap')) (w.heap.size+3)=j+1:=by
       have:=(hbx.setc (i:=0) (u:=.slice (some ⟨g',0,none⟩) (j+1) cap') rfl).cell 0
       unfold zdv
       rw[this]
       rfl
      rw[e1,e2]
      omega
    ·have hje:(j:Int)=m.locals:=by omega
     have hF:zcM nm m=⟨(clsT nm :: m.args.map zel) ++ List.replicate (j-(m.args.length+1)) noT,[]⟩:=by
      unfold zcM
      rw[show m.locals.toNat=j by omega]
     generalize hxs:(clsT nm :: m.args.map zel) ++ List.replicate (j-(m.args.length+1)) noT=xs at *
     have hbk:=hB.blk
     have hrw:=hB.row
     have hfr:=hB.fr
     rw[hlen] at hbf hrw hbk
     obtain⟨f0,f1⟩:=hbf.c2
     have fl:=hbf.lt
     obtain⟨e0,e1⟩:=hbr.c2
     have ef:=fun i=>hbr.frozen i
     have el:=hbr.lt
     replace hF:=Lib.hid hF
     clear hM hB hbf hrow hstep
     go_wp2
     refine bodyPost_ret (v:=.agg #[.slice A j c,.slice none 0 0]) (by simp[results,Tryz.results43,go_sem, *]) rfl ?_
     have hst:Fr (fun b=>b=w.heap.size+1) wr ((wr.setCell ⟨w.heap.size+1,0,none⟩ (.slice A j c)).setCell ⟨w.heap.size+1,1,none⟩ (.slice none 0 0)):=((Fr.refl (fun b=>b=w.heap.size+1) wr).setCellX (p:=⟨w.heap.size+1,0,none⟩) (Eq.refl (w.heap.size+1)) _).setCellX (p:=⟨w.heap.size+1,1,none⟩) (Eq.refl (w.heap.size+1)) _
     rw[hF.out]
     refine⟨hfr.trans hst (fun b hb e=>by omega),A,c,by simp only[hlen],?_,?_⟩
     ·simp only[hlen]
      exact⟨hrw.keep hst (fun q hq e=>by have:=hbk q hq;omega),⟨RowV.nil _ _ _,fun _ h=>absurd h (by simp)⟩,fun q _ h=>by cases h⟩
     ·simp only[hlen]
      exact fun q hq=>by have:=hbk q hq;omega
abbrev tFrm:TypeId:=77
def kvC (p:Value×Value):List Value:=[p.1,p.2]
def kvB (p:Value×Value):List Nat:=(zcP p.1).toList ++ (zcP p.2).toList
def FrmR (W:World) (p:Value×Value) (f:Frm):Prop:=zcX W tTag p.1 f.locals∧zcX W tTag p.2 f.stack
def Frms (W:World) (Y:Nat->Prop) (v:Value) (fs:List Frm):Prop:=
 ∃kvs:List (Value×Value),RowV W tFrm 2 v fs.length (kvs.flatMap kvC)∧kvs.length=fs.length∧(∀x∈kvs.zip fs,FrmR W x.1 x.2)∧(kvs.flatMap kvB).Nodup∧(∀q∈kvs.flatMap kvB,Y q)∧(∀q,zcP v=some q->Y q)
theorem zdx {p:Value×Value} {q:Nat}:q∈kvB p↔zcP p.1=some q∨zcP p.2=some q:=by
 unfold kvB
 rw[List.mem_append,Option.mem_toList,Option.mem_toList]
section
variable {W W':World} {Y Y' X:Nat->Prop} {v:Value} {fs:List Frm}
theorem FrmR.keep {p:Value×Value} {f:Frm} (h:FrmR W p f) (hf:Fr X W W') (hX:∀q∈kvB p,¬X q):FrmR W' p f:=
 ⟨h.1.keep hf (fun q hq=>hX q (zdx.2 (.inl hq))),h.2.keep hf (fun q hq=>hX q (zdx.2 (.inr hq)))⟩
theorem FrmR.lt {p:Value×Value} {f:Frm} (h:FrmR W p f) {q:Nat} (hq:q∈kvB p):q<W.heap.size:=by
 rcases zdx.1 hq with hq|hq
 ·exact h.1.1.lt hq
 ·exact h.2.1.lt hq
theorem zdy {α β:Type}:∀{xs:List α} {ys:List β} (_:xs.length=ys.length) {x:α} (_:x∈xs),∃y,(x,y)∈xs.zip ys
 | x :: xs,y :: ys,hl,z,hz=>by
  rcases List.mem_cons.1 hz with rfl|hz
  ·exact⟨y,by simp⟩
  ·obtain⟨y',h'⟩:=zdy (xs:=xs) (ys:=ys) (by simpa using hl) hz
   exact⟨y',List.mem_cons_of_mem _ h'⟩
theorem Frms.nil (W:World) (Y:Nat->Prop):Frms W Y (.slice none 0 0) []:=⟨[],RowV.nil _ _ _,rfl,by simp,by simp,by simp,fun q hq=>by cases hq⟩
theorem Frms.lt (_:Frms W Y v fs) {kvs:List (Value×Value)} (hl:kvs.length=fs.length) (hr:∀x∈kvs.zip fs,FrmR W x.1 x.2) {q:Nat} (hq:q∈kvs.flatMap kvB):q<W.heap.size:=by
 obtain⟨p,hp,hq⟩:=List.mem_flatMap.1 hq
 obtain⟨f,hf⟩:=zdy hl hp
 exact(hr _ hf).lt hq
theorem Frms.keep (h:Frms W Y v fs) (hf:Fr X W W') (hX:∀b,Y b->b<W.heap.size->¬X b) (hY:∀b,Y b->b<W.heap.size->Y' b):Frms W' Y' v fs:=by
 obtain⟨kvs,h1,h2,h3,h4,h5,h6⟩:=h
 have hlt:∀q∈kvs.flatMap kvB,q<W.heap.size:=fun q hq=>Frms.lt (Y:=Y) ⟨kvs,h1,h2,h3,h4,h5,h6⟩ h2 h3 hq
 refine⟨kvs,h1.keep hf (fun q hq=>hX q (h6 q hq) (h1.lt hq)),h2,fun x hx=>(h3 x hx).keep hf (fun q hq=>?_),h4,fun q hq=>hY q (h5 q hq) (hlt q hq),fun q hq=>hY q (h6 q hq) (h1.lt hq)⟩
 have hm:q∈kvs.flatMap kvB:=List.mem_flatMap.2 ⟨x.1,(List.of_mem_zip hx).1,hq⟩
 exact hX q (h5 q hm) (hlt q hm)
theorem Frms.keep0 (h:Frms W Y v fs) (hf:Fr No W W'):Frms W' Y v fs:=h.keep hf (fun _ _ _ h=>h) (fun _ h _=>h)
theorem Frms.form (h:Frms W Y v fs):∃A c,v=.slice A fs.length c∧fs.length≤c∧c≤maxLen:=by
 obtain⟨kvs,h1,_⟩:=h
 exact h1.form
theorem RowV.box {e:TypeId} {sz n:Nat} {xs:List Value} (h:RowV W e sz v n xs) {q:Nat} (hq:zcP v=some q):∃cs,Bx W q e cs:=by
 rcases h with ⟨_,⟨rfl,rfl⟩ | ⟨g,cap,cur,rfl,_,hb,_⟩⟩ | ⟨rfl,rfl,A,rfl⟩
 ·cases hq
 ·rw[zcQ] at hq
  split at hq
  ·cases hq
  ·cases hq;exact⟨_,hb⟩
 ·rw[zcQ,if_pos rfl] at hq;cases hq
theorem zdz:tTag≠tFrm:=by decide
theorem Frms.snoc {w W2:World} {kvs:List (Value×Value)} {v1 v2 v':Value} {g':Nat} {f:Frm} (h1:RowV w tFrm 2 v fs.length (kvs.flatMap kvC)) (h2:kvs.length=fs.length) (h3:∀x∈kvs.zip fs,FrmR w x.1 x.2) (h4:(kvs.flatMap kvB).Nodup) (h5:∀q∈kvs.flatMap kvB,Y q) (h6:∀q,zcP v=some q->Y q)
  (hf0:Fr No w W) (hl:zcX W tTag v1 f.locals) (hs:zcX W tTag v2 f.stack) (hb1:∀q,zcP v1=some q->w.heap.size≤q∧Y q) (hb2:∀q,zcP v2=some q->w.heap.size≤q∧Y q) (hne:∀q,zcP v1=some q->zcP v2=some q->False)
  (hrow:RowV W2 tFrm 2 v' (fs.length+1) (kvs.flatMap kvC ++ [v1,v2])) (hf:Fr (fun b=>zcP v=some b) W W2) (hor:zcP v=some g'∨g'=W.heap.size) (hv':zcP v'=some g') (hYn:∀b,w.heap.size≤b->Y b):Frms W2 Y v' (fs ++ [f]):=by
 have hbk:∀{t:Value} {xs:List Tag},zcX W tTag t xs->∀q,zcP t=some q->¬zcP v=some q:=fun ht q hq hv=>by
  obtain⟨cs,hb⟩:=(h1.keep0 hf0).box hv
  exact ht.1.ne hb zdz hq rfl
 have hlt:∀q∈kvs.flatMap kvB,q<w.heap.size:=fun q hq=>Frms.lt (Y:=Y) ⟨kvs,h1,h2,h3,h4,h5,h6⟩ h2 h3 hq
 refine⟨kvs ++ [(v1,v2)],by simpa[kvC] using hrow,by simp[h2],fun x hx=>?_,?_,fun q hq=>?_,fun q hq=>?_⟩
 ·rw[List.zip_append h2,List.mem_append] at hx
  rcases hx with hx|hx
  ·have hr:=(h3 x hx).keep (X:=No) hf0 (fun _ _ h=>h)
   exact hr.keep hf (fun q hq=>by
    rcases zdx.1 hq with h9|h9
    ·exact hbk hr.1 q h9
    ·exact hbk hr.2 q h9)
  ·simp only[List.zip_cons_cons,List.zip_nil_left,List.mem_singleton] at hx
   subst hx
   exact⟨hl.keep hf (hbk hl),hs.keep hf (hbk hs)⟩
 ·rw[List.flatMap_append,List.nodup_append]
  refine⟨h4,?_,fun a ha b hb e=>?_⟩
  ·simp only[List.flatMap_cons,List.flatMap_nil,List.append_nil,kvB]
   cases e1:zcP v1 with
   | none=>cases e2:zcP v2<;>simp
   | some q1=>
    cases e2:zcP v2 with
    | none=>simp
    | some q2=>
     simp only[Option.toList_some,List.cons_append,List.nil_append,List.nodup_cons,List.mem_singleton,List.not_mem_nil,not_false_eq_true,List.nodup_nil,and_true]
     rintro rfl
     exact hne q1 e1 e2
  ·subst e
   have ha':=hlt a ha
   simp only[List.flatMap_cons,List.flatMap_nil,List.append_nil] at hb
   rcases zdx.1 hb with h9|h9
   ·have:=(hb1 a h9).1;omega
   ·have:=(hb2 a h9).1;omega
 ·rw[List.flatMap_append,List.mem_append] at hq
  rcases hq with hq|hq
  ·exact h5 q hq
  ·simp only[List.flatMap_cons,List.flatMap_nil,List.append_nil] at hq
   rcases zdx.1 hq with h9|h9
   ·exact(hb1 q h9).2
   ·exact(hb2 q h9).2
 ·rw[hv'] at hq
  cases hq
  rcases hor with h9|h9
  ·exact h6 _ h9
  ·rw[h9];exact hYn _ hf0.size
end
def cloV (xs:List Tag) (base:Nat):Value->World->Prop:=fun v W=>∃A c,v=.slice A xs.length c∧zcX W tTag v xs∧∀q,zcP v=some q->base≤q∧0<xs.length
theorem zdA (xs:List Tag) (base:Nat):MonP (cloV xs base):=fun _ _ _ ⟨A,c,h1,h2,h3⟩ hf=>⟨A,c,h1,h2.keep hf (fun _ _ h=>h),h3⟩
theorem zdB {xs:List Tag} {base:Nat} {v:Value} {W:World} (h:cloV xs base v W) (h0:0<xs.length):zcP v=some (bk v)∧bk v<W.heap.size:=by
 obtain⟨A,c,h1,h2,h3⟩:=h
 obtain⟨g,c',cur,rfl,_,_,hb,_,_,hq⟩:=h2.1.at_ h0
 exact⟨hq,h2.1.lt hq⟩
theorem zdC {xs:List Tag} {base:Nat} {v:Value} {W:World} {b:Bool} (hb:b=true) (hb2:b=decide (0<xs.length)) (h:cloV xs base v W):bk v<W.heap.size:=(zdB h (by rw[hb] at hb2;simpa using hb2.symm)).2
theorem zdD:(Tryz.prog.info? tFrm).map (fun i=>(i.zero,i.size,i.bytes))=some (some (.agg #[.slice none 0 0,.slice none 0 0]),2,48):=by kernel_rfl
abbrev vnil:Value:=.slice none 0 0
def zdE (r:List Frm×Int) (w:World) (e:Ending) (w':World):Prop:=Fr No w w'∧∃v,e=.returned (.tuple #[v,.int .i64 r.2])∧Frms w' (fun q=>w.heap.size≤q) v r.1
structure LkI (p:Plan) (m:Mth) (A:Option Addr) (cap:Nat) (cm:Array Value) (fb:Nat) (w:World) (j:Nat) (f:Frm) (fl fs:Value) (out:Value) (outs:List Frm) (wr:World):Prop where
 bp:Bx wr w.heap.size 32 #[.slice A p.keepers.length cap]
 bm:Bx wr (w.heap.size+1) 60 cm
 bf:Bx wr fb tFr #[fl,fs]
 loc:Sl (fun b=>zcP out=some b∨b=fb) wr 2 TagC fl f.locals
 stk:Sl (fun b=>zcP out=some b∨b=fb) wr 2 TagC fs f.stack
 ll:(f.locals.length:Int)=m.locals
 sl:(f.stack.length:Int)≤m.stack
 os:Frms wr (fun q=>w.heap.size+2≤q∧q≠fb) out outs
 ol:outs.length=j
 fbn:w.heap.size+2≤fb
 fr:Fr No w wr
section
variable {p:Plan} {m:Mth} {A:Option Addr} {cap:Nat} {cm:Array Value} {fb:Nat} {w:World} {j:Nat} {f:Frm} {fl fs out:Value} {outs:List Frm} {wr W:World}
theorem LkI.keep0 (h:LkI p m A cap cm fb w j f fl fs out outs wr) (hf:Fr No wr W):LkI p m A cap cm fb w j f fl fs out outs W:=
 ⟨h.bp.keep hf,h.bm.keep hf,h.bf.keep hf,h.loc.keep hf (fun _ h=>h.elim) (fun _ _ _ h=>h),h.stk.keep hf (fun _ h=>h.elim) (fun _ _ _ h=>h),h.ll,h.sl,h.os.keep0 hf,h.ol,h.fbn,h.fr.trans0 hf⟩
theorem LkI.setF (h:LkI p m A cap cm fb w j f fl fs out outs wr) {g:Frm} {gl gs:Value} (h1:Sl (fun b=>zcP out=some b∨b=fb) wr 2 TagC gl g.locals) (h2:Sl (fun b=>zcP out=some b∨b=fb) wr 2 TagC gs g.stack) (h3:(g.locals.length:Int)=m.locals) (h4:(g.stack.length:Int)≤m.stack):
  LkI p m A cap cm fb w j g gl gs out outs ((wr.setCell ⟨fb,0,none⟩ gl).setCell ⟨fb,1,none⟩ gs):=by
 have hf:Fr (fun b=>b=fb) wr ((wr.setCell ⟨fb,0,none⟩ gl).setCell ⟨fb,1,none⟩ gs):=(Fr.one _ _ _ _).same (Fr.one _ _ _ _)
 have hn:=h.fbn
 exact⟨h.bp.keepX hf (by omega),h.bm.keepX hf (by omega),(h.bf.setc (i:=0) (u:=gl) rfl).setc (i:=1) (u:=gs) rfl,h1.keep hf (fun _ h=>.inr h) (fun _ _ _ h=>h),h2.keep hf (fun _ h=>.inr h) (fun _ _ _ h=>h),h3,h4,
  h.os.keep hf (fun b hb _=>hb.2) (fun _ h _=>h),h.ol,hn,h.fr.trans hf (fun b hb e=>by omega)⟩
theorem LkI.grown (h:LkI p m A cap cm fb w j f fl fs out outs wr) (hf0:Fr No wr W) {vl vs v':Value} {g':Nat} {W2:World} (hJ:FrmI W vl vs f) (hJq:∀q,rB vl vs q->wr.heap.size≤q) {kvs:List (Value×Value)}
  (h1:RowV wr tFrm 2 out outs.length (kvs.flatMap kvC)) (h2:kvs.length=outs.length) (h3:∀x∈kvs.zip outs,FrmR wr x.1 x.2) (h4:(kvs.flatMap kvB).Nodup) (h5:∀q∈kvs.flatMap kvB,w.heap.size+2≤q∧q≠fb) (h6:∀q,zcP out=some q->w.heap.size+2≤q∧q≠fb)
  (hrow:RowV W2 tFrm 2 v' (outs.length+1) (kvs.flatMap kvC ++ [vl,vs])) (hf:Fr (fun b=>zcP out=some b) W W2) (hor:zcP out=some g'∨g'=W.heap.size) (hv':zcP v'=some g'):
  Bx W2 w.heap.size 32 #[.slice A p.keepers.length cap]∧Bx W2 (w.heap.size+1) 60 cm∧Bx W2 fb tFr #[fl,fs]∧Sl (fun b=>zcP out=some b∨b=fb) W2 2 TagC fl f.locals∧Sl (fun b=>zcP out=some b∨b=fb) W2 2 TagC fs f.stack ∧
   Frms W2 (fun q=>w.heap.size+2≤q∧q≠fb) v' (outs ++ [f])∧Fr No w W2:=by
 have hfl:=h.bf.lt
 have hws:=h.fr.size
 have hbl:=h.bm.lt
 refine⟨(h.bp.keep hf0).keepX hf (fun e=>by have:=(h6 _ e).1;omega),(h.bm.keep hf0).keepX hf (fun e=>by have:=(h6 _ e).1;omega),(h.bf.keep hf0).keepX hf (fun e=>(h6 _ e).2 rfl),(h.loc.keep (R':=TagC) hf0 (fun _ h=>h.elim) (fun _ _ _ h=>h)).keep hf (fun _ h=>.inl h) (fun _ _ _ h=>h),(h.stk.keep (R':=TagC) hf0 (fun _ h=>h.elim) (fun _ _ _ h=>h)).keep hf (fun _ h=>.inl h) (fun _ _ _ h=>h),?_,(h.fr.trans0 hf0).trans hf (fun b hb e=>by have:=(h6 _ e).1;omega)⟩
 exact Frms.snoc (Y:=fun q=>w.heap.size+2≤q∧q≠fb) h1 h2 h3 h4 h5 h6 hf0 hJ.loc hJ.stk (fun q hq=>⟨hJq q (.inl hq),by have:=hJq q (.inl hq);omega,by have:=hJq q (.inl hq);omega⟩) (fun q hq=>⟨hJq q (.inr hq),by have:=hJq q (.inr hq);omega,by have:=hJq q (.inr hq);omega⟩) (fun q h1 h2=>hJ.apart q h1 h2) hrow hf hor hv' (fun b hb=>⟨by omega,by omega⟩)
end
def nwV (o:Option Frm) (n:Nat):Value->World->Prop:=resV vnil vnil o n
def nwA (o:Option Frm) (n:Nat):Value->World->Prop:=resA vnil vnil o n
theorem zdF (o:Option Frm) (n:Nat):MonP (nwV o n):=zlF _ _ _ _
theorem zdG (o:Option Frm) (n:Nat):MonP (nwA o n):=zlG _ _ _ _
def cpA (f:Frm) (n:Nat):Value->World->Prop:=fun v W=>∃Al cl As cs,v=.agg #[.slice Al f.locals.length cl,.slice As f.stack.length cs]∧FrmI W (.slice Al f.locals.length cl) (.slice As f.stack.length cs) f∧∀q,rB (.slice Al f.locals.length cl) (.slice As f.stack.length cs) q->n≤q
theorem zdH (f:Frm) (n:Nat):MonP (cpA f n):=fun _ _ _ ⟨Al,cl,As,cs,h1,h2,h3⟩ hf=>⟨Al,cl,As,cs,h1,h2.keep0 hf,h3⟩
def TagS (W W':World):Prop:=∃Z:Nat->Prop,Fr Z W W'∧∀b,Z b->∃cs,Bx W b tTag cs
theorem FrmI.tagS {W W':World} {vl vs:Value} {f:Frm} (h:FrmI W vl vs f) (hf:Fr (rB vl vs) W W'):TagS W W':=
 ⟨_,hf,fun _ hb=>hb.elim (fun h'=>h.loc.1.box h') (fun h'=>h.stk.1.box h')⟩
theorem zdI {t:TypeId} {cs:Array Value} {base:Nat} {v:Value} {W W':World} (hne:tTag≠t) (hs:TagS W W') (h:atB t cs base v W):atB t cs base v W':=by
 obtain⟨b,h1,h2,h3⟩:=h
 obtain⟨Z,hf,hz⟩:=hs
 refine⟨b,h1,h2.keepX hf (fun hb=>?_),h3⟩
 obtain⟨cs',hb'⟩:=hz b hb
 unfold Bx at hb' h2
 rw[hb'] at h2
 simp at h2
 exact hne h2.2
theorem zdJ {ul us:Value} {o:Option Frm} {n:Nat} {W w' w0:World} {e:Ending} {f:Frm} (hI:FrmI W ul us f) (hb:∀q,rB ul us q->n≤q) (hn:n=w0.heap.size) (h0:Fr No w0 W) (h:zfb ul us o W e w'):∃v,e=.returned v∧Fr No w0 w'∧TagS W w'∧nwV o n v w':=by
 subst hn
 have h2:=h.2.then (vl:=vnil) (vs:=vnil) (w0:=w0) h0.size (fun q hq=>.inr (hb q hq))
 obtain⟨A1,n1,c1,A2,n2,c2,rfl⟩:=h2.is
 exact⟨_,rfl,h0.trans h.1 (fun b hb' hq=>by have:=hb b hq;omega),hI.tagS h.1,A1,n1,c1,A2,n2,c2,rfl,h2⟩
theorem Frms.empty (W:World) (Y:Nat->Prop) (a:Addr):Frms W Y (.slice (some a) 0 0) []:=⟨[],.inr ⟨rfl,rfl,_,rfl⟩,rfl,by simp,by simp,by simp,fun q hq=>by rw[zcQ,if_pos rfl] at hq;cases hq⟩
theorem Frms.more {W:World} {Y Y':Nat->Prop} {v:Value} {fs:List Frm} (h:Frms W Y v fs) (hY:∀b,Y b->Y' b):Frms W Y' v fs:=h.keep (Fr.refl No W) (fun _ _ _ h=>h) (fun b h _=>hY b h)
theorem zdK {p:Plan} {k:Int} {m:Mth} {f g:Frm} {i:Ins} (hib:insB i=true) (h:insF p k m f i=some g) (hs:(f.stack.length:Int)≤m.stack):g.locals.length=f.locals.length∧(g.stack.length:Int)≤m.stack:=by
 have hpush:∀{st r:List Tag} {t:Tag},zcE m.stack st t=some r->(r.length:Int)≤m.stack:=fun {st r t} h=>by
  unfold zcE at h
  split at h
  ·cases h;simp;omega
  ·cases h
 have htake:∀{st:List Tag} {x:Tag×List Tag},zcD st=some x->x.2.length≤st.length:=fun {st x} h=>by
  rcases ze2 st with ⟨_,h1⟩ | ⟨ys,y,h0,h1⟩
  ·rw[h1] at h;cases h
  ·rw[h1] at h;cases h;rw[h0];simp
 rcases zii hib with h1|h1|h1|h1|h1|h1|h1|h1|h1|h1|h1|h1|h1|h1|h1
 ·rw[zmQ h1] at h
  obtain⟨r,hr,rfl⟩:=Option.map_eq_some_iff.1 h;exact⟨rfl,hpush hr⟩
 ·rw[zcs h1] at h
  split at h
  ·cases h
  ·obtain⟨r,hr,rfl⟩:=Option.map_eq_some_iff.1 h;exact⟨rfl,hpush hr⟩
 ·rw[zct h1] at h
  obtain⟨r,hr,rfl⟩:=Option.map_eq_some_iff.1 h;exact⟨by simp,by have:=htake hr;simp only;omega⟩
 ·rw[zcu h1] at h
  obtain⟨r,hr,rfl⟩:=Option.map_eq_some_iff.1 h
  obtain⟨s1,_,hr⟩:=Option.bind_eq_some_iff.1 hr
  obtain⟨s2,_,hr⟩:=Option.bind_eq_some_iff.1 hr
  exact⟨rfl,hpush hr⟩
 ·rw[zmR h1] at h
  obtain⟨r,hr,rfl⟩:=Option.map_eq_some_iff.1 h;exact⟨rfl,hpush hr⟩
 ·rw[zmS h1] at h
  obtain⟨r,hr,rfl⟩:=Option.map_eq_some_iff.1 h;exact⟨rfl,hpush hr⟩
 ·rw[zid h1] at h
  split at h
  ·obtain⟨r,hr,rfl⟩:=Option.map_eq_some_iff.1 h
   obtain⟨s1,_,hr⟩:=Option.bind_eq_some_iff.1 hr
   exact⟨rfl,hpush hr⟩
  ·cases h
 ·rw[zie h1] at h
  split at h
  ·obtain⟨r,hr,rfl⟩:=Option.map_eq_some_iff.1 h
   obtain⟨s1,h1,hr⟩:=Option.bind_eq_some_iff.1 hr
   have:=zkU h1
   have:=zkU hr
   exact⟨rfl,by simp only;omega⟩
  ·cases h
 ·rw[zif h1] at h
  split at h
  ·obtain⟨r,hr,rfl⟩:=Option.map_eq_some_iff.1 h
   obtain⟨s1,_,hr⟩:=Option.bind_eq_some_iff.1 hr
   obtain⟨s2,_,hr⟩:=Option.bind_eq_some_iff.1 hr
   exact⟨rfl,hpush hr⟩
  ·cases h
 ·rw[zih h1] at h
  obtain⟨r,hr,rfl⟩:=Option.map_eq_some_iff.1 h;have:=zkU hr;exact⟨rfl,by simp only;omega⟩
 ·rw[zmT (.inl h1)] at h
  obtain⟨r,hr,rfl⟩:=Option.map_eq_some_iff.1 h;have:=zkU hr;exact⟨rfl,by simp only;omega⟩
 ·rw[zmU h1] at h
  obtain⟨r,hr,rfl⟩:=Option.map_eq_some_iff.1 h;have:=zcx hr;exact⟨rfl,by simp only;omega⟩
 ·rw[zmV h1] at h
  cases h;exact⟨rfl,hs⟩
 ·rw[zmT (.inr h1)] at h
  obtain⟨r,hr,rfl⟩:=Option.map_eq_some_iff.1 h;have:=zkU hr;exact⟨rfl,by simp only;omega⟩
 ·rw[zcv h1] at h
  obtain⟨r,hr,rfl⟩:=Option.map_eq_some_iff.1 h
  obtain⟨s1,_,hr⟩:=Option.bind_eq_some_iff.1 hr
  exact⟨rfl,hpush hr⟩
theorem zdL {m:Mth} (h:mthB m=true):∀x∈m.maps,(x.locals.length:Int)=m.locals∧(x.stack.length:Int)≤m.stack:=by
 obtain⟨_,_,_,_,_,_,_,_,h9⟩:=ze7 h
 unfold zf4 at h9
 simp only[lz5] at h9
 have:∀(xs:List Mp) (len locals stack last:Int),zf3 len locals stack last xs=true->∀x∈xs,(x.locals.length:Int)=locals∧(x.stack.length:Int)≤stack:=by
  intro xs
  induction xs with
  | nil=>intro _ _ _ _ _ x hx;cases hx
  | cons y ys ih=>
   intro len locals stack last hh x hx
   rw[zf3] at hh
   simp only[lz5] at hh
   rcases List.mem_cons.1 hx with rfl|hx
   ·have:=hh.1
    unfold zfY at this
    simp only[lz5,decide_eq_true_eq] at this
    omega
   ·exact ih _ _ _ _ hh.2 x hx
 exact this _ _ _ _ _ h9.2
theorem zdM {m:Mth} (h:mthB m=true) {j:Int} {x:Mp} (hx:mapF m j=some x):(x.locals.length:Int)=m.locals∧(x.stack.length:Int)≤m.stack:=zdL h x (List.mem_of_find?_eq_some hx)
end Go.Proofs.YthembcdcdnffeaaGreat
