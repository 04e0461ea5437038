/- The reference's l5Map: what is told ahead of an instruction. -/
import Derived.Test.YthembcdcdnffeaaGreatEG31
set_option maxHeartbeats 8000000
set_option maxRecDepth 100000
namespace Go.Proofs.YthembcdcdnffeaaGreat
open Go.RowKit
def zir (X:Nat->Prop) (o:Option Mp) (w:World) (e:Ending) (w':World):Prop:=Fr No w w'∧match o with
 | some x=>∃vl vs,e=.returned (.tuple #[.agg #[.int .i64 x.at_,vl,vs],.bool true])∧Sl X w' 2 TagC vl x.locals∧Sl X w' 2 TagC vs x.stack
 | none=>e=.returned (.tuple #[.agg #[.int .i64 0,.slice none 0 0,.slice none 0 0],.bool false])
theorem zis {xs:List Mp} {j:Int} {k:Nat} (hk:k<xs.length) (hn:∀x∈xs.take k,(x.at_ == j)=false) (hm:(xs[k].at_ == j)=true):xs.find? (fun x=>x.at_ == j)=some xs[k]:=by
 have e:xs=xs.take k ++ xs[k] :: xs.drop (k+1):=by rw[<-List.drop_eq_getElem_cons hk,List.take_append_drop]
 conv=>lhs;rw[e]
 rw[List.find?_append,List.find?_eq_none.2 (fun x hx=>by simpa using hn x hx),List.find?_cons,hm]
 rfl
theorem zit (X:Nat->Prop) (m:Mth) (cs:List Value) (j:Int) (w:World) (h:MthC X w cs m):
  Calls Tryz.prog 44 #[.agg cs.toArray,.int .i64 j] w (zir X (mapF m j) w):=by
 obtain⟨va,vc,vm,rfl,_,_,ha,hc,hm⟩:=h
 obtain⟨A1,c1,rfl,_,_⟩:=ha.form
 obtain⟨A2,c2,rfl,_,_⟩:=hc.form
 obtain⟨A3,c3,rfl,_,hlen⟩:=hm.form
 unfold maxLen at hlen
 clear ha hc
 have hF:mapF m j=m.maps.find? (fun x=>x.at_ == j):=rfl
 have hN:=fun(hn:∀x∈m.maps,(x.at_ == j)=false)=>(hF.trans (List.find?_eq_none.2 (fun x hx=>by simpa using hn x hx)):mapF m j=none)
 have hY:=fun(k:Nat) (hk:k<m.maps.length) (hn:∀x∈m.maps.take k,(x.at_ == j)=false) (h9:(m.maps[k].at_ == j)=true)=>(hF.trans (zis hk hn h9):mapF m j=some m.maps[k])
 clear hF
 obtain⟨wA,hwA⟩:∃wA,wA=((w.alloc (.cells #[.string m.name,.slice A1 m.args.length c1,.int .i64 m.ret.kind,.string m.ret.name,.int .i64 m.locals,.int .i64 m.stack,.slice A2 m.code.length c2,.slice A3 m.maps.length c3] 60)).alloc (.cells #[.int .i64 0,.slice none 0 0,.slice none 0 0] 93)):=⟨_,rfl⟩
 have hfA:Fr No w wA:=hwA▸frc
 have B0:=(hwA▸bxc:Bx wA w.heap.size 60 #[.string m.name,.slice A1 m.args.length c1,.int .i64 m.ret.kind,.string m.ret.name,.int .i64 m.locals,.int .i64 m.stack,.slice A2 m.code.length c2,.slice A3 m.maps.length c3])
 have B1:=(hwA▸bxc:Bx wA (w.heap.size+1) 93 #[.int .i64 0,.slice none 0 0,.slice none 0 0])
 go_enter Tryz.func44,Tryz.ntmps44
 go_wp2
 rw[<-hwA]
 replace hwA:=Lib.hid hwA
 go_loopw [6] (fun i wr=>∃k:Nat,k≤m.maps.length∧i=.int .i64 k∧Hid (∀x∈m.maps.take k,(x.at_ == j)=false)∧Fr No wA wr) (fun i _=>m.maps.length-(intOf i).toNat)
 case atStart=>exact⟨0,Nat.zero_le _,rfl,by simp[Hid],Fr.refl _ _⟩
 case round=>
  obtain⟨k,hk,rfl,hn,hf⟩:=hrel
  have m7:=(B0.keep hf).cell 7
  simp only[List.getElem?_toArray,lz4,lz3] at m7
  obtain⟨r0,r1,r2⟩:=(B1.keep hf).c3
  have rf:=fun o=>(B1.keep hf).frozen o
  have ml:=(B0.keep hf).lt
  have rl:=(B1.keep hf).lt
  by_cases hlt:k<m.maps.length
  ·obtain⟨b,off,Al,cl,As,cs,rfl,_,e0,e1,e2,g1,g2,_⟩:=hm.map hlt
   have e0:=(hfA.trans0 hf).keep0 e0
   have e1:=(hfA.trans0 hf).keep0 e1
   have e2:=(hfA.trans0 hf).keep0 e2
   clear hm
   cases hq:(m.maps[k].at_ == j)
   ·have hV:Hid (∀x∈m.maps.take (k+1),(x.at_ == j)=false):=by
     intro x hx
     rw[List.take_add_one,List.mem_append] at hx
     rcases hx with hx|hx
     ·exact hn.out x hx
     ·rw[lz8 hlt] at hx
      simp only[Option.toList_some,List.mem_singleton] at hx
      rw[hx];exact hq
    clear hY hN hn g1 g2
    generalize m.maps[k]=x at *
    go_wp2
    go_roundw
    case rel=>exact⟨k+1,by omega,by go_num,hV,by exact frc⟩
    case measure=>simp[intOf];omega
   ·have hV:=hY k hlt hn.out hq
    clear hY hN hn
    generalize m.maps[k]=x at *
    rw[hV]
    go_wp2
    refine bodyPost_ret (v:=.tuple #[.agg #[.int .i64 x.at_,.slice Al x.locals.length cl,.slice As x.stack.length cs],.bool true]) (by simp[results,Tryz.results44,go_sem, *]) rfl ?_
    have hfz:Fr No w (((wr.setCell ⟨w.heap.size+1,0,none⟩ (.int .i64 x.at_)).setCell ⟨w.heap.size+1,1,none⟩ (.slice Al x.locals.length cl)).setCell ⟨w.heap.size+1,2,none⟩ (.slice As x.stack.length cs)):=frc
    exact⟨hfz,_,_,rfl,g1.k0 hfz,g2.k0 hfz⟩
  ·have hV:=hN (fun x hx=>hn.out x (by rwa [List.take_of_length_le (by omega)]))
   clear hY hN hn hm
   go_wp2
   refine bodyPost_ret (v:=.tuple #[.agg #[.int .i64 0,.slice none 0 0,.slice none 0 0],.bool false]) (by simp[results,Tryz.results44,go_sem, *]) rfl ?_
   refine⟨frc,?_⟩
   rw[hV]
def copV (xs:List Tag) (base:Nat):Value->World->Prop:=fun v W=>∃A c,v=.slice A xs.length c∧zcX W tTag v xs∧∀q,zcP v=some q->base≤q∧0<xs.length
theorem ziu (xs:List Tag) (base:Nat):MonP (copV xs base):=fun _ _ _ ⟨A,c,h1,h2,h3⟩ hf=>⟨A,c,h1,h2.keep hf (fun _ _ h=>h),h3⟩
theorem ziv {xs:List Tag} {base:Nat} {v:Value} {W:World} (h:copV xs base v W) (h0:0<xs.length):zcP v=some (bk v)∧bk v<W.heap.size:=by
 obtain⟨A,c,h1,h2,h3⟩:=h
 obtain⟨g,c',cur,rfl,_,_,hb,_,_,hq⟩:=h2.1.at_ h0
 exact⟨hq,h2.1.lt hq⟩
theorem ziw {xs:List Tag} {base:Nat} {v:Value} {W:World} {b:Bool} (hb:b=true) (hb2:b=decide (0<xs.length)) (h:copV xs base v W):bk v<W.heap.size:=(ziv h (by rw[hb] at hb2;simpa using hb2.symm)).2
def empV:Value->World->Prop:=fun v _=>∃b,v=.slice (some ⟨b,0,none⟩) 0 0
theorem zix:MonP empV:=fun _ _ _ h _=>h
theorem ziy {o:Oper} {a':Act} {W:World} {s x:Operand} {X:Nat->Prop} {v:Value} {xs:List Tag} {base:Nat} {A0:Addr}
  (ho:o.op=.call { callee:=.builtin .append,args:=#[s,x],argTypes:=#[75,75] }) (hs:a'.eval s=.slice (some A0) 0 0) (hx:a'.eval x=v) (h:Sl X W 2 TagC v xs) (hl:xs.length≤1000) (hb:base≤W.heap.size):
  zaa Tryz.prog (fun v W'=>Fr No W W'∧copV xs base v W'∧(decide (0<xs.length)=true->W.heap.size≤bk v)) ((execOp a'.eval o).run Tryz.prog W):=by
 have hsm:=h.small
 obtain⟨i0,hi,hz0,hz1,hz2⟩:=info_parts ze8
 rcases Nat.eq_zero_or_pos xs.length with h0|h0
 ·obtain rfl:=List.eq_nil_of_length_eq_zero h0
  obtain⟨A,cap,rfl,_,_⟩:=h.form
  have hr:=zcT (P:=Tryz.prog) W 75 o.type 116 i0 Tryz.underlying75 hi (some A0) A cap
  unfold execOp
  simp only[List.length_nil] at hx
  simp only[ho,resolve,invoke,builtin,Sem.run_bind,Sem.run_pure,Result.andThen_ok,List.map_toArray,List.map_cons,List.map_nil,hs,hx,hr,zaa]
  exact⟨Fr.refl _ _,⟨_,_,rfl,⟨.inr ⟨rfl,rfl,_,rfl⟩,fun _ h=>absurd h (by simp)⟩,fun q hq=>by rw[zcQ,if_pos rfl] at hq;cases hq⟩,fun h=>by simp at h⟩
 ·obtain⟨A,cap,rfl,_,_⟩:=h.form
  obtain⟨b,off,cs,hA,_,_,_⟩:=h.cells h0
  cases hA
  obtain⟨g',cap',w',hr,hrow,hcap,hgf,hor⟩:=zcR (P:=Tryz.prog) W 75 o.type tTag i0 (.agg #[.int .i64 0,.string ⟨#[]⟩]) 2 24 Tryz.underlying75 hi hz0 hz1 hz2 rfl (by decide) (.slice (some A0) 0 0) 0 [] (.inr ⟨rfl,rfl,_,rfl⟩) ⟨b,off,none⟩ xs.length cap (xs.flatMap zcU) (zcW xs) h.news (by intro u hu;obtain⟨t,_,ht⟩:=List.mem_flatMap.1 hu;simp only[zcU,List.mem_cons,List.not_mem_nil,or_false] at ht;rcases ht with rfl|rfl<;>rfl) h0 (by unfold maxLen;omega) (by omega)
  simp only[Nat.zero_add,List.nil_append] at hrow hcap hr
  have hor2:g'=W.heap.size:=by
   rcases hor with h9|h9
   ·rw[zcQ,if_pos rfl] at h9;cases h9
   ·exact h9
  unfold execOp
  simp only[ho,resolve,invoke,builtin,Sem.run_bind,Sem.run_pure,Result.andThen_ok,List.map_toArray,List.map_cons,List.map_nil,hs,hx,hr,zaa]
  refine⟨hgf.mono (fun _ _ e=>by rw[zcQ,if_pos rfl] at e;cases e),⟨_,_,rfl,⟨hrow,hsm⟩,fun q hq=>?_⟩,fun _=>?_⟩
  ·rw[zcQ,if_neg (by omega)] at hq
   cases hq
   exact⟨by show base≤g';omega,h0⟩
  ·show W.heap.size≤g'
   omega
def CopP (f:Frm) (w:World) (e:Ending) (w':World):Prop:=Fr No w w'∧∃Al cl As cs,e=.returned (.agg #[.slice Al f.locals.length cl,.slice As f.stack.length cs])∧FrmI w' (.slice Al f.locals.length cl) (.slice As f.stack.length cs) f∧∀q,rB (.slice Al f.locals.length cl) (.slice As f.stack.length cs) q->w.heap.size≤q
theorem ziz (Y:Nat->Prop) (vl vs:Value) (f:Frm) (w:World) (h1:Sl Y w 2 TagC vl f.locals) (h2:Sl Y w 2 TagC vs f.stack) (hl:f.stack.length≤1000) (hll:f.locals.length≤1000):
  Calls Tryz.prog 46 #[.agg #[vl,vs]] w (CopP f w):=by
 obtain⟨Al,cl,rfl,_,_⟩:=h1.form
 obtain⟨As,cs,rfl,_,_⟩:=h2.form
 obtain⟨wA,hwA⟩:∃wA,wA=((w.alloc (.cells #[.slice Al f.locals.length cl,.slice As f.stack.length cs] tFr)).alloc (.cells #[.slice none 0 0,.slice none 0 0] tFr)):=⟨_,rfl⟩
 have hfA:Fr No w wA:=hwA▸frc
 have hsA:wA.heap.size=w.heap.size+2:=by rw[hwA];simp
 have B0:=(hwA▸bxc:Bx wA w.heap.size tFr #[.slice Al f.locals.length cl,.slice As f.stack.length cs])
 have B1:=(hwA▸bxc:Bx wA (w.heap.size+1) tFr #[.slice none 0 0,.slice none 0 0])
 have K0:=B0.r2
 have hA:=fun W (hW:Fr No wA W)=>h1.keep (R':=TagC) (hfA.trans0 hW) zN (fun _ _ _ h=>h)
 have hB:=fun W (hW:Fr No wA W)=>h2.keep (R':=TagC) (hfA.trans0 hW) zN (fun _ _ _ h=>h)
 clear h1 h2 B0
 go_enter Tryz.func46,Tryz.ntmps46
 go_wp2_with fail
 rw[<-hwA]
 replace hwA:=Lib.hid hwA
 refine zn0 8 11 [mC (empV) (zix),mV (.pointer (some ⟨w.heap.size,0,none⟩)),mV (.slice Al f.locals.length cl),mA (decide (0<f.locals.length)) (copV f.locals wA.heap.size) (ziu _ _) (fun hb v W h=>ziw hb rfl h),mC (empV) (zix),mV (.pointer (some ⟨w.heap.size,1,none⟩)),mV (.slice As f.stack.length cs),mA (decide (0<f.stack.length)) (copV f.stack wA.heap.size) (ziu _ _) (fun hb v W h=>ziw hb rfl h)] (by kernel_rfl) (by kernel_rfl) (by simp) ?_ ?_
 ·refine hc4 ?_ ?_ ?_ ?_ <| hc4 ?_ ?_ ?_ ?_ <| hopZ
  all_goals (intro a' W hW hoff hdep;have hbs:=hW.size;have H1:=hoff 1 rfl;refine nE rfl ?_)
  ·simp[execOp,go_sem,zaa];exact⟨(Fr.refl _ _).alloc _,_,rfl⟩
  ·simp[execOp,Act.eval,H1,go_sem,zaa];exact fr1 rfl
  ·have D4:_=_:=hdep 1 4 rfl;clear hoff hdep;simp[execOp,Act.eval,go_sem,zaa, *];exact fr1 rfl
  ·obtain⟨b0,D3⟩:(empV) _ W:=hdep 0 3 rfl
   have D5:_=_:=hdep 2 5 rfl
   exact ziy rfl (by simpa[Act.eval] using D3) (by simpa[Act.eval] using D5) (hA W hW) hll hbs
  ·simp[execOp,go_sem,zaa];exact⟨(Fr.refl _ _).alloc _,_,rfl⟩
  ·simp[execOp,Act.eval,H1,go_sem,zaa];exact fr1 rfl
  ·have D8:_=_:=hdep 5 8 rfl;clear hoff hdep;simp[execOp,Act.eval,go_sem,zaa, *];exact fr1 rfl
  ·obtain⟨b0,D7⟩:(empV) _ W:=hdep 4 7 rfl
   have D9:_=_:=hdep 6 9 rfl
   exact ziy rfl (by simpa[Act.eval] using D7) (by simpa[Act.eval] using D9) (hB W hW) hl hbs
 intro vs WR hWR hv hne
 obtain⟨b0R0,e0⟩:=hv 0 (by omega)
 obtain⟨A3R3,c3R3,e3,hT3R3,hq3R3⟩:=hv 3 (by omega)
 obtain⟨b0R4,e4⟩:=hv 4 (by omega)
 obtain⟨A3R7,c3R7,e7,hT3R7,hq3R7⟩:=hv 7 (by omega)
 simp only[lz6,List.drop_zero,znO,znM,znK,znR,Nat.zero_add,Nat.reduceAdd,e0,e3,e4,e7]
 simp only[Act.put,lz0,lz1,lz2]
 clear e0 e4 hv
 have hne37:=hne 3 7 (by omega) (by omega) (by omega)
 simp only[List.map_cons,List.getD_cons_succ,List.getD_cons_zero,mA] at hne37
 rw[e3,e7] at hne37
 have hap:∀q,zcP (.slice A3R3 f.locals.length c3R3)=some q->¬zcP (.slice A3R7 f.stack.length c3R7)=some q:=fun q h3 h7=>by
  rw[e3] at hT3R3 hq3R3
  rw[e7] at hT3R7 hq3R7
  have n3:=(hq3R3 q h3).2
  have n7:=(hq3R7 q h7).2
  have x3:=(ziv (xs:=f.locals) (base:=wA.heap.size) ⟨_,_,rfl,hT3R3,hq3R3⟩ n3).1
  have x7:=(ziv (xs:=f.stack) (base:=wA.heap.size) ⟨_,_,rfl,hT3R7,hq3R7⟩ n7).1
  rw[h3] at x3
  rw[h7] at x7
  exact hne37 (by simpa using n3) (by simpa using n7) ((Option.some.inj x3).symm.trans (Option.some.inj x7))
 rw[e3] at hT3R3 hq3R3
 rw[e7] at hT3R7 hq3R7
 have hJ:FrmI WR (.slice A3R3 f.locals.length c3R3) (.slice A3R7 f.stack.length c3R7) f:=⟨hT3R3,hT3R7,hap⟩
 have C1:=B1.keep hWR
 obtain⟨z0,z1⟩:=C1.c2
 have zf:=fun i=>C1.frozen i
 have zl:=C1.lt
 clear K0 hA hB hne37 hne
 go_wp2
 refine bodyPost_ret (v:=.agg #[.slice A3R3 f.locals.length c3R3,.slice A3R7 f.stack.length c3R7]) (by simp[results,Tryz.results46,go_sem, *]) rfl ?_
 have hst:Fr (fun b=>b=w.heap.size+1) WR ((WR.setCell ⟨w.heap.size+1,0,none⟩ (.slice A3R3 f.locals.length c3R3)).setCell ⟨w.heap.size+1,1,none⟩ (.slice A3R7 f.stack.length c3R7)):=((Fr.refl (fun b=>b=w.heap.size+1) WR).setCellX (p:=⟨w.heap.size+1,0,none⟩) (Eq.refl (w.heap.size+1)) _).setCellX (p:=⟨w.heap.size+1,1,none⟩) (Eq.refl (w.heap.size+1)) _
 refine⟨(hfA.trans0 hWR).trans hst (fun b hb e=>by omega),_,_,_,_,rfl,hJ.keep hst (fun q hq e=>by subst e;exact hJ.ne C1 zkN hq),fun q hq=>?_⟩
 rcases hq with hq|hq
 ·have:=(hq3R3 q hq).1;omega
 ·have:=(hq3R7 q hq).1;omega
theorem ziA {p:Plan} {k:Int} {m:Mth} {f:Frm} {i:Ins} (h:¬(i.op=11∨i.op=12∨i.op=13)):zcI p k m f i=true:=by unfold zcI;rw[if_neg h]
theorem ziB {p:Plan} {k:Int} {m:Mth} {f:Frm} {i:Ins} (h:i.op=11∨i.op=12∨i.op=13):zcI p k m f i=match mapF m i.a with|none=>false|some x=>zcH p k f x:=by unfold zcI;rw[if_pos h];cases mapF m i.a<;>rfl
theorem ziC (X Y Z:Nat->Prop) (p:Plan) (v vl vs:Value) (k0:Nat) (m:Mth) (ms:List Value) (f:Frm) (i:Ins) (w:World) (hp:lodB p=true) (h:Sl X w 2 (KprC X w) v p.keepers) (hk0:k0<p.keepers.length) (hm:MthC Y w ms m) (h1:Sl Z w 2 TagC vl f.locals) (h2:Sl Z w 2 TagC vs f.stack):
  Calls Tryz.prog 48 #[.agg #[v],.int .i64 k0,.agg ms.toArray,.agg #[vl,vs],.agg #[.int .i64 i.op,.int .i64 i.a,.string i.name,.string i.member]] w (zgm (zcI p k0 m f i) w):=by
 have hkw:=fun W (hW:Fr No w W)=>h.keep (R':=KprC X W) hW zN (fun _ _ _ h=>h.keep hW zN)
 have HMp:=fun W (hW:Fr No w W)=>zit Y m ms i.a W (hm.keep hW zN)
 have HF:=fun(ml mk:Value) (x:Mp) W (hW:Fr No w W) (g1:Sl Y W 2 TagC ml x.locals) (g2:Sl Y W 2 TagC mk x.stack)=>ziq X Z Y p v vl vs ml mk k0 f x W hp (hkw W hW) hk0 (h1.k0 hW) (h2.k0 hW) g1 g2
 have hno:=ziA (p:=p) (k:=(k0:Int)) (m:=m) (f:=f) (i:=i)
 have hyes:=ziB (p:=p) (k:=(k0:Int)) (m:=m) (f:=f) (i:=i)
 generalize zcI p k0 m f i=L at *
 obtain⟨A,cap,rfl,_,_⟩:=h.form
 obtain⟨va,vc,vm,rfl,_,hrn,har,hcr,hxr⟩:=hm
 obtain⟨Aa,ca,rfl,_,_⟩:=har.form
 obtain⟨Ac,cc,rfl,_,_⟩:=hcr.form
 obtain⟨Ax,cx,rfl,_,_⟩:=hxr.form
 obtain⟨Al,cl,rfl,_,_⟩:=h1.form
 obtain⟨As,cs,rfl,_,_⟩:=h2.form
 obtain⟨io,ia,inm,im⟩:=i
 dsimp only at *
 clear h hkw har hcr hxr h1 h2
 by_cases ho:io=11∨io=12∨io=13
 ·replace hyes:=hyes ho
  clear hno
  obtain⟨wA,hwA⟩:∃wA,wA=((((w.alloc (.cells #[.slice A p.keepers.length cap] 32)).alloc (.cells #[.string m.name,.slice Aa m.args.length ca,.int .i64 m.ret.kind,.string m.ret.name,.int .i64 m.locals,.int .i64 m.stack,.slice Ac m.code.length cc,.slice Ax m.maps.length cx] 60)).alloc (.cells #[.slice Al f.locals.length cl,.slice As f.stack.length cs] tFr)).alloc (.cells #[.int .i64 io,.int .i64 ia,.string inm,.string im] 101)):=⟨_,rfl⟩
  have hfA:Fr No w wA:=hwA▸frc
  have B0:=(hwA▸bxc:Bx wA w.heap.size 32 #[.slice A p.keepers.length cap])
  have B2:=(hwA▸bxc:Bx wA (w.heap.size+2) tFr #[.slice Al f.locals.length cl,.slice As f.stack.length cs])
  have HM1:=HMp wA hfA
  unfold zir at HM1
  clear HMp
  go_enter Tryz.func48,Tryz.ntmps48
  cases hma:mapF m ia with
  | none=>
   simp only[hma] at hyes HM1
   subst hyes
   clear HF hma
   rcases ho with rfl|rfl|rfl
   all_goals
    go_wp2_with fail
    rw[<-hwA]
    replace hwA:=Lib.hid hwA
    refine HM1.mono ?_
    rintro e w1 ⟨hf1,rfl⟩
    go_wp2
    go_ret
    exact .mk rfl frc
  | some x=>
   simp only[hma] at hyes HM1
   have HFx:=fun ml mk=>HF ml mk x
   generalize zcH p k0 f x=S at *
   clear HF hma
   rcases ho with rfl|rfl|rfl
   all_goals
    go_wp2_with fail
    rw[<-hwA]
    replace hwA:=Lib.hid hwA
    refine HM1.mono ?_
    rintro e w1 ⟨hf1,ml,mk,rfl,g1,g2⟩
    obtain⟨Bl,dl',rfl,_,_⟩:=g1.form
    obtain⟨Bs,ds',rfl,_,_⟩:=g2.form
    have C0:=B0.keep hf1
    have C2:=B2.keep hf1
    have z0:=C0.c1
    have zl:=C0.lt
    obtain⟨d0,d1⟩:=C2.c2
    have dl:=C2.lt
    have q2:Fr No w1 (w1.alloc (.cells #[.int .i64 x.at_,.slice Bl x.locals.length dl',.slice Bs x.stack.length ds'] 93)):=frc
    have HG:=HFx _ _ _ ((hfA.trans0 hf1).trans0 q2) (g1.k0 q2) (g2.k0 q2)
    clear HFx g1 g2
    go_wp2_with fail
    refine HG.mono ?_
    rintro e w3 ⟨rfl,hf3⟩
    clear z0 zl d0 d1 dl
    go_wp2
    go_ret
    exact .mk hyes.symm frc
 ·replace hno:=hno ho
  have h11:(io != 11)=true:=by simp only[bne_iff_ne,ne_eq];omega
  have h12:(io != 12)=true:=by simp only[bne_iff_ne,ne_eq];omega
  have h13:(io != 13)=true:=by simp only[bne_iff_ne,ne_eq];omega
  clear hyes HF HMp ho
  go_enter Tryz.func48,Tryz.ntmps48
  go_wp2
  go_ret
  exact .mk hno.symm frc
def zdv (w:World) (b:Nat):Nat:=match w.cell? ⟨b,0,none⟩ with
 | some (.slice _ n _)=>n
 | _=>0
theorem zcX.one {w:World} {b:Nat} {t:Tag} (hB:Bx w b tTag #[.int .i64 t.kind,.string t.name]) (ht:t.name.size≤maxLen):zcX w tTag (.slice (some ⟨b,0,none⟩) 1 1) [t]:=
 ⟨.inl ⟨by simp[zcU],.inr ⟨b,1,_,rfl,Nat.zero_le _,hB,by simp,by unfold maxLen;omega,by simp,by simp[zcU]⟩⟩,fun x hx=>by rw[List.mem_singleton.1 hx];exact ht⟩
structure BegI (nm:Str) (xs:List Tag) (w:World) (A:Option Addr) (c:Nat) (cm:Array Value) (wr:World):Prop where
 row:zcX wr tTag (.slice A xs.length c) xs
 blk:∀q,zcP (.slice A xs.length c)=some q->w.heap.size+2≤q
 bm:Bx wr w.heap.size 60 cm
 br:Bx wr (w.heap.size+1) tFr #[.slice none 0 0,.slice none 0 0]
 bf:Bx wr (w.heap.size+3) tFr #[.slice A xs.length c,.slice none 0 0]
 fr:Fr No w wr
theorem BegI.next {nm:Str} {xs:List Tag} {w:World} {A:Option Addr} {c:Nat} {cm:Array Value} {W W2:World} (h:BegI nm xs w A c cm W) {x:Tag} (hx:x.name.size≤maxLen) {g' cap':Nat}
  (hrow:RowV W2 tTag 2 (.slice (some ⟨g',0,none⟩) (xs.length+1) cap') (xs.length+1) (xs.flatMap zcU ++ zcU x)) (hcap:xs.length+1≤cap') (hf:Fr (fun b=>zcP (.slice A xs.length c)=some b) W W2) (hor:zcP (.slice A xs.length c)=some g'∨w.heap.size+2≤g'):
  BegI nm (xs ++ [x]) w (some ⟨g',0,none⟩) cap' cm (W2.setCell ⟨w.heap.size+3,0,none⟩ (.slice (some ⟨g',0,none⟩) (xs.length+1) cap')):=by
 have el:(xs ++ [x]).length=xs.length+1:=by simp
 have hne:∀q,zcP (.slice A xs.length c)=some q->q≠w.heap.size+3:=fun q hq=>h.row.1.ne h.bf zkN hq
 have hst:Fr (fun b=>b=w.heap.size+3) W2 (W2.setCell ⟨w.heap.size+3,0,none⟩ (.slice (some ⟨g',0,none⟩) (xs.length+1) cap')):=Fr.one _ _ _ _
 have hbf:=h.bf.keepX hf (fun e=>hne _ e rfl)
 have hgb:zcP (.slice (some ⟨g',0,none⟩) (xs.length+1) cap')=some g':=by rw[zcQ,if_neg (by omega)]
 have hr2:zcX W2 tTag (.slice (some ⟨g',0,none⟩) (xs ++ [x]).length cap') (xs ++ [x]):=by
  refine⟨?_,fun y hy=>?_⟩
  ·rw[el,List.flatMap_append]
   simpa using hrow
  ·rcases List.mem_append.1 hy with hy|hy
   ·exact h.row.2 y hy
   ·rw[List.mem_singleton.1 hy];exact hx
 have hg3:g'≠w.heap.size+3:=hr2.1.ne hbf zkN (by rw[el];exact hgb)
 have hg2:w.heap.size+2≤g':=hor.elim (fun h'=>h.blk _ h') id
 refine⟨hr2.keep hst (fun q hq e=>?_),fun q hq=>?_,?_,?_,?_,?_⟩
 ·rw[el,hgb] at hq;cases hq;exact hg3 e
 ·rw[el,hgb] at hq;cases hq;exact hg2
 ·exact(h.bm.keepX hf (fun e=>by have:=h.blk _ e;omega)).keepX hst (by omega)
 ·exact(h.br.keepX hf (fun e=>by have:=h.blk _ e;omega)).keepX hst (by omega)
 ·rw[el];exact hbf.setc rfl
 ·exact(h.fr.trans hf (fun b hb e=>by have:=h.blk _ e;omega)).trans hst (fun b hb e=>by omega)
theorem BegI.keep0 {nm:Str} {xs:List Tag} {w:World} {A:Option Addr} {c:Nat} {cm:Array Value} {W W2:World} (h:BegI nm xs w A c cm W) (hf:Fr No W W2):BegI nm xs w A c cm W2:=
 ⟨h.row.keep hf (fun _ _ h=>h),h.blk,h.bm.keep hf,h.br.keep hf,h.bf.keep hf,h.fr.trans0 hf⟩
def BegP (f:Frm) (w:World) (e:Ending) (w':World):Prop:=Fr No w w'∧∃Al cl,e=.returned (.agg #[.slice Al f.locals.length cl,.slice none 0 0])∧FrmI w' (.slice Al f.locals.length cl) (.slice none 0 0) f∧∀q,zcP (.slice Al f.locals.length cl)=some q->w.heap.size≤q
theorem zdw (Y:Nat->Prop) (nm:Str) (m:Mth) (ms:List Value) (w:World) (hm:MthC Y w ms m) (hn:nm.size≤maxLen) (hok:mthB m=true):
  Calls Tryz.prog 43 #[.string nm,.agg ms.toArray] w (BegP (zcM nm m) w):=by
 obtain⟨hna,_,_,hlo,hhi,_⟩:=ze7 hok
 obtain⟨va,vc,vm,rfl,_,hrn,har,hcr,hxr⟩:=hm
 obtain⟨Aa,ca,rfl,_,_⟩:=har.form
 obtain⟨Ac,cc,rfl,_,_⟩:=hcr.form
 obtain⟨Ax,cx,rfl,_,_⟩:=hxr.form
 clear hcr hxr
 obtain⟨cm,hcm⟩:∃cm:Array Value,cm=#[.string m.name,.slice Aa m.args.length ca,.int .i64 m.ret.kind,.string m.ret.name,.int .i64 m.locals,.int .i64 m.stack,.slice Ac m.code.length cc,.slice Ax m.maps.length cx]:=⟨_,rfl⟩
 obtain⟨wA,hwA⟩:∃wA,wA=((((w.alloc (.cells #[.string m.name,.slice Aa m.args.length ca,.int .i64 m.ret.kind,.string m.ret.name,.int .i64 m.locals,.int .i64 m.stack,.slice Ac m.code.length cc,.slice Ax m.maps.length cx] 60)).alloc (.cells #[.slice none 0 0,.slice none 0 0] tFr)).alloc (.cells #[.int .i64 2,.string nm] tTag)).alloc (.cells #[.slice (some ⟨w.heap.size+2,0,none⟩) 1 1,.slice none 0 0] tFr)):=⟨_,rfl⟩
 have hfA:Fr No w wA:=hwA▸frc
 have hsA:wA.heap.size=w.heap.size+4:=by rw[hwA];simp
 have B0:=(hwA▸bxc:Bx wA w.heap.size 60 #[.string m.name,.slice Aa m.args.length ca,.int .i64 m.ret.kind,.string m.ret.name,.int .i64 m.locals,.int .i64 m.stack,.slice Ac m.code.length cc,.slice Ax m.maps.length cx])
 have B1:=(hwA▸bxc:Bx wA (w.heap.size+1) tFr #[.slice none 0 0,.slice none 0 0])
 have B2:=(hwA▸bxc:Bx wA (w.heap.size+2) tTag #[.int .i64 2,.string nm])
 have B3:=(hwA▸bxc:Bx wA (w.heap.size+3) tFr #[.slice (some ⟨w.heap.size+2,0,none⟩) 1 1,.slice none 0 0])
 have hI0:BegI nm (clsT nm :: (m.args.take 0).map zel) w (some ⟨w.heap.size+2,0,none⟩) 1 cm wA:=
  ⟨zcX.one (t:=clsT nm) B2 hn,fun q hq=>by rw[zcQ,if_neg (by omega)] at hq;cases hq;exact Nat.le_refl _,hcm▸B0,B1,B3,hfA⟩
 clear B0 B1 B2 B3
 obtain⟨i0,hi,hz0,hz1,hz2⟩:=info_parts ze8
 go_enter Tryz.func43,Tryz.ntmps43
 go_wp2_with fail
 refine zaE (fun W=>W=wA) (by rw[hwA]) ?_
 rintro W0 hW0
 rw[hW0]
 clear hW0
 replace hwA:=Lib.hid hwA
 replace hi:=Lib.hid hi
 replace hz0:=Lib.hid hz0
 replace hz1:=Lib.hid hz1
 replace hz2:=Lib.hid hz2
 go_loopw [6] (fun i wr=>∃(k:Nat) (A:Option Addr) (c:Nat),k≤m.args.length∧i=.int .i64 k∧Hid (BegI nm (clsT nm :: (m.args.take k).map zel) w A c cm wr)) (fun i _=>m.args.length-(intOf i).toNat)
 case atStart=>exact⟨0,_,_,Nat.zero_le _,rfl,hI0⟩
 case round=>
  clear hI0
  obtain⟨k,A,c,hk,rfl,hM⟩:=hrel
  have hB:=hM.out
  have hlen:(clsT nm :: (m.args.take k).map zel).length=k+1:=by simp;omega
  by_cases hlt:k<m.args.length
  ·obtain⟨b,off,rfl,_,c0,c1,z⟩:=(har.keep (R':=KndC) hB.fr zN (fun _ _ _ h=>h)).knd hlt
   have HT:=fun W=>zkM m.args[k] W z
   have hts:=zkS z
   have hstep:clsT nm :: (m.args.take (k+1)).map zel=(clsT nm :: (m.args.take k).map zel) ++ [zel m.args[k]]:=by
    rw[List.take_succ_eq_append_getElem hlt,List.map_append];rfl
   generalize m.args[k]=kd at *
   generalize hto:zel kd=tg at *
   clear hto
   generalize hxs:clsT nm :: (m.args.take k).map zel=xs at *
   have KM:=(hcm▸hB.bm:Bx wr w.heap.size 60 #[.string m.name,.slice (some ⟨b,off,none⟩) m.args.length ca,.int .i64 m.ret.kind,.string m.ret.name,.int .i64 m.locals,.int .i64 m.stack,.slice Ac m.code.length cc,.slice Ax m.maps.length cx]).r8
   have KF:=hB.bf.r2
   have KX0:=cr c0
   have KX1:=cr c1
   rw[hlen] at KF
   replace hB:=Lib.hid hB
   replace hstep:=Lib.hid hstep
   obtain⟨d0,d1,d2,d3,d4,d5,d6,d7,_,dl⟩:=KM wr (Fr.refl _ _)
   go_wp2_with fail
   clear d0 d1 d2 d3 d4 d5 d6 d7 dl
   refine zn0 9 27 [mV (.pointer (some ⟨w.heap.size+3,0,none⟩)),mV (.slice A (k+1) c),mV (.pointer (some ⟨w.heap.size,1,none⟩)),mV (.slice (some ⟨b,off,none⟩) m.args.length ca),mV (.int .i64 k),mV (.pointer (some ⟨b,off+k * 2,none⟩)),mV (.agg #[.int .i64 kd.kind,.string kd.name]),mV (.agg #[.int .i64 tg.kind,.string tg.name]),mS 116 (#[.int .i64 tg.kind,.string tg.name]) 1 wr.heap.size] (by kernel_rfl) (by kernel_rfl) (by simp) ?_ ?_
   ·refine hc4 ?_ ?_ ?_ ?_ <| hc4 ?_ ?_ ?_ ?_ <| hopC ?_ <| hopZ
    all_goals (intro a' W hW hoff hdep;have hbs:=hW.size;have H5:=hoff 5 rfl;have H3:=hoff 3 rfl;have H6:=hoff 6 rfl;refine nE rfl ?_)
    ·simp[execOp,Act.eval,H5,go_sem,zaa];exact fr1 rfl
    ·have D18:_=_:=hdep 0 18 rfl;clear hoff hdep;simp[execOp,Act.eval,go_sem,zaa, *];exact fr1 rfl
    ·simp[execOp,Act.eval,H3,go_sem,zaa];exact fr1 rfl
    ·have D20:_=_:=hdep 2 20 rfl;clear hoff hdep;simp[execOp,Act.eval,go_sem,zaa, *];exact fr1 rfl
    ·simp[execOp,Act.eval,H6,go_sem,zaa];exact fr1 rfl
    ·have D21:_=_:=hdep 3 21 rfl;have D22:_=_:=hdep 4 22 rfl;clear hoff hdep;simp[execOp,Act.eval,go_sem,zaa, *];exact fr1 rfl
    ·have D23:_=_:=hdep 5 23 rfl;clear hoff hdep;simp[execOp,Act.eval,go_sem,zaa, *];exact fr1 rfl
    ·have D24:_=_:=hdep 6 24 rfl;simp[Act.eval,D24,go_sem,zaa];exact(HT W).mono fun e w'' h=>⟨_,h.1,h.2,rfl⟩
    ·have D25:_=_:=hdep 7 25 rfl;simp at D25;simp[execOp,Act.eval,D25,go_sem,zaa];exact⟨(Fr.refl _ _).alloc _,⟨_,rfl,Bx.new_ rfl,hbs⟩,Nat.le_refl _⟩
   intro vs WR hWR hv hne
   obtain⟨b8,e8,hb8,hl8⟩:=hv 8 (by omega)
   simp only[lz6,List.drop_zero,znQ,znK,znR,Nat.zero_add,Nat.reduceAdd,e8]
   simp only[Act.put,lz0,lz1,lz2]
   clear e8 hv
   have hBR:=hB.out.keep0 hWR
   have hsrc:=Lib.hid (Bx.news (cs:=zcU tg) hb8)
   have hrowR:=hBR.row.1
   rw[hlen] at hrowR
   have hbfR:=hBR.bf
   have hne:∀q,zcP (.slice A (k+1) c)=some q->q≠w.heap.size+3:=fun q hq=>hrowR.ne hbfR zkN hq
   rw[hlen] at hbfR
   replace hBR:=Lib.hid hBR
   have hlh:=Lib.hid hlen
   clear KM KF KX0 KX1 HT hM hlen
   go_wp2_with (at_builtin;refine zcS _ rfl _ _ 75 rfl tTag i0 (.agg #[.int .i64 0,.string ⟨#[]⟩]) 2 24 Tryz.underlying75 hi.out hz0.out hz1.out hz2.out rfl (by decide) (.slice A (k+1) c) (k+1) (xs.flatMap zcU) rfl hrowR ⟨b8,0,none⟩ 1 1 (zcU tg) rfl rfl hsrc.out (by simp[zcU,Value.oneCell']) (by decide) (by unfold maxLen;omega) (by omega) ?_;intro g' cap' w2 hrow hcap hgf hor;have hbx:=hbfR.keepX hgf (fun e=>hne _ e rfl);obtain⟨z0,z1⟩:=hbx.c2;have zf:=(fun i=>hbx.frozen i);have zl:=hbx.lt)
   go_roundw
   case rel=>
    have hwr:=hB.out.fr.size
    have hb4:=hB.out.bf.lt
    have hR:=hWR.size
    have hx:=hBR.out.next hts (by rw[hlh.out];exact hrow) (by rw[hlh.out];exact hcap) (by rw[hlh.out];exact hgf) (by rw[hlh.out];exact hor.imp id (fun h=>by omega))
    rw[hlh.out] at hx
    refine⟨k+1,some ⟨g',0,none⟩,cap',by omega,by go_num,?_⟩
    show BegI _ _ _ _ _ _ _
    rw[hstep.out]
    exact hx
   case measure=>simp[intOf];omega
  ·have hke:k=m.args.length:=by omega
   subst hke
   rw[List.take_length] at hM hB hlen
   have hB0:=hM.out
   obtain⟨d0,d1,d2,d3,d4,d5,d6,d7⟩:=(hcm▸hB.bm:Bx wr w.heap.size 60 #[.string m.name,.slice Aa m.args.length ca,.int .i64 m.ret.kind,.string m.ret.name,.int .i64 m.locals,.int .i64 m.stack,.slice Ac m.code.length cc,.slice Ax m.maps.length cx]).c8
   have dl:=hB.bm.lt
   have hI1:BegI nm ((clsT nm :: m.args.map zel) ++ List.replicate (m.args.length+1-(m.args.length+1)) noT) w A c cm wr:=by
    rw[Nat.sub_self,List.replicate_zero,List.append_nil];exact hB
   have hargs:=Lib.hid har
   clear har hM hB hB0 hlen hk hlt
   go_wp2
   clear d0 d1 d2 d3 d4 d5 d6 d7 dl
   go_loopw [36] (fun _ wr=>∃(j:Nat) (A:Option Addr) (c:Nat),m.args.length+1≤j∧(j:Int)≤m.locals∧Hid (BegI nm ((clsT nm :: m.args.map zel) ++ List.replicate (j-(m.args.length+1)) noT) w A c cm wr)) (fun _ wr=>m.locals.toNat-zdv wr (w.heap.size+3))
   case atStart=>exact⟨_,_,_,Nat.le_refl _,hlo,hI1⟩
   case round=>
    clear hI1
    obtain⟨j,A,c,hj0,hj1,hM⟩:=hrel
    have hB:=hM.out
    have hlen:((clsT nm :: m.args.map zel) ++ List.replicate (j-(m.args.length+1)) noT).length=j:=by simp;omega
    have hstep:(clsT nm :: m.args.map zel) ++ List.replicate (j+1-(m.args.length+1)) noT=((clsT nm :: m.args.map zel) ++ List.replicate (j-(m.args.length+1)) noT) ++ [noT]:=by
     rw[show j+1-(m.args.length+1)=(j-(m.args.length+1))+1 by omega,List.replicate_succ',List.append_assoc]
    obtain⟨d0,d1,d2,d3,d4,d5,d6,d7⟩:=(hcm▸hB.bm:Bx wr w.heap.size 60 #[.string m.name,.slice Aa m.args.length ca,.int .i64 m.ret.kind,.string m.ret.name,.int .i64 m.locals,.int .i64 m.stack,.slice Ac m.code.length cc,.slice Ax m.maps.length cx]).c8
    have dl:=hB.bm.lt
    have hbf:=hB.bf
    have hrow:=hB.row.1
    have hbr:=hB.br
    by_cases hlt2:(j:Int)<m.locals
    ·generalize hxs:(clsT nm :: m.args.map zel) ++ List.replicate (j-(m.args.length+1)) noT=xs at *
     rw[hlen] at hbf hrow
     obtain⟨f0,f1⟩:=hbf.c2
     have ff:=fun i=>hbf.frozen i
     have fl:=hbf.lt
     have hne:∀q,zcP (.slice A j c)=some q->q≠w.heap.size+3:=fun q hq=>hrow.ne hbf zkN hq
     have hW:Fr No wr (wr.alloc (.cells #[.int .i64 0,.string ⟨#[]⟩] tTag)):=frc
     have hrowR:=hrow.keep0 hW
     have hbfR:=hbf.keep hW
     have hsrc:=Lib.hid (Bx.news (cs:=zcU noT) (Bx.new wr tTag #[.int .i64 0,.string ⟨#[]⟩]))
     replace hB:=Lib.hid hB
     replace hstep:=Lib.hid hstep
     have hlh:=Lib.hid hlen
     clear hM hlen hbr hrow hbf hW
     go_wp2_with (at_builtin;refine zcS _ rfl _ _ 75 rfl tTag i0 (.agg #[.int .i64 0,.string ⟨#[]⟩]) 2 24 Tryz.underlying75 hi.out hz0.out hz1.out hz2.out rfl (by decide) (.slice A j c) j (xs.flatMap zcU) rfl hrowR ⟨wr.heap.size,0,none⟩ 1 1 (zcU noT) rfl rfl hsrc.out (by simp[zcU,Value.oneCell']) (by decide) (by unfold maxLen;omega) (by omega) ?_;intro g' cap' w2 hrow hcap hgf hor;have hbx:=hbfR.keepX hgf (fun e=>hne _ e rfl);clear f0 f1 ff fl;obtain⟨z0,z1⟩:=hbx.c2;have zf:=(fun i=>hbx.frozen i);have zl:=hbx.lt)
     go_roundw
     case rel=>
      have hwr:=hB.out.fr.size
      have hb4:=hB.out.bf.lt
      have hBR:=hB.out.keep0 (show Fr No wr (wr.alloc (.cells #[.int .i64 0,.string ⟨#[]⟩] tTag)) from frc)
      have hx:=hBR.next (x:=noT) (Nat.zero_le _) (by rw[hlh.out];exact hrow) (by rw[hlh.out];exact hcap) (by rw[hlh.out];exact hgf) (by rw[hlh.out];exact hor.imp id (fun h=>by simp at h;omega))
      rw[hlh.out] at hx
      refine⟨j+1,some ⟨g',0,none⟩,cap',by omega,by omega,?_⟩
      show BegI _ _ _ _ _ _ _
      rw[hstep.out]
      exact hx
     case measure=>
      have e1:zdv wr (w.heap.size+3)=j:=by
       have:=hB.out.bf.cell 0
       unfold zdv
       rw[this]
       exact hlh.out
      have e2:zdv (w2.setCell ⟨w.heap.size+3,0,none⟩ (.slice (some ⟨g',0,none⟩) (j+1) cap')) (w.heap.size+3)=j+1:=by
       have:=(hbx.setc (i:=0) (u:=.slice (some ⟨g',0,none⟩) (j+1) cap') rfl).cell 0
       unfold zdv
       rw[this]
       rfl
      rw[e1,e2]
      omega
    ·have hje:(j:Int)=m.locals:=by omega
     have hF:zcM nm m=⟨(clsT nm :: m.args.map zel) ++ List.replicate (j-(m.args.length+1)) noT,[]⟩:=by
      unfold zcM
      rw[show m.locals.toNat=j by omega]
     generalize hxs:(clsT nm :: m.args.map zel) ++ List.replicate (j-(m.args.length+1)) noT=xs at *
     have hbk:=hB.blk
     have hrw:=hB.row
     have hfr:=hB.fr
     rw[hlen] at hbf hrw hbk
     obtain⟨f0,f1⟩:=hbf.c2
     have fl:=hbf.lt
     obtain⟨e0,e1⟩:=hbr.c2
     have ef:=fun i=>hbr.frozen i
     have el:=hbr.lt
     replace hF:=Lib.hid hF
     clear hM hB hbf hrow hstep
     go_wp2
     refine bodyPost_ret (v:=.agg #[.slice A j c,.slice none 0 0]) (by simp[results,Tryz.results43,go_sem, *]) rfl ?_
     have hst:Fr (fun b=>b=w.heap.size+1) wr ((wr.setCell ⟨w.heap.size+1,0,none⟩ (.slice A j c)).setCell ⟨w.heap.size+1,1,none⟩ (.slice none 0 0)):=((Fr.refl (fun b=>b=w.heap.size+1) wr).setCellX (p:=⟨w.heap.size+1,0,none⟩) (Eq.refl (w.heap.size+1)) _).setCellX (p:=⟨w.heap.size+1,1,none⟩) (Eq.refl (w.heap.size+1)) _
     rw[hF.out]
     refine⟨hfr.trans hst (fun b hb e=>by omega),A,c,by simp only[hlen],?_,?_⟩
     ·simp only[hlen]
      exact⟨hrw.keep hst (fun q hq e=>by have:=hbk q hq;omega),⟨RowV.nil _ _ _,fun _ h=>absurd h (by simp)⟩,fun q _ h=>by cases h⟩
     ·simp only[hlen]
      exact fun q hq=>by have:=hbk q hq;omega
end Go.Proofs.YthembcdcdnffeaaGreat
