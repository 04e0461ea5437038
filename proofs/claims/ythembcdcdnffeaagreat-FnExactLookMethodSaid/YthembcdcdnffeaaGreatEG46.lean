/- The program's verifier: what is known ahead of each instruction of a method, or the first wrong one (look). -/
import Derived.Test.YthembcdcdnffeaaGreatEG45
set_option maxHeartbeats 8000000
set_option maxRecDepth 100000
namespace Go.Proofs.YthembcdcdnffeaaGreat
open Go.RowKit
def zkX (l bl n:Nat) (p:Plan) (r:List Frm×Int) (w:World) (e:Ending) (w':World):Prop:=
 ∃v,e=.returned (.tuple #[v,.int .i64 r.2])∧Frms w' (fun q=>w.heap.size≤q) v r.1∧Lg w' l bl n p∧Fr (fun b=>b=bl) w w'
def lkN (m:Mth):Nat:=m.locals.toNat
def argF (s:Str) (m:Mth) (j:Nat):List Tag:=(clsT s :: (m.args.take j).map zel) ++ List.replicate (lkN m-(j+1)) noT
theorem zcX.new {W:World} {b:Nat} {cur:Array Value} {xs:List Tag} (hB:Bx W b tTag cur) (he:cur.toList=xs.flatMap zcU) (hl:xs.length≤maxLen) (hx:∀x∈xs,x.name.size≤maxLen):zcX W tTag (.slice (some ⟨b,0,none⟩) xs.length xs.length) xs:=by
 have hsz:cur.size=xs.length * 2:=by rw[<-Array.length_toList,he,zcW]
 refine⟨.inl ⟨zcW xs,.inr ⟨b,xs.length,cur,rfl,Nat.zero_le _,hB,Nat.le_refl _,hl,hsz,?_⟩⟩,hx⟩
 rw[he,<-zcW xs,List.take_length]
theorem zkY:(madeCells (Value.agg #[.int .i64 0,.string ⟨#[]⟩]).cells (1 * 2)).toList=(List.replicate 1 noT).flatMap zcU:=by kernel_rfl
theorem zkZ:(madeCells (Value.agg #[.int .i64 0,.string ⟨#[]⟩]).cells (2 * 2)).toList=(List.replicate 2 noT).flatMap zcU:=by kernel_rfl
theorem zk0:(madeCells (Value.agg #[.int .i64 0,.string ⟨#[]⟩]).cells (3 * 2)).toList=(List.replicate 3 noT).flatMap zcU:=by kernel_rfl
theorem zk1:(madeCells (Value.agg #[.int .i64 0,.string ⟨#[]⟩]).cells (4 * 2)).toList=(List.replicate 4 noT).flatMap zcU:=by kernel_rfl
theorem zk2:(madeCells (Value.agg #[.int .i64 0,.string ⟨#[]⟩]).cells (5 * 2)).toList=(List.replicate 5 noT).flatMap zcU:=by kernel_rfl
theorem zk3:(madeCells (Value.agg #[.int .i64 0,.string ⟨#[]⟩]).cells (6 * 2)).toList=(List.replicate 6 noT).flatMap zcU:=by kernel_rfl
theorem zk4 {N:Nat} (h1:1≤N) (h6:N≤6):(madeCells (Value.agg #[.int .i64 0,.string ⟨#[]⟩]).cells (N * 2)).toList=(List.replicate N noT).flatMap zcU:=by
 have h:N=1∨N=2∨N=3∨N=4∨N=5∨N=6:=by omega
 rcases h with rfl|rfl|rfl|rfl|rfl|rfl
 ·exact zkY
 ·exact zkZ
 ·exact zk0
 ·exact zk1
 ·exact zk2
 ·exact zk3
theorem zk5 {s:Str} {m:Mth} {j:Nat} (hj:j≤m.args.length) (h:(m.args.length:Int)+1≤m.locals):(argF s m j).length=lkN m:=by
 unfold argF lkN
 simp only[List.length_append,List.length_cons,List.length_map,List.length_take,List.length_replicate]
 omega
theorem zk6 {s:Str} {m:Mth} {j:Nat} (hj:j<m.args.length) (h:(m.args.length:Int)+1≤m.locals):(argF s m j).set (j+1) (zel m.args[j])=argF s m (j+1):=by
 unfold argF
 have e:lkN m-(j+1)=(lkN m-(j+1+1))+1:=by unfold lkN;omega
 have hl:(clsT s :: (m.args.take j).map zel).length=j+1:=by simp;omega
 rw[e,List.replicate_succ,List.set_append_right _ _ (by omega),hl,Nat.sub_self,lz1,List.take_add_one,lz8 hj]
 simp only[Option.toList_some,List.map_append,List.map_cons,List.map_nil,List.cons_append,List.append_assoc,List.nil_append]
theorem zk7 {s:Str} {m:Mth} (h:1≤m.locals):(List.replicate (lkN m) noT).set 0 (clsT s)=argF s m 0:=by
 unfold argF
 have e:lkN m=(lkN m-1)+1:=by unfold lkN;omega
 rw[e,List.replicate_succ]
 simp
theorem zk8 {s:Str} {m:Mth}:(⟨argF s m m.args.length,[]⟩:Frm)=zcM s m:=by
 unfold argF zcM lkN
 rw[List.take_length]
theorem look_ok (l bl n:Nat) (p:Plan) (k i a:Nat) (s:Str) (w:World) (h:Lg w l bl n p) (hh:Here p ⟨k,s⟩ k i) (hs:s.size≤maxLen) (ha:a<(zbG p ⟨k,s⟩).methods.length) (hops:zn3 ((zbG p ⟨k,s⟩).methods[a]).code) (hn:n<999900):
  Calls Tryz.prog 34 #[.pointer (some ⟨l,0,none⟩),.agg #[.int .i64 k,.string s,.int .i64 a]] w (zkX l bl (n+34) p (zcN p k s ((zbG p ⟨k,s⟩).methods[a])) w):=by
 have hok:=zg1 (Here.clsB h.ok hh) _ (List.getElem_mem ha)
 obtain⟨cs,⟨va,vc,vm,rfl,hq1,hq2,hA1,hA2,hA3⟩,HM⟩:=(let ⟨_,h1,_⟩:=h;zdQ h1 hh hs ha)
 generalize(zbG p ⟨k,s⟩).methods[a]=m at *
 obtain⟨hal,_,hka,hl1,hl6,hs1,hs5,_,_⟩:=ze7 hok
 obtain⟨N,hN⟩:∃N:Nat,m.locals=N:=⟨m.locals.toNat,by omega⟩
 obtain⟨MC,hMC⟩:∃MC,MC=madeCells (Value.agg #[.int .i64 0,.string ⟨#[]⟩]).cells (N * 2):=⟨_,rfl⟩
 have hmk:∀W,(Instr.makeSlice 75 (.int .i64 (N:Int)) (.int .i64 (N:Int))).run Tryz.prog W=.ok (.slice (some ⟨W.heap.size,0,none⟩) N N) (W.alloc (.cells MC tTag)):=fun W=>by
  rw[hMC];exact zgo (P:=Tryz.prog) 75 tTag _ 2 24 Tryz.underlying75 ze8 N (by omega) (by omega) W
 have hmf:∀(fn:Fn) (first cap:Array Value) (w:World),(Instr.makeFunc fn first cap).run Tryz.prog w=.ok (.func fn first cap) w:=fun _ _ _ _=>rfl
 obtain⟨Aa,ca,hva,_,_⟩:=hA1.form
 obtain⟨Ac,cc,hvc,_,_⟩:=hA2.form
 obtain⟨Ax,cx,hvm,_,_⟩:=hA3.form
 rw[hva,hvc,hvm] at HM
 rw[hva] at hA1
 rw[hvc] at hA2
 rw[hvm] at hA3
 clear hva hvc hvm
 rw[hN] at HM
 have hN16:1≤N∧N≤6:=by omega
 replace hN:=Lib.hid hN
 replace h:=Lib.hid h
 replace hh:=Lib.hid hh
 go_enter_defers Tryz.func34,Tryz.ntmps34
 go_wp2_with (go_at_call 58;refine(HM _ frc).mono ?_;rintro e w1 ⟨rfl,hf1⟩;have C3:Bx w1 w.heap.size 71 #[.int .i64 k,.string s,.int .i64 a]:=(by refine Bx.keep ?_ hf1;exact bxc);have C4:Bx w1 (w.heap.size+1) zns #[.slice none 0 0]:=(by refine Bx.keep ?_ hf1;exact bxc);have C5:Bx w1 (w.heap.size+1+1) tI64 #[.int .i64 0]:=(by refine Bx.keep ?_ hf1;exact bxc))
 refine zaE (fun W=>Fr No w W∧Bx W w.heap.size 71 #[.int .i64 k,.string s,.int .i64 a]∧Bx W (w.heap.size+1) zns #[.slice none 0 0]∧Bx W (w.heap.size+1+1) tI64 #[.int .i64 0]∧Bx W w1.heap.size 60 #[.string m.name,.slice Aa m.args.length ca,.int .i64 m.ret.kind,.string m.ret.name,.int .i64 N,.int .i64 m.stack,.slice Ac m.code.length cc,.slice Ax m.maps.length cx]) ?_ ?_
 ·exact⟨frc,C3.keep frc,C4.keep frc,C5.keep frc,bxc⟩
 rintro wB ⟨hfB,hB3,hB4,hB5,hB6⟩
 have hBlt:=hB5.lt
 have K3:=hB3.r3
 have K6:=hB6.r8
 have hl6':=hB6.lt
 refine zn0 8 21 [mV (.pointer (some ⟨l,0,none⟩)),mV (.pointer (some ⟨w.heap.size,0,none⟩)),mV (.pointer (some ⟨w.heap.size,0,none⟩)),mV (.int .i64 k),mV (.agg #[.string m.name,.slice Aa m.args.length ca,.int .i64 m.ret.kind,.string m.ret.name,.int .i64 N,.int .i64 m.stack,.slice Ac m.code.length cc,.slice Ax m.maps.length cx]),mV (.pointer (some ⟨w1.heap.size,4,none⟩)),mV (.int .i64 (N:Int)),mS 116 (MC) N wB.heap.size] (by kernel_rfl) (by kernel_rfl) (by simp) ?_ ?_
 ·refine hc4 ?_ ?_ ?_ ?_ <| hc4 ?_ ?_ ?_ ?_ <| hopZ
  all_goals (intro a' W hW hoff hdep;have hbs:=hW.size;have H0:=hoff 0 rfl;have H3:=hoff 3 rfl;have H6:=hoff 6 rfl;refine nE rfl ?_)
  ·simp[execOp,Act.eval,H0,go_sem,zaa];exact fr1 rfl
  ·simp[execOp,Act.eval,H3,go_sem,zaa];exact fr1 rfl
  ·have D14:_=_:=hdep 1 14 rfl;simp[execOp,Act.eval,D14,go_sem,zaa];exact fr1 rfl
  ·have D15:_=_:=hdep 2 15 rfl;clear hoff hdep;simp[execOp,Act.eval,go_sem,zaa, *];exact fr1 rfl
  ·exact gx0
  ·simp[execOp,Act.eval,H6,go_sem,zaa];exact fr1 rfl
  ·have D18:_=_:=hdep 5 18 rfl;clear hoff hdep;simp[execOp,Act.eval,go_sem,zaa, *];exact fr1 rfl
  ·have D19:_=_:=hdep 6 19 rfl;clear hoff hdep;simp[execOp,Act.eval,go_sem,zaa, *];exact⟨(Fr.refl _ _).alloc _,⟨_,rfl,Bx.new_ rfl,hbs⟩,Nat.le_refl _⟩
 intro vs WR hWR hv hne
 obtain⟨b7,e7,hb7,hl7⟩:=hv 7 (by omega)
 simp only[lz6,List.drop_zero,znQ,znK,znR,Nat.zero_add,Nat.reduceAdd,e7]
 simp only[Act.put,lz0,lz1,lz2]
 clear e7 hv
 clear K3 K6 hne
 have hb7lt:=hb7.lt
 go_wp2_with fail
 obtain⟨K,hK⟩:∃K:LkP,K=⟨w,l,bl,WR.heap.size,p,k,m,.slice Aa m.args.length ca,.slice Ac m.code.length cc,.slice Ax m.maps.length cx⟩:=⟨_,rfl⟩
 have hE:LkE K:=by
  rw[hK]
  exact⟨⟨n,h.out⟩,hh.out.2.1,hA1,hA2,hA3,hok,hq2,hops⟩
 have hkb:K.kb=WR.heap.size:=by rw[hK]
 refine zaE (fun W=>Fr No WR W∧Bx W K.kb zeY (lkC K 0 (.slice (some ⟨b7,0,none⟩) N N) (.slice none 0 0))) ?_ ?_
 ·refine⟨frc,?_⟩
  rw[hkb]
  unfold lkC
  rw[hK]
  simp only
  rw[hN.out]
  exact bxc
 rintro W3 ⟨hf3,hBK⟩
 rw[<-hkb]
 have hb7:=hb7.keep hf3
 have hB3:=(hB3.keep hWR).keep hf3
 have hB4:=(hB4.keep hWR).keep hf3
 have hB5:=(hB5.keep hWR).keep hf3
 have hB6:=(hB6.keep hWR).keep hf3
 have h61:¬b7=w1.heap.size:=by omega
 have h62:¬w1.heap.size=b7:=by omega
 have hfw3:Fr No w W3:=(hfB.trans0 hWR).trans0 hf3
 have hkw:w.heap.size≤K.kb:=by rw[hkb];have:=hfB.size;have:=hWR.size;omega
 have hW3s:wB.heap.size≤W3.heap.size:=by have:=hWR.size;have:=hf3.size;omega
 have hkB:wB.heap.size≤K.kb:=by rw[hkb];exact hWR.size
 have h7w:w.heap.size≤b7:=by have:=hfB.size;omega
 have h7k:b7<K.kb:=by rw[hkb];exact hb7lt
 have hS3:LkS K n (fun b=>b=bl∨b=K.kb∨b=b7) 0 ⟨List.replicate N noT,[]⟩ (.slice (some ⟨b7,0,none⟩) N N) (.slice none 0 0) W3:=by
  have hrow:zcX W3 tTag (.slice (some ⟨b7,0,none⟩) N N) (List.replicate N noT):=by
   have h9:=zcX.new (xs:=List.replicate N noT) hb7 (by rw[hMC];exact zk4 (by omega) (by omega)) (by rw[List.length_replicate];unfold maxLen;omega) (fun x hx=>by rw[List.eq_of_mem_replicate hx];exact Nat.zero_le _)
   rwa [List.length_replicate] at h9
  have hq7:∀q,zcP (.slice (some ⟨b7,0,none⟩) N N)=some q->q=b7:=fun q hq=>by
   rw[zcQ] at hq
   split at hq
   ·cases hq
   ·exact(Option.some.inj hq).symm
  have hw0:K.w0=w:=by rw[hK]
  have hbl0:K.bl=bl:=by rw[hK]
  have hll:((List.replicate N noT).length:Int)=K.m.locals:=by rw[hK,List.length_replicate];exact hN.out.symm
  refine⟨by rw[hw0];exact hfw3.of0,by rw[hK];exact h.out.keep hfw3,hBK,fun b hb=>?_,.inl hbl0,.inr (.inl rfl),by rw[hw0];exact hkw,hrow,⟨RowV.nil _ _ _,fun _ h=>absurd h (by simp)⟩,fun q hq=>⟨.inr (.inr (hq7 q hq)),by rw[hq7 q hq,hw0];exact h7w⟩,fun q hq=>(by cases hq),fun q _ hq=>(by cases hq),hll,?_⟩
  ·have hk3:=hBK.lt
   have:=hfw3.size
   have:=h.out.lt
   unfold LkP.late
   rw[hbl0,hw0]
   rcases hb with rfl|rfl|rfl
   ·exact⟨.inl rfl,by omega⟩
   ·exact⟨.inr hkw,hk3⟩
   ·exact⟨.inr h7w,by omega⟩
  ·rw[hK];simp only[List.length_nil];omega
 have KT:=hS3.cells
 have hla0:(argF s m 0).length=N:=by rw[zk5 (Nat.zero_le _) hl1];unfold lkN;have:=hN.out;omega
 have hlN:lkN m=N:=by unfold lkN;have:=hN.out;omega
 have hm1:1≤m.locals:=by have:=hN.out;omega
 replace hkb:=Lib.hid hkb
 replace hK:=Lib.hid hK
 replace hla0:=Lib.hid hla0
 replace hlN:=Lib.hid hlN
 have K3:=hB3.r3
 have K7:∀W,Fr No W3 W->(∀j,W.frozen? ⟨b7,j,none⟩=false)∧b7<W.heap.size:=fun W hW=>⟨fun j=>(hb7.keep hW).frozen j,(hb7.keep hW).lt⟩
 have hS3':=hS3
 replace hS3:=Lib.hid hS3
 replace hS3':=Lib.hid hS3'
 refine zn0 9 32 [mV (.pointer (some ⟨K.kb,0,none⟩)),mV (.pointer (some ⟨K.kb,0,none⟩)),mV (.pointer (some ⟨K.kb,11,none⟩)),mV (.slice (some ⟨b7,0,none⟩) N N),mV (.pointer (some ⟨w.heap.size,0,none⟩)),mV (.pointer (some ⟨w.heap.size,1,none⟩)),mV (.string s),mV (.agg #[.int .i64 2,.string s]),mV (.pointer (some ⟨b7,0,none⟩))] (by kernel_rfl) (by kernel_rfl) (by simp) ?_ ?_
 ·refine hc4 ?_ ?_ ?_ ?_ <| hc4 ?_ ?_ ?_ ?_ <| hopC ?_ <| hopZ
  all_goals (intro a' W hW hoff hdep;have hbs:=hW.size;have H7:=hoff 7 rfl;have H3:=hoff 3 rfl;refine nE rfl ?_)
  ·simp[execOp,Act.eval,H7,go_sem,zaa];exact fr1 rfl
  ·have D23:_=_:=hdep 0 23 rfl;simp[execOp,Act.eval,D23,go_sem,zaa];exact fr1 rfl
  ·have D24:_=_:=hdep 1 24 rfl;simp[execOp,Act.eval,D24,go_sem,zaa];exact fr1 rfl
  ·have D25:_=_:=hdep 2 25 rfl;clear hoff hdep;simp[execOp,Act.eval,go_sem,zaa, *];exact fr1 rfl
  ·simp[execOp,Act.eval,H3,go_sem,zaa];exact fr1 rfl
  ·have D27:_=_:=hdep 4 27 rfl;simp[execOp,Act.eval,D27,go_sem,zaa];exact fr1 rfl
  ·have D28:_=_:=hdep 5 28 rfl;clear hoff hdep;simp[execOp,Act.eval,go_sem,zaa, *];exact fr1 rfl
  ·have D29:_=_:=hdep 6 29 rfl;simp[Act.eval,D29,go_sem,zaa];exact(zet s _).mono (by rintro e w9 ⟨rfl,h9⟩;exact⟨_,rfl,h9,rfl⟩)
  ·have D26:_=_:=hdep 3 26 rfl;clear hoff hdep;simp[execOp,Act.eval,go_sem,zaa,↓IntWalk.iteOmega, *];exact fr1 rfl
 intro vs WR hWR hv hne
 simp only[lz6,List.drop_zero,znK,znR,Nat.zero_add,Nat.reduceAdd]
 simp only[Act.put,lz0,lz1,lz2]
 clear hv
 clear hne KT K3
 obtain⟨p0,p1⟩:WR.cell? ⟨b7,0,none⟩=some (.int .i64 0)∧WR.cell? ⟨b7,1,none⟩=some (.string ⟨#[]⟩):=by
  have h9:=(hS3.out.keep hE hWR).loc.1
  have e0:=h9.cell (g:=b7) (c:=N) (by rw[List.length_replicate]) (j:=0) (by simp only[List.length_replicate];omega)
  have e1:=h9.cell (g:=b7) (c:=N) (by rw[List.length_replicate]) (j:=1) (by simp only[List.length_replicate];omega)
  rw[e0,e1]
  have hN1:N=(N-1)+1:=by omega
  rw[hN1,List.replicate_succ]
  exact⟨rfl,rfl⟩
 obtain⟨pf,pl⟩:=K7 WR hWR
 have d1:WR.cell? ⟨w1.heap.size,1,none⟩=some (.slice Aa m.args.length ca):=(hB6.keep hWR).cell 1
 have df:=fun i=>(hB6.keep hWR).frozen i
 have dl:=(hB6.keep hWR).lt
 go_wp2_with fail
 refine zaE (fun W=>LkOk K n (fun b=>b=bl∨b=K.kb∨b=b7) 0 ⟨argF s m 0,[]⟩ W3 W) ?_ ?_
 ·have h9:=hS3.out.keep hE hWR
  have hq:LkS K n (fun b=>b=bl∨b=K.kb∨b=b7) 0 ⟨List.replicate N noT,[]⟩ (.slice (some ⟨b7,0,none⟩) (List.replicate N noT).length N) (.slice none 0 0) WR:=by rw[List.length_replicate];exact h9
  have h8:=(hq.setLoc hE (i:=0) (by rw[List.length_replicate];omega) (x:=clsT s) hs).from hWR
  rw[<-hlN.out,zk7 hm1] at h8
  exact h8
 rintro W4 hI0
 have hw3:=hfw3.size
 have hb0:∀b,(b=bl∨b=K.kb∨b=b7)->K.kb≠b->b=bl∨b=b7:=fun b h h2=>by omega
 have hblt:=h.out.lt
 have hKm:K.m=m:=by rw[hK.out]
 have hKa:K.va=.slice Aa m.args.length ca:=by rw[hK.out]
 have hKw:K.w0=w:=by rw[hK.out]
 replace hI0:=Lib.hid hI0
 replace hKm:=Lib.hid hKm
 replace hKa:=Lib.hid hKa
 replace hKw:=Lib.hid hKw
 clear hB6 d1 df dl p0 p1 pf pl hmk
 go_loopw [35] (fun i wr=>∃j:Nat,j≤m.args.length∧i=.int .i64 j∧Hid (LkOk K n (fun b=>b=bl∨b=K.kb∨b=b7) 0 ⟨argF s m j,[]⟩ W3 wr)) (fun i _=>m.args.length-(intOf i).toNat)
 case atStart=>exact⟨0,Nat.zero_le _,rfl,hI0⟩
 case round=>
  clear hI0
  obtain⟨j,hj,rfl,hI⟩:=hrel
  by_cases hlt:j<m.args.length
  ·obtain⟨Z',ul,us,hS,hz1,hz2,hf⟩:=hI.out
   clear hI
   have hlen:=zk5 (s:=s) (Nat.le_of_lt hlt) hl1
   rw[hlN.out] at hlen
   have hj1:j+1<(argF s m j).length:=by rw[hlen];have:=hN.out;omega
   obtain⟨g,c,he,hq,hc1,hc2,_,_,_⟩:=hS.loc.get (a:=j+1) hj1
   cases he
   have hA:=hE.args_at hS.anchor
   rw[hKa.out,hKm.out] at hA
   obtain⟨ba,oa,he,_,a0,a1,a2⟩:=hA.knd hlt
   cases he
   have hset:=fun W (hW:Fr No wr W)=>LkS.setLoc (n:=n) (hS.keep hE hW) hE (i:=j+1) hj1 (x:=zel m.args[j]) (zer a2)
   rw[zk6 hlt hl1] at hset
   have hgo:=fun W (hW:Fr No wr W)=>LkOk.then hz1 hz2 hf ((hset W hW).from hW)
   clear hset
   have KT:=hS.cells
   have hl0:=hS.loc.1
   generalize m.args[j]=x at *
   obtain⟨_,_,_,_,_,_,_,_,_,_,_,hkl⟩:=hS.cells wr (Fr.refl _ _)
   replace hS:=Lib.hid hS
   replace hl0:=Lib.hid hl0
   replace hgo:=Lib.hid hgo
   replace hlen:=Lib.hid hlen
   have hadd:IntKind.i64.wrap ((j:Int)+1)=((j+1:Nat):Int):=by rw[IntWalk.i64_in _ (by omega)];simp
   go_wp2_with fail
   refine zaE (fun W=>Fr No wr W∧Bx W wr.heap.size 56 #[.int .i64 x.kind,.string x.name]) ⟨frc,bxc⟩ ?_
   rintro W5 ⟨hf5,hB9⟩
   have K9:=hB9.r2
   have KT5:=fun W (hW:Fr No W5 W)=>KT W (hf5.trans0 hW)
   clear KT a0 a1
   have hlen2:=hlen.out
   refine zn0 9 49 [mV (.pointer (some ⟨K.kb,0,none⟩)),mV (.pointer (some ⟨K.kb,0,none⟩)),mV (.pointer (some ⟨K.kb,11,none⟩)),mV (.slice (some ⟨g,0,none⟩) (argF s m j).length c),mV (.int .i64 j),mV (.int .i64 ((j+1:Nat):Int)),mV (.agg #[.int .i64 x.kind,.string x.name]),mV (.agg #[.int .i64 (zel x).kind,.string (zel x).name]),mV (.pointer (some ⟨g,(j+1) * 2,none⟩))] (by kernel_rfl) (by kernel_rfl) (by simp) ?_ ?_
   ·refine hc4 ?_ ?_ ?_ ?_ <| hc4 ?_ ?_ ?_ ?_ <| hopC ?_ <| hopZ
    all_goals (intro a' W hW hoff hdep;have hbs:=hW.size;have H7:=hoff 7 rfl;have H8:=hoff 8 rfl;have H9:=hoff 9 rfl;refine nE rfl ?_)
    ·simp[execOp,Act.eval,H7,go_sem,zaa];exact fr1 rfl
    ·have D40:_=_:=hdep 0 40 rfl;simp[execOp,Act.eval,D40,go_sem,zaa];exact fr1 rfl
    ·have D41:_=_:=hdep 1 41 rfl;simp[execOp,Act.eval,D41,go_sem,zaa];exact fr1 rfl
    ·have D42:_=_:=hdep 2 42 rfl;clear hoff hdep;simp[execOp,Act.eval,go_sem,zaa, *];exact fr1 rfl
    ·simp[execOp,Act.eval,H8,go_sem,zaa];exact fr1 rfl
    ·have D44:_=_:=hdep 4 44 rfl;simp[execOp,Act.eval,D44,go_sem,zaa];exact⟨Fr.refl _ _,by show Value.int _ _=_;rw[hadd];simp⟩
    ·exact gx0
    ·have D46:_=_:=hdep 6 46 rfl;simp[Act.eval,D46,go_sem,zaa];exact(zkL x _ a2).mono (by rintro e w9 ⟨rfl,h9⟩;exact⟨_,rfl,h9,rfl⟩)
    ·have D43:_=_:=hdep 3 43 rfl;have D45:_=_:=hdep 5 45 rfl;clear hoff hdep;simp[execOp,Act.eval,go_sem,zaa,↓IntWalk.iteOmega, *];exact fr1 rfl
   intro vs WR hWR hv hne
   simp only[lz6,List.drop_zero,znK,znR,Nat.zero_add,Nat.reduceAdd]
   simp only[Act.put,lz0,lz1,lz2]
   clear hv
   clear hne KT5 K9
   have hS':=hS.out.keep hE (hf5.trans0 hWR)
   obtain⟨g',c',he',_,_,_,q0,q1,_⟩:=hS'.loc.get (a:=j+1) hj1
   cases he'
   have uf:∀q,WR.frozen? ⟨g,q,none⟩=false:=fun q=>by
    obtain⟨g9,c9,cur,he,_,_,hb,_⟩:=hS'.loc.1.at_ (by simp only;omega)
    cases he
    exact hb.frozen q
   have ul:=lt_of_cell q0
   have hI8:=Lib.hid (hgo.out WR (hf5.trans0 hWR))
   clear hS' hgo
   go_wp2_with fail
   exact⟨⟨j+1,by omega,by simp,hI8⟩,by simp[intOf];omega⟩
  ·obtain rfl:j=m.args.length:=by omega
   obtain⟨Z',ul,us,hS,hz1,hz2,hf⟩:=hI.out
   clear hI
   rw[zk8] at hS
   have hP:=zh9 K hE n Z' 0 (zcM s m) ul us wr hS hn
   rw[show zcL K.p K.k K.m 0 K.m.code (zcM s m) true []=zcN p k s m from by rw[hK.out];rfl] at hP
   have hKb:K.bl=bl:=by rw[hK.out]
   have hKl:K.l=l:=by rw[hK.out]
   have hKp:K.p=p:=by rw[hK.out]
   have hZ4:∀q,q=w.heap.size+1∨q=w.heap.size+1+1->¬Z' q:=fun q hq hz=>by
    have:=hBlt
    have:=hkB
    rcases hz2 q hz with h9|h9
    ·rcases h9 with h9|h9|h9<;>omega
    ·omega
   have hZ3:∀q,q=w.heap.size+1∨q=w.heap.size+1+1->¬(q=bl∨q=K.kb∨q=b7):=fun q hq hz=>by
    have:=hBlt
    have:=hkB
    rcases hz with h9|h9|h9<;>omega
   have C4:=hB4.keepX hf (hZ3 _ (.inl rfl))
   have C5:=hB5.keepX hf (hZ3 _ (.inr rfl))
   have hwr:=hf.size
   have hwr5:=C5.lt
   have hfin:∀(v:Value) (wf wg:World),Frms wf (fun q=>wr.heap.size≤q) v (zcN p k s m).1->Fr K.late K.w0 wf->Lg wf K.l K.bl (n+34) K.p->Fr (fun b=>b=w.heap.size+1∨b=w.heap.size+1+1) wf wg->zkX l bl (n+34) p (zcN p k s m) w (.returned (.tuple #[v,.int .i64 (zcN p k s m).2])) wg:=fun v wf wg h1 h2 h3 h4=>by
    rw[hKw.out] at h2
    rw[hKb,hKl,hKp] at h3
    have h2':Fr (fun b=>b=bl∨w.heap.size≤b) w wf:=h2.mono (fun b _ hb=>by unfold LkP.late at hb;rw[hKb,hKw.out] at hb;exact hb)
    refine⟨v,rfl,h1.keep h4 (fun b hb _=>by omega) (fun b hb _=>by omega),h.out.over2 h3 h2' (h4.mono (fun b _ hb=>by omega)),?_⟩
    exact(h2'.mono (Y:=fun b=>b=bl) (fun b hb hx=>hx.resolve_right (by omega))).trans h4 (fun b hb hx=>by omega)
   generalize zcN p k s m=r at *
   replace hfin:=Lib.hid hfin
   replace hS:=Lib.hid hS
   have hne45:¬w.heap.size+1+1=w.heap.size+1:=by omega
   go_wp2_with fail
   refine hP.mono ?_
   rintro e wf (⟨hr0,v,rfl,h1,h2,h3,h4⟩ | ⟨hr0,hr1,c,rfl,rfl,h2,h3,h4⟩)
   ·have D4:=C4.keepX h4 (hZ4 _ (.inl rfl))
    have D5:=C5.keepX h4 (hZ4 _ (.inr rfl))
    have x4:wf.cell? ⟨w.heap.size+1,0,none⟩=some (.slice none 0 0):=D4.cell 0
    have x5:wf.cell? ⟨w.heap.size+1+1,0,none⟩=some (.int .i64 0):=D5.cell 0
    have f4:=D4.frozen 0
    have f5:=D5.frozen 0
    have l4:=D4.lt
    have l5:=D5.lt
    obtain⟨Av,cv,rfl,_,_⟩:=h1.form
    go_wp2_with fail
    refine leaves_cons (f:=61) (args:=#[.pointer (some ⟨w.heap.size+1,0,none⟩),.pointer (some ⟨w.heap.size+1+1,0,none⟩)]) (by simp) (by simp[go_sem]) ?_
    refine(znu ⟨w.heap.size+1,0,none⟩ ⟨w.heap.size+1+1,0,none⟩ _).mono ?_
    rintro e u' wg ⟨rfl,rfl,rfl⟩
    have hF:=hfin.out _ wf _ h1 h3 h2 (((Fr.refl _ wf).setCellX (p:=⟨w.heap.size+1,0,none⟩) (.inl rfl) (.slice Av r.1.length cv)).setCellX (p:=⟨w.heap.size+1+1,0,none⟩) (.inr rfl) (.int .i64 0))
    rw[hr0] at hF
    refine⟨.tuple #[.slice Av r.1.length cv,.int .i64 0],?_,hF⟩
    simp[results,Tryz.results34,go_sem,x4,x5]
   ·have D4:=C4.keepX h4 (hZ4 _ (.inl rfl))
    have D5:=C5.keepX h4 (hZ4 _ (.inr rfl))
    have hw1:zeZ (r.2-1)=[{ v:=.iface 120 (.agg #[.int .i64 r.2]),recovered:=false }]:=by unfold zeZ;rw[Int.sub_add_cancel]
    rw[hw1]
    refine leaves_cons (f:=61) (args:=#[.pointer (some ⟨w.heap.size+1,0,none⟩),.pointer (some ⟨w.heap.size+1+1,0,none⟩)]) (by simp) (by simp[go_sem]) ?_
    refine(znx _ _ (by omega) r.2 _ _ _ D4 D5).mono ?_
    rintro e u' wg ⟨rfl,rfl,E4,E5,hfg⟩
    have y4:wg.cell? ⟨w.heap.size+1,0,none⟩=some (.slice none 0 0):=E4.cell 0
    have y5:wg.cell? ⟨w.heap.size+1+1,0,none⟩=some (.int .i64 r.2):=E5.cell 0
    have hF:=hfin.out (.slice none 0 0) wf wg (hr1▸Frms.nil wf _) h2 h3 hfg
    refine⟨.tuple #[.slice none 0 0,.int .i64 r.2],?_,hF⟩
    simp[results,Tryz.results34,go_sem,y4,y5]
theorem zlc (w:World) (a b c d:Value):(Instr.field 51 (.agg #[a,b,c,d]) 3).run Tryz.prog w=.ok d w:=by
 simp[Instr.field,asAgg,go_sem]
theorem zlg {c:Cls} (h:Go.Proofs.YthembcdcdnffeaaGreat.clsB c=true):c.methods.length≤4:=by
 unfold Go.Proofs.YthembcdcdnffeaaGreat.clsB at h
 simp only[lz5,decide_eq_true_eq] at h
 exact h.1.1.2
theorem zlh {p:Plan} (hp:lodB p=true) {r:Ref} (h:canB p r=true):∃k i:Nat,Here p r k i:=by
 rcases zhi hp r with h0 | ⟨k,i,h1,_⟩
 ·unfold canB at h;rw[h0] at h;cases h
 ·exact⟨k,i,h1⟩
theorem zlj {m:Mth} (h:mthB m=true):zn3 m.code:=fun i hi=>by
 have h1:=(zh3 h).2 i hi
 unfold zfV at h1
 simp only[lz5] at h1
 have h2:insB i=true:=by
  first|exact h1.1.1|exact h1.1
 rcases zhZ h2 with ho|ho|ho|ho|ho|ho|ho|ho|ho|ho|ho|ho|ho|ho|ho<;>(rw[ho];rfl)
theorem zlk {p:Plan} {r:Ref} (hp:lodB p=true) (hc:canB p r=true):∀m∈(zbG p r).methods,zn3 m.code:=fun m hm=>by
 obtain⟨k,ix,hh⟩:=zlh hp hc
 exact zlj (zg1 (Here.clsB hp hh) m hm)
end Go.Proofs.YthembcdcdnffeaaGreat
