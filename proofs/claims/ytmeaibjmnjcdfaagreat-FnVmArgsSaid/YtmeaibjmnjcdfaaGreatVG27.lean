/- The reference's reading of a method's first line. -/
import Derived.Test.YtmeaibjmnjcdfaaGreatVG25
set_option maxHeartbeats 4000000
set_option maxRecDepth 100000
namespace Go.Proofs.YtmeaibjmnjcdfaaGreat
open Go.RowKit
def zre (k:Knd):Raw 2:=⟨[.int .i64 k.kind,.string k.name],rfl⟩
theorem zrg:(Tryz.prog.info? 121).map (fun i=>(i.zero,i.size,i.bytes))=some (some (.agg #[.int .i64 0,.string ⟨#[]⟩]),2,24):=by kernel_rfl
theorem zrh:ElT 119 121 2 24:=zqW Tryz.underlying119 zrg rfl (by decide) (by decide)
theorem zri {ws:List Str} (h:ws.length<5∨8<ws.length):zqo ws=(zqj,false):=by
 unfold zqo
 split
 ·rename_i hl
  simp only[List.length_cons] at h
  rw[if_neg (by intro h9;omega)]
 ·rfl
def zrj (w:World) (n:Nat) (v:Value) (ks:List Knd):Prop:=RowV w 121 2 v ks.length (rawL (ks.map zre))∧(∀q,zcP v=some q->n≤q)∧∀k∈ks,k.name.size≤maxLen
theorem zrj.sl {w:World} {n:Nat} {v:Value} {xs:List Knd} (h:zrj w n v xs):Sl (fun b=>b<n) w 2 KndC v xs:=by
 refine h.1.rawSl (by simp) (fun i h1 h2=>?_) (fun q hq=>by have:=h.2.1 q hq;omega)
 rw[List.getElem_map]
 exact⟨rfl,h.2.2 _ (List.getElem_mem h2)⟩
theorem zrj.nil (w:World) (n:Nat):zrj w n (.slice none 0 0) []:=⟨RowV.nil _ _ _,(fun q hq=>by cases hq),fun _ h=>absurd h (by simp)⟩
theorem zrj.keep {X:Nat->Prop} {w w':World} {n:Nat} {v:Value} {ks:List Knd} (h:zrj w n v ks) (hf:Fr X w w') (hX:∀q,zcP v=some q->¬X q):zrj w' n v ks:=⟨h.1.keep hf hX,h.2⟩
theorem zrj.snoc {w w':World} {n:Nat} {Aa:Option Addr} {ca g c:Nat} {ks:List Knd} {k:Knd} (h:zrj w n (.slice Aa ks.length ca) ks) (hn:n≤w.heap.size) (hrow:RowV w' 121 2 (.slice (some ⟨g,0,none⟩) (ks.length+1) c) (ks.length+1) (rawL (ks.map zre ++ [zre k]))) (hor:zcP (.slice Aa ks.length ca)=some g∨g=w.heap.size) (hc:ks.length+1≤c) (hk:k.name.size≤maxLen):zrj w' n (.slice (some ⟨g,0,none⟩) (ks.length+1) c) (ks ++ [k]):=by
 refine⟨?_,fun q hq=>?_,fun x hx=>?_⟩
 ·rw[List.length_append,List.map_append]
  exact hrow
 ·rw[zcQ,if_neg (by omega)] at hq
  cases hq
  rcases hor with h9|h9
  ·exact h.2.1 _ h9
  ·show n≤g
   omega
 ·rcases List.mem_append.1 hx with hx|hx
  ·exact h.2.2 x hx
  ·rw[List.mem_singleton.1 hx];exact hk
theorem zrk {rest:List Str} {j:Nat} {ks:List Knd} (h:j<rest.length):zqn (rest.drop j) ks=if (zqe rest[j]).2 then zqn (rest.drop (j+1)) (ks ++ [(zqe rest[j]).1]) else none:=by rw[List.drop_eq_getElem_cons h,zqn]
def zrl (q:Mth×Bool) (w:World) (e:Ending) (w':World):Prop:=∃cs:List Value,e=.returned (.tuple #[.agg cs.toArray,.bool q.2])∧MthC (fun b=>b<w.heap.size) w' cs q.1∧Fr No w w'
theorem zrl.zero {w w':World} (hf:Fr No w w'):zrl (zqj,false) w (.returned (.tuple #[.agg #[.string ⟨#[]⟩,.slice none 0 0,.int .i64 0,.string ⟨#[]⟩,.int .i64 0,.int .i64 0,.slice none 0 0,.slice none 0 0],.bool false])) w':=
 ⟨[.string ⟨#[]⟩,.slice none 0 0,.int .i64 0,.string ⟨#[]⟩,.int .i64 0,.int .i64 0,.slice none 0 0,.slice none 0 0],rfl,⟨.slice none 0 0,.slice none 0 0,.slice none 0 0,rfl,Nat.zero_le _,Nat.zero_le _,Sl.nil _ _ _ _,Sl.nil _ _ _ _,Sl.nil _ _ _ _⟩,hf⟩
theorem zrm (X:Nat->Prop) (v:Value) (ws:List Str) (w:World) (h:Sl X w 1 StrC v ws):Calls Tryz.prog 193 #[v] w (zrl (zqo ws) w):=by
 obtain⟨A,cap,rfl,hcap,hlen⟩:=h.form
 unfold maxLen at hlen
 by_cases h5:ws.length<5
 ·rw[zri (.inl h5)]
  have d:decide ((ws.length:Int)<5)=true:=decide_eq_true (by omega)
  clear h h5
  go_enter Tryz.func193,Tryz.ntmps193
  go_wp2
  refine bodyPost_ret (v:=.tuple #[.agg #[.string ⟨#[]⟩,.slice none 0 0,.int .i64 0,.string ⟨#[]⟩,.int .i64 0,.int .i64 0,.slice none 0 0,.slice none 0 0],.bool false]) (by simp[results,Tryz.results193,go_sem]) rfl ?_
  exact .zero (by exact frc)
 by_cases h8:8<ws.length
 ·rw[zri (.inr h8)]
  have d:decide ((ws.length:Int)<5)=false:=decide_eq_false (by omega)
  have d2:decide (8<(ws.length:Int))=true:=decide_eq_true (by omega)
  clear h h5 h8
  go_enter Tryz.func193,Tryz.ntmps193
  go_wp2
  refine bodyPost_ret (v:=.tuple #[.agg #[.string ⟨#[]⟩,.slice none 0 0,.int .i64 0,.string ⟨#[]⟩,.int .i64 0,.int .i64 0,.slice none 0 0,.slice none 0 0],.bool false]) (by simp[results,Tryz.results193,go_sem]) rfl ?_
  exact .zero (by exact frc)
 obtain⟨x,nm,lo,st,rt,rest,rfl⟩:∃x nm lo st rt rest,ws=x :: nm :: lo :: st :: rt :: rest:=by
  match ws,h5 with
  | x :: nm :: lo :: st :: rt :: rest,_=>exact⟨x,nm,lo,st,rt,rest,rfl⟩
  | [],h=>simp at h
  | [_],h=>simp at h
  | [_,_],h=>simp at h
  | [_,_,_],h=>simp at h
  | [_,_,_,_],h=>simp at h
 have hrl:rest.length≤3:=by simp at h8;omega
 obtain⟨bk,off,rfl,_,c1,z1⟩:=h.strs (k:=1) (by simp)
 have hC:∀(j:Nat) (hj:j<rest.length),w.cell? ⟨bk,off+(5+j),none⟩=some (.string rest[j])∧rest[j].size≤maxLen:=fun j hj=>by
  obtain⟨bk',off',he,_,c,z⟩:=h.strs (k:=5+j) (by simp;omega)
  cases he
  have e:(x :: nm :: lo :: st :: rt :: rest)[5+j]'(by simp;omega)=rest[j]:=by
   simp only[show 5+j=j+1+1+1+1+1 by omega,List.getElem_cons_succ]
  rw[e] at c z
  exact⟨c,z⟩
 obtain⟨_,_,he,_,c2,z2⟩:=h.strs (k:=2) (by simp)
 cases he
 obtain⟨_,_,he,_,c3,z3⟩:=h.strs (k:=3) (by simp)
 cases he
 obtain⟨_,_,he,_,c4,z4⟩:=h.strs (k:=4) (by simp)
 cases he
 simp only[List.getElem_cons_succ,List.getElem_cons_zero] at c1 c2 c3 c4 z1 z2 z3 z4
 have hbl:=lt_of_cell c1
 have HN:=fun W=>zlv nm W z1
 have HL:=fun W=>zqS lo W z2
 have HS:=fun W=>zqS st W z3
 have HK:=fun W=>zq3 rt W z4
 have hlen5:((rest.length+1+1+1+1+1:Nat):Int)=(rest.length:Int)+5:=by omega
 obtain⟨V,hV⟩:∃V,V=zqo (x :: nm :: lo :: st :: rt :: rest):=⟨_,rfl⟩
 rw[<-hV]
 unfold zqo at hV
 dsimp only at hV
 have d:decide ((rest.length:Int)+5<5)=false:=decide_eq_false (by omega)
 have d2:decide (8<(rest.length:Int)+5)=false:=decide_eq_false (by omega)
 have BR:=Bx.new w 125 #[.string ⟨#[]⟩,.slice none 0 0,.int .i64 0,.string ⟨#[]⟩,.int .i64 0,.int .i64 0,.slice none 0 0,.slice none 0 0]
 clear h h5 h8 hcap
 cases hn:namB nm
 ·rw[hn] at HN hV
  rw[if_neg (by simp)] at hV
  subst hV
  go_enter Tryz.func193,Tryz.ntmps193
  go_wp2_with (go_at_call 65;(refine(HN _).mono ?_;rintro e w1 ⟨rfl,rfl⟩))
  refine bodyPost_ret (v:=.tuple #[.agg #[.string ⟨#[]⟩,.slice none 0 0,.int .i64 0,.string ⟨#[]⟩,.int .i64 0,.int .i64 0,.slice none 0 0,.slice none 0 0],.bool false]) (by simp[results,Tryz.results193,go_sem]) rfl ?_
  exact .zero (by exact frc)
 ·rw[hn] at HN hV
  rw[if_pos ⟨hrl,rfl⟩] at hV
  replace hV:=Lib.hid hV
  clear hn
  generalize zqb lo=ql at *
  generalize zqb st=qs at *
  have hkz:=zqg z4
  generalize hkr:zqe rt=qk at *
  obtain⟨lo',okl⟩:=ql
  obtain⟨st',oks⟩:=qs
  obtain⟨⟨kk,kn⟩,okk⟩:=qk
  unfold kndV at HK
  dsimp only at HL HS HK hkz
  go_enter Tryz.func193,Tryz.ntmps193
  go_wp2_with (first
   | (go_at_call 65;(refine(HN _).mono ?_;rintro e w1 ⟨rfl,rfl⟩))
   | (go_at_call_of 191 (Value.string lo);refine(HL _).mono ?_;rintro e w1 ⟨rfl,hf1⟩;have hw1:Fr No w w1:=((Fr.refl No w).alloc _).trans0 hf1;have c3':=hw1.keep0 c3)
   | (go_at_call_of 191 (Value.string st);refine(HS _).mono ?_;rintro e w2 ⟨rfl,hf2⟩;have hw2:Fr No w w2:=hw1.trans0 hf2;have c4':=hw2.keep0 c4)
   | (go_at_call 217;(refine(HK _).mono ?_;rintro e w3 ⟨rfl,hf3⟩)))
  have hw3:Fr No w w3:=hw2.trans0 hf3
  have BR3:=((BR.keep hf1).keep hf2).keep hf3
  clear HL HS HK HN c3' c4' hf1 hf2 hf3 BR c2 c3 c4
  obtain⟨wB,hwB⟩:∃wB,wB=w3.alloc (.cells #[.int .i64 kk,.string kn] 121):=⟨_,rfl⟩
  rw[<-hwB]
  have hwb:Fr No w wB:=hw3.trans0 (hwB▸frc)
  have BK:Bx wB w3.heap.size 121 #[.int .i64 kk,.string kn]:=hwB▸Bx.new w3 _ _
  have BRB:Bx wB w.heap.size 125 #[.string ⟨#[]⟩,.slice none 0 0,.int .i64 0,.string ⟨#[]⟩,.int .i64 0,.int .i64 0,.slice none 0 0,.slice none 0 0]:=BR3.keep (hwB▸frc)
  have KM:=BK.r2
  have q1:=cr (hwb.keep0 c1)
  clear hwB BK BR3 hw1 hw2 hw3
  refine zn0 8 58 [mV (.slice (some ⟨bk,off,none⟩) (rest.length+5) cap),mV (.pointer (some ⟨bk,off+1,none⟩)),mV (.string nm),mV (.agg #[.int .i64 kk,.string kn]),mV (.int .i64 lo'),mV (.int .i64 st'),mV (.agg #[.string nm,.slice none 0 0,.int .i64 kk,.string kn,.int .i64 lo',.int .i64 st',.slice none 0 0,.slice none 0 0]),mB 125 (#[.string ⟨#[]⟩,.slice none 0 0,.int .i64 0,.string ⟨#[]⟩,.int .i64 0,.int .i64 0,.slice none 0 0,.slice none 0 0]) wB.heap.size] (by kernel_rfl) (by kernel_rfl) (by simp) ?_ ?_
  ·refine hc4 ?_ ?_ ?_ ?_ <| hc4 ?_ ?_ ?_ ?_ <| hopZ
   all_goals (intro a' W hW hoff hdep;have hbs:=hW.size;have H0:=hoff 0 rfl;have H8:=hoff 8 rfl;have H4:=hoff 4 rfl;have H6:=hoff 6 rfl;refine nE rfl ?_)
   ·simp[execOp,Act.eval,H0,go_sem,zaa];exact fr1 rfl
   ·have D51:_=_:=hdep 0 51 rfl;clear hoff hdep;simp[execOp,Act.eval,go_sem,zaa,↓IntWalk.iteOmega, *];exact fr1 rfl
   ·have D52:_=_:=hdep 1 52 rfl;clear hoff hdep;simp[execOp,Act.eval,go_sem,zaa, *];exact fr1 rfl
   ·exact gx0
   ·simp[execOp,Act.eval,H4,go_sem,zaa];exact fr1 rfl
   ·simp[execOp,Act.eval,H6,go_sem,zaa];exact fr1 rfl
   ·have D53:_=_:=hdep 2 53 rfl;have D54:_=_:=hdep 3 54 rfl;have D55:_=_:=hdep 4 55 rfl;have D56:_=_:=hdep 5 56 rfl;simp at D53 D54 D55 D56;simp[execOp,Act.eval,D53,D54,D55,D56,go_sem,zaa];exact fr1 rfl
   ·simp[execOp,go_sem,zaa];exact⟨(Fr.refl _ _).alloc _,⟨_,rfl,Bx.new_ rfl,hbs⟩,Nat.le_refl _⟩
  intro vs WR hWR hv hne
  obtain⟨b7,e7,hb7,hl7⟩:=hv 7 (by omega)
  simp only[lz6,List.drop_zero,znP,znK,znR,Nat.zero_add,Nat.reduceAdd,e7]
  simp only[Act.put,lz0,lz1,lz2]
  clear e7 hv
  clear KM q1
  refine zco rfl 125 (.tmp 10) (.tmp 57) rfl 8 (by kernel_rfl) b7 125 _ [.string nm,.slice none 0 0,.int .i64 kk,.string kn,.int .i64 lo',.int .i64 st',.slice none 0 0,.slice none 0 0] rfl rfl hb7 rfl rfl (by simp[Value.oneCell']) ?_
  intro w5 hB5 hf5
  have hlB:=BRB.lt
  have hw5:Fr No w w5:=(hwb.trans0 hWR).trans hf5 (fun b hb e=>by have:=hwb.size;omega)
  have BR5:=(BRB.keep hWR).keepX hf5 (by omega)
  have hb7w:w.heap.size<b7:=by omega
  clear hb7 hf5 BRB hWR hwb hkr
  clear hne hl7 hlB
  clear WR
  clear wB
  go_wp2
  go_loopw [11] (fun i wr=>∃(j:Nat) (ks:List Knd) (va:Value),j≤rest.length∧i=.int .i64 (5+(j:Int))∧ks.length=j∧Bx wr b7 125 #[.string nm,va,.int .i64 kk,.string kn,.int .i64 lo',.int .i64 st',.slice none 0 0,.slice none 0 0]∧zrj wr w.heap.size va ks∧Hid (zqn rest []=zqn (rest.drop j) ks) ∧
   Bx wr w.heap.size 125 #[.string ⟨#[]⟩,.slice none 0 0,.int .i64 0,.string ⟨#[]⟩,.int .i64 0,.int .i64 0,.slice none 0 0,.slice none 0 0]∧Fr No w wr) (fun i _=>rest.length+5-(intOf i).toNat)
  case atStart=>exact⟨0,[],_,Nat.zero_le _,rfl,rfl,hB5,zrj.nil _ _,rfl,BR5,hw5⟩
  case round=>
   clear hB5 BR5 hw5
   obtain⟨j,ks,va,hj,rfl,hkl,hB,hrow,hd,hBr,hf⟩:=hrel
   by_cases hlt:j<rest.length
   ·obtain⟨cj,zj⟩:=hC j hlt
    replace cj:=hf.keep0 cj
    have hcl:=lt_of_cell cj
    have HK:=fun W=>zq3 rest[j] W zj
    have hst:=zrk (ks:=ks) hlt
    have hsz:=zqg zj
    have hnt:((5:Int)+(j:Int)).toNat=5+j:=by omega
    generalize zqe rest[j]=q at *
    obtain⟨⟨k',n'⟩,okj⟩:=q
    unfold kndV at HK
    dsimp only at HK hst hsz
    obtain⟨Aa,ca,rfl,ha1,ha2⟩:=hrow.1.form
    rw[<-hd.out] at hst
    have hne:∀q,zcP (.slice Aa ks.length ca)=some q->q≠b7:=fun q hq=>hrow.1.ne hB (by decide) hq
    have hne2:∀q,zcP (.slice Aa ks.length ca)=some q->q≠w.heap.size:=fun q hq=>hrow.1.ne hBr (by decide) hq
    have hfs:=hf.size
    replace hC:=Lib.hid hC
    replace hrow:=Lib.hid hrow
    replace hne:=Lib.hid hne
    replace hne2:=Lib.hid hne2
    replace hkl:=Lib.hid hkl
    clear hd
    cases okj
    ·rw[if_neg (by simp)] at hst
     have hVn:Hid (V=(zqj,false)):=by show V=_;rw[hV.out,hst]
     obtain⟨r0,r1,r2,r3,r4,r5,r6,r7⟩:=hBr.c8
     have rl:=hBr.lt
     clear hV hst
     go_wp2_with (go_at_call 217;refine(HK _).mono ?_;rintro e w6 ⟨rfl,hf6⟩;have hBr6:=hBr.keep hf6;obtain⟨s0,s1,s2,s3,s4,s5,s6,s7⟩:=hBr6.c8;have sl:=hBr6.lt;have sf:=(fun i=>hBr6.frozen i))
     refine bodyPost_ret (v:=.tuple #[.agg #[.string ⟨#[]⟩,.slice none 0 0,.int .i64 0,.string ⟨#[]⟩,.int .i64 0,.int .i64 0,.slice none 0 0,.slice none 0 0],.bool false]) (by simp[results,Tryz.results193,go_sem, *]) rfl ?_
     rw[hVn.out]
     exact .zero (by exact frc)
    ·rw[if_pos rfl] at hst
     replace hst:=Lib.hid hst
     go_wp2_with (first
      | (go_at_call 217;refine(HK _).mono ?_;rintro e w6 ⟨rfl,hf6⟩;have hB6:=hB.keep hf6;have hBr6:=hBr.keep hf6;obtain⟨s0,s1,s2,s3,s4,s5,s6,s7⟩:=hB6.c8;have sl:=hB6.lt;have sf:=(fun i=>hB6.frozen i);have hrow6:=Lib.hid (hrow.out.1.keep0 hf6);have hs6:=hf6.size)
      | (at_builtin;refine zqH zrh rfl _ _ rfl (.slice Aa ks.length ca) ks.length (ks.map zre) rfl (by simp) (hrow6.out.keep0 frc) (by have:=hkl.out;omega) (w6.heap.size+1) 121 [.int .i64 k',.string n'] rfl bxc rfl (by simp[Value.oneCell']) ?_;intro g c2 w8 hrow8 hcap hgf hor;have D:=Bx.keepX (Bx.keep hB6 frc) hgf (fun e=>hne.out _ e rfl);obtain⟨m0,m1,m2,m3,m4,m5,m6,m7⟩:=D.c8;have ml:=D.lt;have mf:=(fun i=>D.frozen i)))
     have hgb:g≠b7:=by
      rcases hor with h9|h9
      ·exact hne.out _ h9
      ·rw[h9];simp;omega
     have hrow9:=zrj.snoc (k:=⟨k',n'⟩) (w:=(w6.alloc (.cells #[.int .i64 k',.string n'] 121)).alloc (.cells #[.int .i64 k',.string n'] 121)) (hrow.out.keep (X:=No) (by exact frc) (fun _ _ h=>h)) (by simp;omega) hrow8 hor hcap hsz
     have hf8:Fr No w w8:=Fr.trans (w:=(w6.alloc (.cells #[.int .i64 k',.string n'] 121)).alloc (.cells #[.int .i64 k',.string n'] 121)) (by exact frc) hgf (fun b hb e=>by have:=hrow.out.2.1 b e;omega)
     have hBr8:=Bx.keepX (Bx.keep hBr6 frc) hgf (fun e=>hne2.out _ e rfl)
     have hput:=Fr.put1 b7 1 (.slice (some ⟨g,0,none⟩) (ks.length+1) c2) w8
     have hrowF:=Lib.hid (hrow9.keep hput (fun q hq hx=>by rw[zcQ,if_neg (by omega)] at hq;cases hq;exact hgb hx))
     have hfF:Fr No w (w8.setCell ⟨b7,1,none⟩ (.slice (some ⟨g,0,none⟩) (ks.length+1) c2)):=hf8.trans hput (fun b hb e=>by omega)
     have hBF:=Lib.hid (D.set_ 1 (.slice (some ⟨g,0,none⟩) (ks.length+1) c2))
     have hBrF:=Lib.hid (hBr8.keepX hput (by omega))
     clear hrow8 hrow9 hgf hor
     go_wp2
     go_roundw
     case rel=>exact⟨j+1,ks ++ [⟨k',n'⟩],_,by omega,by go_num,by have:=hkl.out;simp;omega,hBF.out,hrowF.out,hst,hBrF.out,hfF⟩
     case measure=>simp[intOf];omega
   ·obtain rfl:j=rest.length:=by omega
    have hres:zqn rest []=some ks:=by rw[hd.out,List.drop_length,zqn]
    have hVe:Hid (V=(⟨nm,ks,⟨kk,kn⟩,lo',st',[],[]⟩,okl&&oks&&okk&&decide (0≤lo')&&decide (0≤st'))):=by show V=_;rw[hV.out,hres]
    obtain⟨Aa,ca,rfl,ha1,ha2⟩:=hrow.1.form
    have hne2:∀q,zcP (.slice Aa ks.length ca)=some q->q≠w.heap.size:=fun q hq=>hrow.1.ne hBr (by decide) hq
    obtain⟨m0,m1,m2,m3,m4,m5,m6,m7⟩:=hB.c8
    obtain⟨r0,r1,r2,r3,r4,r5,r6,r7⟩:=hBr.c8
    have ml:=hB.lt
    have rl:=hBr.lt
    have rf:=fun i=>hBr.frozen i
    have hnm:nm.size≤maxLen:=z1
    have hkn:=hkz
    replace hrow:=Lib.hid hrow
    replace hne2:=Lib.hid hne2
    replace hkl:=Lib.hid hkl
    obtain⟨OK,hOK⟩:∃OK,OK=(okl&&oks&&okk&&decide (0≤lo')&&decide (0≤st')):=⟨_,rfl⟩
    rw[<-hOK] at hVe
    have hcase:(okl=false∧OK=false)∨(okl=true∧oks=false∧OK=false)∨(okl=true∧oks=true∧okk=false∧OK=false)∨(okl=true∧oks=true∧okk=true∧decide (0≤lo')=false∧OK=false)∨(okl=true∧oks=true∧okk=true∧decide (0≤lo')=true∧OK=decide (0≤st')):=by
     rw[hOK]
     cases okl<;>cases oks<;>cases okk<;>cases decide (0≤lo')<;>simp
    clear hd hres hC hV hOK hB hBr c1
    rcases hcase with ⟨rfl,hO⟩ | ⟨rfl,rfl,hO⟩ | ⟨rfl,rfl,rfl,hO⟩ | ⟨rfl,rfl,rfl,hlo,hO⟩ | ⟨rfl,rfl,rfl,hlo,hO⟩
    all_goals
     replace hO:=Lib.hid hO
     go_wp2
     refine bodyPost_ret (v:=.tuple #[.agg #[.string nm,.slice Aa ks.length ca,.int .i64 kk,.string kn,.int .i64 lo',.int .i64 st',.slice none 0 0,.slice none 0 0],.bool OK]) (by rw[hO.out];simp[results,Tryz.results193,go_sem, *]) rfl ?_
     have hfin:∀W,Fr (fun b=>b=w.heap.size) wr W->zrl V w (.returned (.tuple #[.agg #[.string nm,.slice Aa ks.length ca,.int .i64 kk,.string kn,.int .i64 lo',.int .i64 st',.slice none 0 0,.slice none 0 0],.bool OK])) W:=fun W hW=>by
      rw[hVe.out]
      exact⟨[_,_,_,_,_,_,_,_],rfl,⟨_,_,_,rfl,hnm,hkn,(hrow.out.keep hW (fun q hq=>hne2.out q hq)).sl,Sl.nil _ _ _ _,Sl.nil _ _ _ _⟩,hf.trans hW (fun b hb e=>by omega)⟩
     refine hfin _ ?_
     repeat(first|(with_reducible exact Fr.refl _ _)|(with_reducible refine Fr.same ?_ (Fr.put1 _ _ _ _)))
end Go.Proofs.YtmeaibjmnjcdfaaGreat
