/- The reference's reading of what is known ahead of an instruction. -/
import Derived.Test.YtmeaibjmnjcdfaaGreatVG27
set_option maxHeartbeats 4000000
set_option maxRecDepth 100000
namespace Go.Proofs.YtmeaibjmnjcdfaaGreat
open Go.RowKit
def NRow {α:Type} (T:TypeId) {sz:Nat} (raw:α->Raw sz) (ok:α->Prop) (w:World) (n:Nat) (v:Value) (xs:List α):Prop:=RowV w T sz v xs.length (rawL (xs.map raw))∧(∀q,zcP v=some q->n≤q)∧∀x∈xs,ok x
section
variable {α:Type} {T:TypeId} {sz:Nat} {raw:α->Raw sz} {ok:α->Prop} {w w':World} {n:Nat} {v:Value} {xs:List α}
theorem NRow.sl {R:List Value->α->Prop} (hR:∀x,ok x->R (raw x).1 x) (h:NRow T raw ok w n v xs):Sl (fun b=>b<n) w sz R v xs:=by
 refine h.1.rawSl (by simp) (fun i h1 h2=>?_) (fun q hq=>by have:=h.2.1 q hq;omega)
 rw[List.getElem_map]
 exact hR _ (h.2.2 _ (List.getElem_mem h2))
theorem NRow.nil (T:TypeId) (raw:α->Raw sz) (ok:α->Prop) (w:World) (n:Nat):NRow T raw ok w n (.slice none 0 0) []:=⟨RowV.nil _ _ _,(fun q hq=>by cases hq),fun _ h=>absurd h (by simp)⟩
theorem NRow.keep {X:Nat->Prop} (h:NRow T raw ok w n v xs) (hf:Fr X w w') (hX:∀q,zcP v=some q->¬X q):NRow T raw ok w' n v xs:=⟨h.1.keep hf hX,h.2⟩
theorem NRow.snoc {A:Option Addr} {ca g c:Nat} {x:α} (h:NRow T raw ok w n (.slice A xs.length ca) xs) (hn:n≤w.heap.size) (hrow:RowV w' T sz (.slice (some ⟨g,0,none⟩) (xs.length+1) c) (xs.length+1) (rawL (xs.map raw ++ [raw x]))) (hor:zcP (.slice A xs.length ca)=some g∨g=w.heap.size) (hc:xs.length+1≤c) (hk:ok x):NRow T raw ok w' n (.slice (some ⟨g,0,none⟩) (xs.length+1) c) (xs ++ [x]):=by
 refine⟨?_,fun q hq=>?_,fun y hy=>?_⟩
 ·rw[List.length_append,List.map_append]
  exact hrow
 ·rw[zcQ,if_neg (by omega)] at hq
  cases hq
  rcases hor with h9|h9
  ·exact h.2.1 _ h9
  ·show n≤g
   omega
 ·rcases List.mem_append.1 hy with hy|hy
  ·exact h.2.2 y hy
  ·rw[List.mem_singleton.1 hy];exact hk
end
def zrn (k:Tag):Raw 2:=⟨[.int .i64 k.kind,.string k.name],rfl⟩
def zro (k:Tag):Prop:=k.name.size≤maxLen
theorem zrp:(Tryz.prog.info? 298).map (fun i=>(i.zero,i.size,i.bytes))=some (some (.agg #[.int .i64 0,.string ⟨#[]⟩]),2,24):=by kernel_rfl
theorem zrq:ElT 279 298 2 24:=zqW Tryz.underlying279 zrp rfl (by decide) (by decide)
abbrev zrr (w:World) (n:Nat) (v:Value) (ts:List Tag):Prop:=NRow 298 zrn zro w n v ts
theorem zrr.sl {w:World} {n:Nat} {v:Value} {ts:List Tag} (h:zrr w n v ts):Sl (fun b=>b<n) w 2 TagC v ts:=NRow.sl (fun _ h=>⟨rfl,h⟩) h
theorem zrs {ws:List Str} (h:ws.length<3∨15<ws.length):zqq ws=(noMp,false):=by
 unfold zqq
 split
 ·rename_i hl
  simp only[List.length_cons] at h
  rw[if_neg (by intro h9;omega)]
 ·rfl
theorem zrt {ws:List Str} {j:Nat} {ls ss:List Tag} (h:j<ws.length) (hs:Str.l ws[j]=[47]):zqp (ws.drop j) false ls ss=zqp (ws.drop (j+1)) true ls ss:=by rw[List.drop_eq_getElem_cons h,zqp,if_pos ⟨hs,rfl⟩]
theorem zru {ws:List Str} {j:Nat} {b:Bool} {ls ss:List Tag} (h:j<ws.length) (hs:¬(Str.l ws[j]=[47]∧b=false)):zqp (ws.drop j) b ls ss=if (zqf ws[j]).2 then (if b then zqp (ws.drop (j+1)) b ls (ss ++ [(zqf ws[j]).1]) else zqp (ws.drop (j+1)) b (ls ++ [(zqf ws[j]).1]) ss) else none:=by rw[List.drop_eq_getElem_cons h,zqp,if_neg hs]
def zrv (q:Mp×Bool) (w:World) (e:Ending) (w':World):Prop:=∃cs:List Value,e=.returned (.tuple #[.agg cs.toArray,.bool q.2])∧MapC (fun b=>b<w.heap.size) w' cs q.1∧Fr No w w'
theorem zrv.zero {w w':World} (hf:Fr No w w'):zrv (noMp,false) w (.returned (.tuple #[.agg #[.int .i64 0,.slice none 0 0,.slice none 0 0],.bool false])) w':=
 ⟨[.int .i64 0,.slice none 0 0,.slice none 0 0],rfl,⟨.slice none 0 0,.slice none 0 0,rfl,Sl.nil _ _ _ _,Sl.nil _ _ _ _⟩,hf⟩
theorem zrw (X:Nat->Prop) (v:Value) (ws:List Str) (w:World) (h:Sl X w 1 StrC v ws):Calls Tryz.prog 194 #[v] w (zrv (zqq ws) w):=by
 obtain⟨A,cap,rfl,hcap,hlen⟩:=h.form
 unfold maxLen at hlen
 by_cases h3:ws.length<3
 ·rw[zrs (.inl h3)]
  have d:decide ((ws.length:Int)<3)=true:=decide_eq_true (by omega)
  clear h h3
  go_enter Tryz.func194,Tryz.ntmps194
  go_wp2
  refine bodyPost_ret (v:=.tuple #[.agg #[.int .i64 0,.slice none 0 0,.slice none 0 0],.bool false]) (by simp[results,Tryz.results194,go_sem]) rfl ?_
  exact .zero (by exact frc)
 by_cases h8:15<ws.length
 ·rw[zrs (.inr h8)]
  have d:decide ((ws.length:Int)<3)=false:=decide_eq_false (by omega)
  have d2:decide (15<(ws.length:Int))=true:=decide_eq_true (by omega)
  clear h h3 h8
  go_enter Tryz.func194,Tryz.ntmps194
  go_wp2
  refine bodyPost_ret (v:=.tuple #[.agg #[.int .i64 0,.slice none 0 0,.slice none 0 0],.bool false]) (by simp[results,Tryz.results194,go_sem]) rfl ?_
  exact .zero (by exact frc)
 obtain⟨x,a,y,rest,rfl⟩:∃x a y rest,ws=x :: a :: y :: rest:=by
  match ws,h3 with
  | x :: a :: y :: rest,_=>exact⟨x,a,y,rest,rfl⟩
  | [],h=>simp at h
  | [_],h=>simp at h
  | [_,_],h=>simp at h
 have hrl:rest.length≤12:=by simp at h8;omega
 obtain⟨us,hus⟩:∃us,us=y :: rest:=⟨_,rfl⟩
 have hul:us.length=rest.length+1:=by rw[hus];rfl
 obtain⟨bk,off,rfl,_,c1,z1⟩:=h.strs (k:=1) (by simp)
 have hC:∀(j:Nat) (hj:j<us.length),w.cell? ⟨bk,off+(2+j),none⟩=some (.string us[j])∧us[j].size≤maxLen:=fun j hj=>by
  subst hus
  obtain⟨bk',off',he,_,c,z⟩:=h.strs (k:=2+j) (by simp at hj ⊢;omega)
  cases he
  have e:(x :: a :: y :: rest)[2+j]'(by simp at hj ⊢;omega)=(y :: rest)[j]:=by
   simp only[show 2+j=j+1+1 by omega,List.getElem_cons_succ]
  rw[e] at c z
  exact⟨c,z⟩
 simp only[List.getElem_cons_succ,List.getElem_cons_zero] at c1 z1
 have hbl:=lt_of_cell c1
 have HL:=fun W=>zqS a W z1
 have hlen5:((rest.length+1+1+1:Nat):Int)=(us.length:Int)+2:=by omega
 obtain⟨V,hV⟩:∃V,V=zqq (x :: a :: y :: rest):=⟨_,rfl⟩
 rw[<-hV]
 unfold zqq at hV
 dsimp only at hV
 rw[if_pos hrl,<-hus] at hV
 have d:decide ((us.length:Int)+2<3)=false:=decide_eq_false (by omega)
 have d2:decide (15<(us.length:Int)+2)=false:=decide_eq_false (by omega)
 have BR:=Bx.new w 281 #[.int .i64 0,.slice none 0 0,.slice none 0 0]
 have hlnk:(x :: a :: y :: rest).length=us.length+2:=by rw[hul];rfl
 rw[hlnk]
 clear h h3 h8 hcap hlen hus hlnk
 replace hV:=Lib.hid hV
 generalize zqb a=ql at *
 obtain⟨lo',okl⟩:=ql
 dsimp only at HL
 replace hul:=Lib.hid hul
 have hu13:us.length≤13:=by have:=hul.out;omega
 clear hlen5
 have hui:((us.length+2:Nat):Int)=(us.length:Int)+2:=by omega
 go_enter Tryz.func194,Tryz.ntmps194
 go_wp2_with (first
  | (go_at_call 191;refine(HL _).mono ?_;rintro e w1 ⟨rfl,hf1⟩;have hw1:Fr No w w1:=((Fr.refl No w).alloc _).trans0 hf1))
 have BR1:=BR.keep hf1
 have hB0:Bx (w1.alloc (.cells #[.int .i64 lo',.slice none 0 0,.slice none 0 0] 281)) w1.heap.size 281 #[.int .i64 lo',.slice none 0 0,.slice none 0 0]:=Bx.new w1 _ _
 have hBr0:Bx (w1.alloc (.cells #[.int .i64 lo',.slice none 0 0,.slice none 0 0] 281)) w.heap.size 281 #[.int .i64 0,.slice none 0 0,.slice none 0 0]:=BR1.alloc _
 have hw0:Fr No w (w1.alloc (.cells #[.int .i64 lo',.slice none 0 0,.slice none 0 0] 281)):=hw1.alloc _
 have hbw:w.heap.size<w1.heap.size:=BR1.lt
 generalize w1.heap.size=b7 at *
 generalize w1.alloc (.cells #[.int .i64 lo',.slice none 0 0,.slice none 0 0] 281)=wS at *
 clear BR BR1 HL hf1 hw1
 go_loopw [7,8] (fun bv i wr=>∃(j:Nat) (b:Bool) (ls ss:List Tag) (vl vs:Value),j≤us.length∧i=.int .i64 (2+(j:Int))∧bv=.bool b∧ls.length+ss.length≤j∧Bx wr b7 281 #[.int .i64 lo',vl,vs]∧zrr wr w.heap.size vl ls∧zrr wr w.heap.size vs ss∧(∀q,zcP vl=some q->¬zcP vs=some q)∧Hid (zqp us false [] []=zqp (us.drop j) b ls ss) ∧
  Bx wr w.heap.size 281 #[.int .i64 0,.slice none 0 0,.slice none 0 0]∧Fr No w wr) (fun _ i _=>us.length+2-(intOf i).toNat)
 case atStart=>exact⟨0,false,[],[],_,_,Nat.zero_le _,rfl,rfl,Nat.le_refl _,hB0,NRow.nil _ _ _ _ _,NRow.nil _ _ _ _ _,(fun q hq=>by cases hq),rfl,hBr0,hw0⟩
 case round=>
  clear hB0 hBr0 hw0
  clear wS
  obtain⟨j,b,ls,ss,vl,vs,hj,rfl,rfl,hls,hB,hrl1,hrl2,hap,hd,hBr,hf⟩:=hrel
  by_cases hlt:j<us.length
  ·obtain⟨cj,zj⟩:=hC j hlt
   replace cj:=hf.keep0 cj
   have hcl:=lt_of_cell cj
   have hnt:((2:Int)+(j:Int)).toNat=2+j:=by omega
   have hfs:=hf.size
   by_cases hs:Str.l us[j]=[47]∧b=false
   ·obtain⟨hs1,rfl⟩:=hs
    have hd2:Hid (zqp us false [] []=zqp (us.drop (j+1)) true ls ss):=by show _=_;rw[hd.out,zrt hlt hs1]
    have g:(us[j].toList == [47])=true:=by rw[eq_l];exact decide_eq_true hs1
    clear hd hs1 hC
    generalize us[j]=x9 at *
    replace hap:=Lib.hid hap
    replace hrl1:=Lib.hid hrl1
    replace hrl2:=Lib.hid hrl2
    replace hls:=Lib.hid hls
    go_wp2
    go_roundw
    case rel=>exact⟨j+1,true,ls,ss,vl,vs,by omega,by go_num,rfl,by have:=hls.out;omega,hB,hrl1.out,hrl2.out,hap.out,hd2,hBr,hf⟩
    case measure=>simp[intOf];omega
   ·have HT:=fun W=>zq4 us[j] W zj
    have hst:=zru (ls:=ls) (ss:=ss) hlt hs
    have hsz:=zqh zj
    have hg:(∃g:(us[j].toList == [47])=false,True)∨(b=true∧(us[j].toList == [47])=true):=by
     by_cases h9:Str.l us[j]=[47]
     ·right
      refine⟨?_,by rw[eq_l];exact decide_eq_true h9⟩
      cases b
      ·exact absurd ⟨h9,rfl⟩ hs
      ·rfl
     ·left
      exact⟨by rw[eq_l];exact decide_eq_false h9,trivial⟩
    rw[<-hd.out] at hst
    generalize zqf us[j]=q at *
    obtain⟨⟨k',n'⟩,okj⟩:=q
    unfold tagV at HT
    dsimp only at HT hst hsz
    obtain⟨Al,cl,rfl,hl1,hl2⟩:=hrl1.1.form
    obtain⟨As,cs,rfl,hs1,hs2⟩:=hrl2.1.form
    have hneL:∀q,zcP (.slice Al ls.length cl)=some q->q≠b7∧q≠w.heap.size:=fun q hq=>⟨hrl1.1.ne hB (by decide) hq,hrl1.1.ne hBr (by decide) hq⟩
    have hneS:∀q,zcP (.slice As ss.length cs)=some q->q≠b7∧q≠w.heap.size:=fun q hq=>⟨hrl2.1.ne hB (by decide) hq,hrl2.1.ne hBr (by decide) hq⟩
    generalize us[j]=x9 at *
    clear hd hs zj
    replace hC:=Lib.hid hC
    replace hap:=Lib.hid hap
    replace hrl1:=Lib.hid hrl1
    replace hrl2:=Lib.hid hrl2
    replace hneL:=Lib.hid hneL
    replace hneS:=Lib.hid hneS
    replace hls:=Lib.hid hls
    cases okj
    ·rw[if_neg (by simp)] at hst
     have hVn:Hid (V=(noMp,false)):=by show V=_;rw[hV.out,hst]
     obtain⟨r0,r1,r2⟩:=hBr.c3
     have rl:=hBr.lt
     clear hV hst hsz
     rcases hg with ⟨g, -⟩ | ⟨rfl,g⟩
     all_goals
      go_wp2_with (go_at_call 218;refine(HT _).mono ?_;rintro e w6 ⟨rfl,hf6⟩;have hBr6:=hBr.keep hf6;obtain⟨s0,s1,s2⟩:=hBr6.c3;have sl:=hBr6.lt;have sf:=(fun i=>hBr6.frozen i))
      refine bodyPost_ret (v:=.tuple #[.agg #[.int .i64 0,.slice none 0 0,.slice none 0 0],.bool false]) (by simp[results,Tryz.results194,go_sem, *]) rfl ?_
      rw[hVn.out]
      exact .zero (by exact frc)
    ·rw[if_pos rfl] at hst
     cases b
     ·rw[if_neg (by simp)] at hst
      replace hst:=Lib.hid hst
      obtain⟨g9, -⟩:=hg.resolve_right (fun h=>by cases h.1)
      clear hg
      go_wp2_with (first
       | (go_at_call 218;refine(HT _).mono ?_;rintro e w6 ⟨rfl,hf6⟩;have hB6:=hB.keep hf6;have hBr6:=hBr.keep hf6;obtain⟨s0,s1,s2⟩:=hB6.c3;have sl:=hB6.lt;have sf:=(fun i=>hB6.frozen i);have hrow6:=Lib.hid (hrl1.out.1.keep0 hf6);have hs6:=hf6.size)
       | (at_builtin;refine zqH zrq rfl _ _ rfl (.slice Al ls.length cl) ls.length (ls.map zrn) rfl (by simp) (hrow6.out.keep0 frc) (by have:=hls.out;omega) (w6.heap.size+1) 298 [.int .i64 k',.string n'] rfl bxc rfl (by simp[Value.oneCell']) ?_;intro g c2 w8 hrow8 hcap hgf hor;have D:=Bx.keepX (Bx.keep hB6 frc) hgf (fun e=>(hneL.out _ e).1 rfl);obtain⟨m0,m1,m2⟩:=D.c3;have ml:=D.lt;have mf:=(fun i=>D.frozen i)))
      have hgb:g≠b7∧(zcP (.slice Al ls.length cl)=some g∨w6.heap.size≤g):=by
       rcases hor with h9|h9
       ·exact⟨(hneL.out _ h9).1,.inl h9⟩
       ·exact⟨by rw[h9];simp;omega,.inr (by rw[h9];simp;omega)⟩
      have hrow9:=NRow.snoc (raw:=zrn) (ok:=zro) (x:=⟨k',n'⟩) (w:=(w6.alloc (.cells #[.int .i64 k',.string n'] 298)).alloc (.cells #[.int .i64 k',.string n'] 298)) (hrl1.out.keep (X:=No) (by exact frc) (fun _ _ h=>h)) (by simp;omega) hrow8 hor hcap hsz
      have hf8:Fr No w w8:=Fr.trans (w:=(w6.alloc (.cells #[.int .i64 k',.string n'] 298)).alloc (.cells #[.int .i64 k',.string n'] 298)) (by exact frc) hgf (fun b hb e=>by have:=hrl1.out.2.1 b e;omega)
      have hBr8:=Bx.keepX (Bx.keep hBr6 frc) hgf (fun e=>(hneL.out _ e).2 rfl)
      have hoth8:=NRow.keep (NRow.keep (X:=No) (w':=(w6.alloc (.cells #[.int .i64 k',.string n'] 298)).alloc (.cells #[.int .i64 k',.string n'] 298)) hrl2.out (by exact frc) (fun _ _ h=>h)) hgf (fun q hq e=>hap.out q e hq)
      have hput:=Fr.put1 b7 1 (.slice (some ⟨g,0,none⟩) (ls.length+1) c2) w8
      have hrowF:=Lib.hid (hrow9.keep hput (fun q hq hx=>by rw[zcQ,if_neg (by omega)] at hq;cases hq;exact hgb.1 hx))
      have hothF:=Lib.hid (hoth8.keep hput (fun q hq hx=>(hneS.out q hq).1 hx))
      have hapF:Hid (∀q,zcP (.slice (some ⟨g,0,none⟩) (ls.length+1) c2)=some q->¬zcP (.slice As ss.length cs)=some q):=fun q hq hx=>by
       rw[zcQ,if_neg (by omega)] at hq;cases hq
       rcases hgb.2 with h9|h9
       ·exact hap.out _ h9 hx
       ·have h10:g<wr.heap.size:=hrl2.out.1.lt hx
        omega
      have hfF:Fr No w (w8.setCell ⟨b7,1,none⟩ (.slice (some ⟨g,0,none⟩) (ls.length+1) c2)):=hf8.trans hput (fun b hb e=>by omega)
      have hBF:=Lib.hid (D.set_ 1 (.slice (some ⟨g,0,none⟩) (ls.length+1) c2))
      have hBrF:=Lib.hid (hBr8.keepX hput (by omega))
      clear hrow8 hrow9 hgf hor hoth8
      go_wp2
      go_roundw
      case rel=>exact⟨j+1,false,ls ++ [⟨k',n'⟩],ss,_,_,by omega,by go_num,rfl,by have:=hls.out;simp;omega,hBF.out,hrowF.out,hothF.out,hapF.out,hst,hBrF.out,hfF⟩
      case measure=>simp[intOf];omega
     ·rw[if_pos rfl] at hst
      replace hst:=Lib.hid hst
      rcases hg with ⟨g9, -⟩ | ⟨-,g9⟩
      all_goals
       go_wp2_with (first
        | (go_at_call 218;refine(HT _).mono ?_;rintro e w6 ⟨rfl,hf6⟩;have hB6:=hB.keep hf6;have hBr6:=hBr.keep hf6;obtain⟨s0,s1,s2⟩:=hB6.c3;have sl:=hB6.lt;have sf:=(fun i=>hB6.frozen i);have hrow6:=Lib.hid (hrl2.out.1.keep0 hf6);have hs6:=hf6.size)
        | (at_builtin;refine zqH zrq rfl _ _ rfl (.slice As ss.length cs) ss.length (ss.map zrn) rfl (by simp) (hrow6.out.keep0 frc) (by have:=hls.out;omega) (w6.heap.size+1) 298 [.int .i64 k',.string n'] rfl bxc rfl (by simp[Value.oneCell']) ?_;intro g c2 w8 hrow8 hcap hgf hor;have D:=Bx.keepX (Bx.keep hB6 frc) hgf (fun e=>(hneS.out _ e).1 rfl);obtain⟨m0,m1,m2⟩:=D.c3;have ml:=D.lt;have mf:=(fun i=>D.frozen i)))
       have hgb:g≠b7∧(zcP (.slice As ss.length cs)=some g∨w6.heap.size≤g):=by
        rcases hor with h9|h9
        ·exact⟨(hneS.out _ h9).1,.inl h9⟩
        ·exact⟨by rw[h9];simp;omega,.inr (by rw[h9];simp;omega)⟩
       have hrow9:=NRow.snoc (raw:=zrn) (ok:=zro) (x:=⟨k',n'⟩) (w:=(w6.alloc (.cells #[.int .i64 k',.string n'] 298)).alloc (.cells #[.int .i64 k',.string n'] 298)) (hrl2.out.keep (X:=No) (by exact frc) (fun _ _ h=>h)) (by simp;omega) hrow8 hor hcap hsz
       have hf8:Fr No w w8:=Fr.trans (w:=(w6.alloc (.cells #[.int .i64 k',.string n'] 298)).alloc (.cells #[.int .i64 k',.string n'] 298)) (by exact frc) hgf (fun b hb e=>by have:=hrl2.out.2.1 b e;omega)
       have hBr8:=Bx.keepX (Bx.keep hBr6 frc) hgf (fun e=>(hneS.out _ e).2 rfl)
       have hoth8:=NRow.keep (NRow.keep (X:=No) (w':=(w6.alloc (.cells #[.int .i64 k',.string n'] 298)).alloc (.cells #[.int .i64 k',.string n'] 298)) hrl1.out (by exact frc) (fun _ _ h=>h)) hgf (fun q hq e=>hap.out q hq e)
       have hput:=Fr.put1 b7 2 (.slice (some ⟨g,0,none⟩) (ss.length+1) c2) w8
       have hrowF:=Lib.hid (hrow9.keep hput (fun q hq hx=>by rw[zcQ,if_neg (by omega)] at hq;cases hq;exact hgb.1 hx))
       have hothF:=Lib.hid (hoth8.keep hput (fun q hq hx=>(hneL.out q hq).1 hx))
       have hapF:Hid (∀q,zcP (.slice Al ls.length cl)=some q->¬zcP (.slice (some ⟨g,0,none⟩) (ss.length+1) c2)=some q):=fun q hq hx=>by
        rw[zcQ,if_neg (by omega)] at hx;cases hx
        rcases hgb.2 with h9|h9
        ·exact hap.out _ hq h9
        ·have h10:g<wr.heap.size:=hrl1.out.1.lt hq
         omega
       have hfF:Fr No w (w8.setCell ⟨b7,2,none⟩ (.slice (some ⟨g,0,none⟩) (ss.length+1) c2)):=hf8.trans hput (fun b hb e=>by omega)
       have hBF:=Lib.hid (D.set_ 2 (.slice (some ⟨g,0,none⟩) (ss.length+1) c2))
       have hBrF:=Lib.hid (hBr8.keepX hput (by omega))
       clear hrow8 hrow9 hgf hor hoth8
       go_wp2
       go_roundw
       case rel=>exact⟨j+1,true,ls,ss ++ [⟨k',n'⟩],_,_,by omega,by go_num,rfl,by have:=hls.out;simp;omega,hBF.out,hothF.out,hrowF.out,hapF.out,hst,hBrF.out,hfF⟩
       case measure=>simp[intOf];omega
  ·obtain rfl:j=us.length:=by omega
   have hres:zqp us false [] []=some (b,ls,ss):=by rw[hd.out,List.drop_length,zqp]
   have hVe:Hid (V=(⟨lo',ls,ss⟩,okl&&b&&decide (0≤lo'))):=by show V=_;rw[hV.out,hres]
   obtain⟨Al,cl,rfl,hl1,hl2⟩:=hrl1.1.form
   obtain⟨As,cs,rfl,hs1,hs2⟩:=hrl2.1.form
   have hneL:∀q,zcP (.slice Al ls.length cl)=some q->q≠w.heap.size:=fun q hq=>hrl1.1.ne hBr (by decide) hq
   have hneS:∀q,zcP (.slice As ss.length cs)=some q->q≠w.heap.size:=fun q hq=>hrl2.1.ne hBr (by decide) hq
   obtain⟨m0,m1,m2⟩:=hB.c3
   obtain⟨r0,r1,r2⟩:=hBr.c3
   have ml:=hB.lt
   have rl:=hBr.lt
   have rf:=fun i=>hBr.frozen i
   replace hrl1:=Lib.hid hrl1
   replace hrl2:=Lib.hid hrl2
   replace hneL:=Lib.hid hneL
   replace hneS:=Lib.hid hneS
   replace hls:=Lib.hid hls
   replace hap:=Lib.hid hap
   obtain⟨OK,hOK⟩:∃OK,OK=(okl&&b&&decide (0≤lo')):=⟨_,rfl⟩
   rw[<-hOK] at hVe
   have hcase:(okl=false∧OK=false)∨(okl=true∧b=false∧OK=false)∨(okl=true∧b=true∧OK=decide (0≤lo')):=by
    rw[hOK]
    cases okl<;>cases b<;>simp
   clear hd hres hC hV hOK hB hBr c1
   rcases hcase with ⟨rfl,hO⟩ | ⟨rfl,rfl,hO⟩ | ⟨rfl,rfl,hO⟩
   all_goals
    replace hO:=Lib.hid hO
    go_wp2
    refine bodyPost_ret (v:=.tuple #[.agg #[.int .i64 lo',.slice Al ls.length cl,.slice As ss.length cs],.bool OK]) (by rw[hO.out];simp[results,Tryz.results194,go_sem, *]) rfl ?_
    have hfin:∀W,Fr (fun b=>b=w.heap.size) wr W->zrv V w (.returned (.tuple #[.agg #[.int .i64 lo',.slice Al ls.length cl,.slice As ss.length cs],.bool OK])) W:=fun W hW=>by
     rw[hVe.out]
     exact⟨[_,_,_],rfl,⟨_,_,rfl,zrr.sl (hrl1.out.keep hW (fun q hq=>hneL.out q hq)),zrr.sl (hrl2.out.keep hW (fun q hq=>hneS.out q hq))⟩,hf.trans hW (fun b hb e=>by omega)⟩
    refine hfin _ ?_
    repeat(first|(with_reducible exact Fr.refl _ _)|(with_reducible refine Fr.same ?_ (Fr.put1 _ _ _ _)))
end Go.Proofs.YtmeaibjmnjcdfaaGreat
