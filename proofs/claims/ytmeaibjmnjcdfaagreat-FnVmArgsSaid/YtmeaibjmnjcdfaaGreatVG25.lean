/- The reference's reading of a class's first line, of a field and of whom a keeper asks. -/
import Derived.Test.YtmeaibjmnjcdfaaGreatVG24
import Derived.Test.YtmeaibjmnjcdfaaGreatVG21
set_option maxHeartbeats 2000000
set_option maxRecDepth 100000
namespace Go.Proofs.YtmeaibjmnjcdfaaGreat
open Go.RowKit
theorem Fr.put1 (b o:Nat) (u:Value) (W:World):Fr (fun x=>x=b) W (W.setCell ⟨b,o,none⟩ u):=Fr.setCellX (X:=fun x=>x=b) (p:=⟨b,o,none⟩) (Fr.refl _ W) rfl u
def resN (wB:World) (b:Nat) (t:TypeId) (new:Array Value) (j:Nat) (W:World):Prop:=(j=0∧Fr No wB W)∨(j=1∧Fr (fun x=>x=b) wB W∧Bx W b t new)
section
variable {wB:World} {b:Nat} {t:TypeId} {cs0 new:Array Value}
theorem resN.mono:∀j W W',resN wB b t new j W->Fr No W W'->resN wB b t new j W':=fun j W W' h hf=>by
 rcases h with ⟨h1,h2⟩ | ⟨h1,h2,h3⟩
 ·exact .inl ⟨h1,h2.trans0 hf⟩
 ·exact .inr ⟨h1,h2.trans0 hf,h3.keep hf⟩
theorem resN.g {j:Nat} {W:World} (h:resN wB b t new j W):Fr (fun x=>x=b) wB W:=by
 rcases h with ⟨h1,h2⟩ | ⟨h1,h2,h3⟩
 ·exact h2.of0
 ·exact h2
theorem resN.start:resN wB b t new 0 wB.drew:=.inl ⟨rfl,(Fr.refl No wB).drew⟩
theorem resN.old (hB:Bx wB b t cs0) {j:Nat} (hj:j<1) {W:World} (h:resN wB b t new j W):Bx W b t cs0:=by
 rcases h with ⟨h1,h2⟩ | ⟨h1,_⟩
 ·exact hB.keep h2
 ·omega
theorem resN.put {j:Nat} (hj:j<1) {W W':World} (h:resN wB b t new j W) (hf:Fr (fun x=>x=b) W W') (hb:Bx W' b t new):resN wB b t new (j+1) W':=by
 rcases h with ⟨rfl,h2⟩ | ⟨h1,_⟩
 ·exact .inr ⟨rfl,h2.of0.same hf,hb⟩
 ·omega
theorem resN.done {W:World} (h:resN wB b t new 1 W):Fr (fun x=>x=b) wB W∧Bx W b t new:=by
 rcases h with ⟨h1,_⟩ | ⟨_,h2,h3⟩
 ·omega
 ·exact⟨h2,h3⟩
end
theorem three {α:Type} {ws:List α} (h:ws.length=3):∃x a b,ws=[x,a,b]:=by
 match ws,h with
 | [x,a,b],_=>exact⟨x,a,b,rfl⟩
theorem zq5 {ws:List Str} (h:ws.length≠3):zqk ws=(⟨noSp,0⟩,false):=by
 unfold zqk
 split
 ·simp at h
 ·rfl
theorem zq6 (X:Nat->Prop) (v:Value) (ws:List Str) (w:World) (h:Sl X w 1 StrC v ws):Calls Tryz.prog 142 #[v] w (Gives (.tuple #[.agg #[.string (zqk ws).1.name,.int .i64 (zqk ws).1.keeper],.bool (zqk ws).2]) w):=by
 obtain⟨A,cap,rfl,hcap,hlen⟩:=h.form
 unfold maxLen at hlen
 by_cases h3:ws.length=3
 ·obtain⟨x,a,b,rfl⟩:=three h3
  obtain⟨bk,off,rfl,_,c1,z1⟩:=h.strs (k:=1) (by simp)
  obtain⟨bk',off',he,_,c2,z2⟩:=h.strs (k:=2) (by simp)
  cases he
  simp only[List.getElem_cons_succ,List.getElem_cons_zero] at c1 c2 z1 z2
  have HR:=fun W=>zqS b W z2
  have HN:=fun W=>zlv a W z1
  show Calls _ _ _ _ (Gives (.tuple #[.agg #[.string a,.int .i64 (zqb b).1],.bool ((zqb b).2&&decide (0≤(zqb b).1)&&namB a)]) w)
  have hbd:=zqd b
  generalize zqb b=q at *
  obtain⟨n,ok⟩:=q
  generalize namB a=na at *
  dsimp only at *
  have hbl:=lt_of_cell c1
  have BR:=Bx.new w 150 #[.string ⟨#[]⟩,.int .i64 0]
  clear h
  go_enter Tryz.func142,Tryz.ntmps142
  go_wp2_with (go_at_call 191;refine(HR _).mono ?_;rintro e w1 ⟨rfl,hf1⟩)
  have hw1:Fr No w w1:=((Fr.refl No w).alloc _).trans0 hf1
  have BR1:=BR.keep hf1
  have q1:∀W,Fr (fun x=>x=w.heap.size) w1 W->W.cell? ⟨bk,off+1,none⟩=some (.string a):=fun W hW=>hW.keep (fun _ h=>h) (by omega) (hw1.keep0 c1)
  have hG:∀j W,resN w1 w.heap.size 150 #[.string a,.int .i64 n] j W->Fr (fun x=>x=w.heap.size) w1 W:=fun _ _ h=>h.g
  have hGs:∀W,Fr (fun x=>x=w.heap.size) w1 W->w1.heap.size≤W.heap.size:=fun _ h=>h.size
  clear BR c2 c1 HR hf1 hcap hlen h3 z1 z2 hbd
  have fin:∀WR,resN w1 w.heap.size 150 #[.string a,.int .i64 n] 1 WR->Fr No w WR∧Bx WR w.heap.size 150 #[.string a,.int .i64 n]:=fun WR h=>⟨hw1.trans h.done.1 (fun b hb e=>by omega),h.done.2⟩
  have hcase:(ok=false)∨(ok=true∧n<0)∨(ok=true∧0≤n):=by cases ok<;>simp;omega
  rcases hcase with rfl | ⟨rfl,hn⟩ | ⟨rfl,hn⟩
  ·skip
   refine zpN 1 33 [aV (.slice (some ⟨bk,off,none⟩) 3 cap),aV (.pointer (some ⟨bk,off+1,none⟩)),aV (.string a),aV (.int .i64 n),aV (.agg #[.string a,.int .i64 n]),aV (.bool false),aV (.bool false),aN,aN,aV (.bool false),aV (.bool false),aN,aN,aN,aN,aV (.bool false),aX (undef),aV (.bool false)] (resN w1 w.heap.size 150 #[.string a,.int .i64 n]) (fun _ _=>True) (by kernel_rfl) (by kernel_rfl) (by simp) (resN.mono) (resN.start) ?_ ?_ ?_
   ·exact fun v W W' hs=>hSA rfl <| hSA rfl <| hSA rfl <| hSA rfl <| hSA rfl <| hSA rfl <| hSA rfl <| hSA rfl <| hSA rfl <| hSA rfl <| hSA rfl <| hSA rfl <| hSA rfl <| hSA rfl <| hSA rfl <| hSA rfl <| hSA rfl <| hSA rfl <| zpL
   ·refine hopA ?_ <| hopA ?_ <| hopA ?_ <| hopA ?_ <| hopA ?_ <| hopA ?_ <| hopA ?_ <| hopA aNo <| hopA aNo <| hopA ?_ <| hopA ?_ <| hopA aNo <| hopA aNo <| hopA aNo <| hopA aNo <| hopA ?_ <| hopA ?_ <| hopA ?_ <| zpL
    all_goals (intro _ a' W jc hjc hW0 hoff hdep;have hW:=hG jc _ hW0;have hbs:=hGs _ hW;have H0:=hoff 0 rfl;have H4:=hoff 4 rfl;have H5:=hoff 5 rfl;have H2:=hoff 2 rfl)
    ·simp[execOp,Act.eval,H0,go_sem,zaa];exact fr1 rfl
    ·have D17:_=_:=hdep 0 17 rfl;clear hoff hdep;simp[execOp,Act.eval,go_sem,zaa, *];exact fr1 rfl
    ·have D18:_=_:=hdep 1 18 rfl;clear hoff hdep;simp[execOp,Act.eval,go_sem,zaa, *];exact fr1 rfl
    ·simp[execOp,Act.eval,H4,go_sem,zaa];exact fr1 rfl
    ·have D19:_=_:=hdep 2 19 rfl;have D20:_=_:=hdep 3 20 rfl;simp at D19 D20;simp[execOp,Act.eval,D19,D20,go_sem,zaa];exact fr1 rfl
    ·simp[execOp,Act.eval,H5,go_sem,zaa];exact fr1 rfl
    ·have D22:_=_:=hdep 5 22 rfl;simp[execOp,Act.eval,D22,go_sem,zaa];exact fr1 rfl
    ·have D23:_=_:=hdep 6 23 rfl;have D25:_=_:=hdep 8 25 rfl;simp[execOp,Act.eval,D23,D25,go_sem,zaa];exact fr1 rfl
    ·have D26:_=_:=hdep 9 26 rfl;simp[execOp,Act.eval,D26,go_sem,zaa];exact fr1 rfl
    ·have D27:_=_:=hdep 10 27 rfl;have D31:_=_:=hdep 14 31 rfl;simp[execOp,Act.eval,D27,D31,go_sem,zaa];exact fr1 rfl
    ·have D21:_=_:=hdep 4 21 rfl
     have BR9:=resN.old BR1 hjc hW0;obtain⟨c0,c1',cf,cl⟩:=(⟨BR9.c2.1,BR9.c2.2,fun i=>BR9.frozen i,BR9.lt⟩:_∧_∧(∀i,W.frozen? ⟨w.heap.size,i,none⟩=false)∧w.heap.size<W.heap.size)
     clear hoff hdep;simp[execOp,Act.eval,go_sem,zaa, *]
     exact⟨resN.put hjc hW0 (.same (.put1 _ _ _ _) (.put1 _ _ _ _)) ((BR9.set_ 0 _).set_ 1 _),rfl⟩
    ·have D32:_=_:=hdep 15 32 rfl;simp[execOp,Act.eval,D32,go_sem,zaa];exact fr1 rfl
   intro vs WR hWR hv
   simp only[zpG,zpE,zpF,zpJ,Nat.zero_add,Nat.reduceAdd]
   simp only[Act.put,lz0,lz1,lz2]
   clear  hv
   obtain⟨hfR,hBR⟩:=fin WR hWR
   obtain⟨r0,r1⟩:=hBR.c2
   clear hG hGs fin q1
   go_wp2_with fail
   refine bodyPost_ret (v:=.tuple #[.agg #[.string a,.int .i64 n],.bool false]) (by simp[results,Tryz.results142,go_sem, *]) rfl ?_
   exact .mk (by simp) hfR
  ·have hn2:decide (0≤n)=false:=decide_eq_false (by omega)
   refine zpN 1 33 [aV (.slice (some ⟨bk,off,none⟩) 3 cap),aV (.pointer (some ⟨bk,off+1,none⟩)),aV (.string a),aV (.int .i64 n),aV (.agg #[.string a,.int .i64 n]),aV (.bool true),aV (.bool true),aV (.int .i64 n),aV (.bool false),aV (.bool false),aV (.bool false),aN,aN,aN,aN,aV (.bool false),aX (undef),aV (.bool false)] (resN w1 w.heap.size 150 #[.string a,.int .i64 n]) (fun _ _=>True) (by kernel_rfl) (by kernel_rfl) (by simp) (resN.mono) (resN.start) ?_ ?_ ?_
   ·exact fun v W W' hs=>hSA rfl <| hSA rfl <| hSA rfl <| hSA rfl <| hSA rfl <| hSA rfl <| hSA rfl <| hSA rfl <| hSA rfl <| hSA rfl <| hSA rfl <| hSA rfl <| hSA rfl <| hSA rfl <| hSA rfl <| hSA rfl <| hSA rfl <| hSA rfl <| zpL
   ·refine hopA ?_ <| hopA ?_ <| hopA ?_ <| hopA ?_ <| hopA ?_ <| hopA ?_ <| hopA ?_ <| hopA ?_ <| hopA ?_ <| hopA ?_ <| hopA ?_ <| hopA aNo <| hopA aNo <| hopA aNo <| hopA aNo <| hopA ?_ <| hopA ?_ <| hopA ?_ <| zpL
    all_goals (intro _ a' W jc hjc hW0 hoff hdep;have hW:=hG jc _ hW0;have hbs:=hGs _ hW;have H0:=hoff 0 rfl;have H4:=hoff 4 rfl;have H5:=hoff 5 rfl;have H2:=hoff 2 rfl)
    ·simp[execOp,Act.eval,H0,go_sem,zaa];exact fr1 rfl
    ·have D17:_=_:=hdep 0 17 rfl;clear hoff hdep;simp[execOp,Act.eval,go_sem,zaa, *];exact fr1 rfl
    ·have D18:_=_:=hdep 1 18 rfl;clear hoff hdep;simp[execOp,Act.eval,go_sem,zaa, *];exact fr1 rfl
    ·simp[execOp,Act.eval,H4,go_sem,zaa];exact fr1 rfl
    ·have D19:_=_:=hdep 2 19 rfl;have D20:_=_:=hdep 3 20 rfl;simp at D19 D20;simp[execOp,Act.eval,D19,D20,go_sem,zaa];exact fr1 rfl
    ·simp[execOp,Act.eval,H5,go_sem,zaa];exact fr1 rfl
    ·have D22:_=_:=hdep 5 22 rfl;simp[execOp,Act.eval,D22,go_sem,zaa];exact fr1 rfl
    ·simp[execOp,Act.eval,H4,go_sem,zaa];exact fr1 rfl
    ·have D24:_=_:=hdep 7 24 rfl;simp[execOp,Act.eval,D24,go_sem,zaa];exact fr1 (show Value.bool _=_ by rw[hn2])
    ·have D23:_=_:=hdep 6 23 rfl;have D25:_=_:=hdep 8 25 rfl;simp[execOp,Act.eval,D23,D25,go_sem,zaa];exact fr1 rfl
    ·have D26:_=_:=hdep 9 26 rfl;simp[execOp,Act.eval,D26,go_sem,zaa];exact fr1 rfl
    ·have D27:_=_:=hdep 10 27 rfl;have D31:_=_:=hdep 14 31 rfl;simp[execOp,Act.eval,D27,D31,go_sem,zaa];exact fr1 rfl
    ·have D21:_=_:=hdep 4 21 rfl
     have BR9:=resN.old BR1 hjc hW0;obtain⟨c0,c1',cf,cl⟩:=(⟨BR9.c2.1,BR9.c2.2,fun i=>BR9.frozen i,BR9.lt⟩:_∧_∧(∀i,W.frozen? ⟨w.heap.size,i,none⟩=false)∧w.heap.size<W.heap.size)
     clear hoff hdep;simp[execOp,Act.eval,go_sem,zaa, *]
     exact⟨resN.put hjc hW0 (.same (.put1 _ _ _ _) (.put1 _ _ _ _)) ((BR9.set_ 0 _).set_ 1 _),rfl⟩
    ·have D32:_=_:=hdep 15 32 rfl;simp[execOp,Act.eval,D32,go_sem,zaa];exact fr1 rfl
   intro vs WR hWR hv
   simp only[zpG,zpE,zpF,zpJ,Nat.zero_add,Nat.reduceAdd]
   simp only[Act.put,lz0,lz1,lz2]
   clear  hv
   obtain⟨hfR,hBR⟩:=fin WR hWR
   obtain⟨r0,r1⟩:=hBR.c2
   clear hG hGs fin q1
   go_wp2_with fail
   refine bodyPost_ret (v:=.tuple #[.agg #[.string a,.int .i64 n],.bool false]) (by simp[results,Tryz.results142,go_sem, *]) rfl ?_
   exact .mk (by simp[hn2]) hfR
  ·have hn2:decide (0≤n)=true:=decide_eq_true hn
   refine zpN 1 33 [aV (.slice (some ⟨bk,off,none⟩) 3 cap),aV (.pointer (some ⟨bk,off+1,none⟩)),aV (.string a),aV (.int .i64 n),aV (.agg #[.string a,.int .i64 n]),aV (.bool true),aV (.bool true),aV (.int .i64 n),aV (.bool true),aV (.bool true),aV (.bool true),aV (.slice (some ⟨bk,off,none⟩) 3 cap),aV (.pointer (some ⟨bk,off+1,none⟩)),aV (.string a),aV (.bool na),aV (.bool na),aX (undef),aV (.bool na)] (resN w1 w.heap.size 150 #[.string a,.int .i64 n]) (fun _ _=>True) (by kernel_rfl) (by kernel_rfl) (by simp) (resN.mono) (resN.start) ?_ ?_ ?_
   ·exact fun v W W' hs=>hSA rfl <| hSA rfl <| hSA rfl <| hSA rfl <| hSA rfl <| hSA rfl <| hSA rfl <| hSA rfl <| hSA rfl <| hSA rfl <| hSA rfl <| hSA rfl <| hSA rfl <| hSA rfl <| hSA rfl <| hSA rfl <| hSA rfl <| hSA rfl <| zpL
   ·refine hopA ?_ <| hopA ?_ <| hopA ?_ <| hopA ?_ <| hopA ?_ <| hopA ?_ <| hopA ?_ <| hopA ?_ <| hopA ?_ <| hopA ?_ <| hopA ?_ <| hopA ?_ <| hopA ?_ <| hopA ?_ <| hopA ?_ <| hopA ?_ <| hopA ?_ <| hopA ?_ <| zpL
    all_goals (intro _ a' W jc hjc hW0 hoff hdep;have hW:=hG jc _ hW0;have hbs:=hGs _ hW;have H0:=hoff 0 rfl;have H4:=hoff 4 rfl;have H5:=hoff 5 rfl;have H2:=hoff 2 rfl)
    ·simp[execOp,Act.eval,H0,go_sem,zaa];exact fr1 rfl
    ·have D17:_=_:=hdep 0 17 rfl;clear hoff hdep;simp[execOp,Act.eval,go_sem,zaa, *];exact fr1 rfl
    ·have D18:_=_:=hdep 1 18 rfl;clear hoff hdep;simp[execOp,Act.eval,go_sem,zaa, *];exact fr1 rfl
    ·simp[execOp,Act.eval,H4,go_sem,zaa];exact fr1 rfl
    ·have D19:_=_:=hdep 2 19 rfl;have D20:_=_:=hdep 3 20 rfl;simp at D19 D20;simp[execOp,Act.eval,D19,D20,go_sem,zaa];exact fr1 rfl
    ·simp[execOp,Act.eval,H5,go_sem,zaa];exact fr1 rfl
    ·have D22:_=_:=hdep 5 22 rfl;simp[execOp,Act.eval,D22,go_sem,zaa];exact fr1 rfl
    ·simp[execOp,Act.eval,H4,go_sem,zaa];exact fr1 rfl
    ·have D24:_=_:=hdep 7 24 rfl;simp[execOp,Act.eval,D24,go_sem,zaa];exact fr1 (show Value.bool _=_ by rw[hn2])
    ·have D23:_=_:=hdep 6 23 rfl;have D25:_=_:=hdep 8 25 rfl;simp[execOp,Act.eval,D23,D25,go_sem,zaa];exact fr1 rfl
    ·have D26:_=_:=hdep 9 26 rfl;simp[execOp,Act.eval,D26,go_sem,zaa];exact fr1 rfl
    ·simp[execOp,Act.eval,H0,go_sem,zaa];exact fr1 rfl
    ·have D28:_=_:=hdep 11 28 rfl;clear hoff hdep;simp[execOp,Act.eval,go_sem,zaa, *];exact fr1 rfl
    ·have D29:_=_:=hdep 12 29 rfl;clear hoff hdep;simp[execOp,Act.eval,go_sem,zaa, *];exact fr1 rfl
    ·have D30:_=_:=hdep 13 30 rfl;simp[Act.eval,D30,go_sem,zaa];exact(HN W).mono fun e w' ⟨h1,h2⟩=>⟨_,h1,h2▸Fr.refl _ _,rfl⟩
    ·have D27:_=_:=hdep 10 27 rfl;have D31:_=_:=hdep 14 31 rfl;simp[execOp,Act.eval,D27,D31,go_sem,zaa];exact fr1 rfl
    ·have D21:_=_:=hdep 4 21 rfl
     have BR9:=resN.old BR1 hjc hW0;obtain⟨c0,c1',cf,cl⟩:=(⟨BR9.c2.1,BR9.c2.2,fun i=>BR9.frozen i,BR9.lt⟩:_∧_∧(∀i,W.frozen? ⟨w.heap.size,i,none⟩=false)∧w.heap.size<W.heap.size)
     clear hoff hdep;simp[execOp,Act.eval,go_sem,zaa, *]
     exact⟨resN.put hjc hW0 (.same (.put1 _ _ _ _) (.put1 _ _ _ _)) ((BR9.set_ 0 _).set_ 1 _),rfl⟩
    ·have D32:_=_:=hdep 15 32 rfl;simp[execOp,Act.eval,D32,go_sem,zaa];exact fr1 rfl
   intro vs WR hWR hv
   simp only[zpE,zpF,zpJ,Nat.zero_add,Nat.reduceAdd]
   simp only[Act.put,lz0,lz1,lz2]
   clear  hv
   obtain⟨hfR,hBR⟩:=fin WR hWR
   obtain⟨r0,r1⟩:=hBR.c2
   clear hG hGs fin q1
   go_wp2_with fail
   refine bodyPost_ret (v:=.tuple #[.agg #[.string a,.int .i64 n],.bool na]) (by simp[results,Tryz.results142,go_sem, *]) rfl ?_
   exact .mk (by simp[hn2]) hfR
 ·rw[zq5 h3]
  have d:((ws.length:Int) != 3)=true:=by simp;omega
  clear h h3
  go_enter Tryz.func142,Tryz.ntmps142
  go_wp2
  refine bodyPost_ret (v:=.tuple #[.agg #[.string ⟨#[]⟩,.int .i64 0],.bool false]) (by simp[results,Tryz.results142,go_sem]) rfl ?_
  exact .mk rfl (by exact frc)
theorem zq7 {ws:List Str} (h:ws.length≠3):zql ws=(zqi,false):=by
 unfold zql
 split
 ·simp at h
 ·rfl
theorem zq8 {ws:List Str} (h:ws.length≠3):zqm ws=(⟨noSp,⟨0,noSp⟩⟩,false):=by
 unfold zqm
 split
 ·simp at h
 ·rfl
theorem zq9 (X:Nat->Prop) (v:Value) (ws:List Str) (w:World) (h:Sl X w 1 StrC v ws):Calls Tryz.prog 143 #[v] w (Gives (.tuple #[.agg #[.string (zql ws).1.name,.string (zql ws).1.super,.slice none 0 0,.slice none 0 0],.bool (zql ws).2]) w):=by
 obtain⟨A,cap,rfl,hcap,hlen⟩:=h.form
 unfold maxLen at hlen
 by_cases h3:ws.length=3
 ·obtain⟨x,a,b,rfl⟩:=three h3
  obtain⟨bk,off,rfl,_,c1,z1⟩:=h.strs (k:=1) (by simp)
  obtain⟨bk',off',he,_,c2,z2⟩:=h.strs (k:=2) (by simp)
  cases he
  simp only[List.getElem_cons_succ,List.getElem_cons_zero] at c1 c2 z1 z2
  have HN:=fun W=>zlv a W z1
  have HM:=fun W=>zlv b W z2
  have hbl:=lt_of_cell c1
  have BR:=Bx.new w 55 #[.string ⟨#[]⟩,.string ⟨#[]⟩,.slice none 0 0,.slice none 0 0]
  obtain⟨V,hV⟩:∃V,V=zql [x,a,b]:=⟨_,rfl⟩
  rw[<-hV]
  unfold zql at hV
  have hcase:(namB a=false∧V=(⟨noSp,noSp,[],[]⟩,false))∨(namB a=true∧Str.l b=[45]∧V=(⟨a,noSp,[],[]⟩,true))∨(namB a=true∧¬Str.l b=[45]∧namB b=true∧V=(⟨a,b,[],[]⟩,true))∨(namB a=true∧¬Str.l b=[45]∧namB b=false∧V=(⟨noSp,noSp,[],[]⟩,false)):=by
   rw[hV]
   by_cases h:Str.l b=[45]<;>cases ha:namB a<;>cases hb:namB b<;>simp[h,ha,hb,zqi]
  clear h h3 hcap hlen hV
  rcases hcase with ⟨ha,rfl⟩ | ⟨ha,hb,rfl⟩ | ⟨ha,hb,hb2,rfl⟩ | ⟨ha,hb,hb2,rfl⟩
  ·rw[ha] at HN
   go_enter Tryz.func143,Tryz.ntmps143
   go_wp2_with (go_at_call 65;(refine(HN _).mono ?_;rintro e w1 ⟨rfl,rfl⟩))
   refine bodyPost_ret (v:=.tuple #[.agg #[.string ⟨#[]⟩,.string ⟨#[]⟩,.slice none 0 0,.slice none 0 0],.bool false]) (by simp[results,Tryz.results143,go_sem]) rfl ?_
   exact .mk rfl (by exact frc)
  ·rw[ha] at HN
   have g:(b.toList == [45])=true:=by rw[eq_l];exact decide_eq_true hb
   have g2:(b.toList != [45])=false:=by rw[bne,g];rfl
   clear hb HM
   go_enter Tryz.func143,Tryz.ntmps143
   go_wp2_with (go_at_call 65;(refine(HN _).mono ?_;rintro e w1 ⟨rfl,rfl⟩))
   refine bodyPost_ret (v:=.tuple #[.agg #[.string a,.string ⟨#[]⟩,.slice none 0 0,.slice none 0 0],.bool true]) (by simp[results,Tryz.results143,go_sem]) rfl ?_
   exact .mk rfl (by exact frc)
  ·rw[ha] at HN
   rw[hb2] at HM
   have g:(b.toList == [45])=false:=by rw[eq_l];exact decide_eq_false hb
   have g2:(b.toList != [45])=true:=by rw[bne,g];rfl
   clear hb
   go_enter Tryz.func143,Tryz.ntmps143
   go_wp2_with (first|(go_at_call_of 65 (Value.string a);refine(HN _).mono ?_;rintro e w1 ⟨rfl,rfl⟩)|(go_at_call_of 65 (Value.string b);refine(HM _).mono ?_;rintro e w1 ⟨rfl,rfl⟩))
   refine bodyPost_ret (v:=.tuple #[.agg #[.string a,.string b,.slice none 0 0,.slice none 0 0],.bool true]) (by simp[results,Tryz.results143,go_sem]) rfl ?_
   exact .mk rfl (by exact frc)
  ·rw[ha] at HN
   rw[hb2] at HM
   have g:(b.toList == [45])=false:=by rw[eq_l];exact decide_eq_false hb
   have g2:(b.toList != [45])=true:=by rw[bne,g];rfl
   clear hb
   go_enter Tryz.func143,Tryz.ntmps143
   go_wp2_with (first|(go_at_call_of 65 (Value.string a);refine(HN _).mono ?_;rintro e w1 ⟨rfl,rfl⟩)|(go_at_call_of 65 (Value.string b);refine(HM _).mono ?_;rintro e w1 ⟨rfl,rfl⟩))
   refine bodyPost_ret (v:=.tuple #[.agg #[.string ⟨#[]⟩,.string ⟨#[]⟩,.slice none 0 0,.slice none 0 0],.bool false]) (by simp[results,Tryz.results143,go_sem]) rfl ?_
   exact .mk rfl (by exact frc)
 ·rw[zq7 h3]
  have d:((ws.length:Int) != 3)=true:=by simp;omega
  clear h h3
  go_enter Tryz.func143,Tryz.ntmps143
  go_wp2
  refine bodyPost_ret (v:=.tuple #[.agg #[.string ⟨#[]⟩,.string ⟨#[]⟩,.slice none 0 0,.slice none 0 0],.bool false]) (by simp[results,Tryz.results143,go_sem]) rfl ?_
  exact .mk rfl (by exact frc)
theorem zra (X:Nat->Prop) (v:Value) (ws:List Str) (w:World) (h:Sl X w 1 StrC v ws):Calls Tryz.prog 192 #[v] w (Gives (.tuple #[.agg #[.string (zqm ws).1.name,.int .i64 (zqm ws).1.kind.kind,.string (zqm ws).1.kind.name],.bool (zqm ws).2]) w):=by
 obtain⟨A,cap,rfl,hcap,hlen⟩:=h.form
 unfold maxLen at hlen
 by_cases h3:ws.length=3
 ·obtain⟨x,a,b,rfl⟩:=three h3
  obtain⟨bk,off,rfl,_,c1,z1⟩:=h.strs (k:=1) (by simp)
  obtain⟨bk',off',he,_,c2,z2⟩:=h.strs (k:=2) (by simp)
  cases he
  simp only[List.getElem_cons_succ,List.getElem_cons_zero] at c1 c2 z1 z2
  have HN:=fun W=>zlv a W z1
  have HK:=fun W=>zq3 b W z2
  have hbl:=lt_of_cell c1
  have BR:=Bx.new w 227 #[.string ⟨#[]⟩,.int .i64 0,.string ⟨#[]⟩]
  obtain⟨V,hV⟩:∃V,V=zqm [x,a,b]:=⟨_,rfl⟩
  rw[<-hV]
  unfold zqm at hV
  dsimp only at hV
  have hcase:(namB a=false∧V=(⟨noSp,⟨0,noSp⟩⟩,false))∨(namB a=true∧V=(⟨a,(zqe b).1⟩,(zqe b).2)):=by
   rw[hV]
   cases ha:namB a<;>simp
  clear h h3 hcap hlen hV
  rcases hcase with ⟨ha,rfl⟩ | ⟨ha,rfl⟩
  ·rw[ha] at HN
   go_enter Tryz.func192,Tryz.ntmps192
   go_wp2_with (go_at_call 65;(refine(HN _).mono ?_;rintro e w1 ⟨rfl,rfl⟩))
   refine bodyPost_ret (v:=.tuple #[.agg #[.string ⟨#[]⟩,.int .i64 0,.string ⟨#[]⟩],.bool false]) (by simp[results,Tryz.results192,go_sem]) rfl ?_
   exact .mk rfl (by exact frc)
  ·rw[ha] at HN
   obtain⟨⟨⟨kk,kn⟩,ok⟩,hkr⟩:∃q,q=zqe b:=⟨_,rfl⟩
   rw[<-hkr] at HK ⊢
   unfold kndV at HK
   dsimp only at HK ⊢
   clear hkr
   go_enter Tryz.func192,Tryz.ntmps192
   go_wp2_with (first
    | (go_at_call 65;(refine(HN _).mono ?_;rintro e w1 ⟨rfl,rfl⟩))
    | (go_at_call 217;(refine(HK _).mono ?_;rintro e w1 ⟨rfl,hf1⟩)))
   have hw1:Fr No w w1:=((Fr.refl No w).alloc _).trans0 hf1
   obtain⟨wB,hwB⟩:∃wB,wB=w1.alloc (.cells #[.int .i64 kk,.string kn] 121):=⟨_,rfl⟩
   rw[<-hwB]
   have hwB2:Fr No w1 wB:=hwB▸frc
   have BK:Bx wB w1.heap.size 121 #[.int .i64 kk,.string kn]:=hwB▸Bx.new w1 _ _
   have BR1:=(BR.keep hf1).keep hwB2
   have hne:w1.heap.size≠w.heap.size:=by have:=(BR.keep hf1).lt;omega
   have hwb:=hw1.trans0 hwB2
   have q1:∀W,Fr (fun x=>x=w.heap.size) wB W->W.cell? ⟨bk,off+1,none⟩=some (.string a):=fun W hW=>hW.keep (fun _ h=>h) (by omega) (hwb.keep0 c1)
   have KB:∀W,Fr (fun x=>x=w.heap.size) wB W->W.cell? ⟨w1.heap.size,0,none⟩=some (.int .i64 kk)∧W.cell? ⟨w1.heap.size,1,none⟩=some (.string kn):=fun W hW=>(BK.keepX hW hne).c2
   have hG:∀j W,resN wB w.heap.size 227 #[.string a,.int .i64 kk,.string kn] j W->Fr (fun x=>x=w.heap.size) wB W:=fun _ _ h=>h.g
   have hGs:∀W,Fr (fun x=>x=w.heap.size) wB W->wB.heap.size≤W.heap.size:=fun _ h=>h.size
   have fin:∀WR,resN wB w.heap.size 227 #[.string a,.int .i64 kk,.string kn] 1 WR->Fr No w WR∧Bx WR w.heap.size 227 #[.string a,.int .i64 kk,.string kn]:=fun WR h=>⟨hwb.trans h.done.1 (fun b hb e=>by omega),h.done.2⟩
   clear BR c2 c1 HK HN hf1 z1 z2 hwB hw1 hwB2 BK
   refine zpN 1 30 [aV (.slice (some ⟨bk,off,none⟩) 3 cap),aV (.pointer (some ⟨bk,off+1,none⟩)),aV (.string a),aV (.agg #[.int .i64 kk,.string kn]),aV (.agg #[.string a,.int .i64 kk,.string kn]),aV (.bool ok),aX (undef),aV (.bool ok)] (resN wB w.heap.size 227 #[.string a,.int .i64 kk,.string kn]) (fun _ _=>True) (by kernel_rfl) (by kernel_rfl) (by simp) (resN.mono) (resN.start) ?_ ?_ ?_
   ·exact fun v W W' hs=>hSA rfl <| hSA rfl <| hSA rfl <| hSA rfl <| hSA rfl <| hSA rfl <| hSA rfl <| hSA rfl <| zpL
   ·refine hopA ?_ <| hopA ?_ <| hopA ?_ <| hopA ?_ <| hopA ?_ <| hopA ?_ <| hopA ?_ <| hopA ?_ <| zpL
    all_goals (intro _ a' W jc hjc hW0 hoff hdep;have hW:=hG jc _ hW0;have hbs:=hGs _ hW;have H0:=hoff 0 rfl;have H4:=hoff 4 rfl;have H5:=hoff 5 rfl;have H2:=hoff 2 rfl)
    ·simp[execOp,Act.eval,H0,go_sem,zaa];exact fr1 rfl
    ·have D24:_=_:=hdep 0 24 rfl;clear hoff hdep;simp[execOp,Act.eval,go_sem,zaa, *];exact fr1 rfl
    ·have D25:_=_:=hdep 1 25 rfl;clear hoff hdep;simp[execOp,Act.eval,go_sem,zaa, *];exact fr1 rfl
    ·exact gx0
    ·have D26:_=_:=hdep 2 26 rfl;have D27:_=_:=hdep 3 27 rfl;simp at D26 D27;simp[execOp,Act.eval,D26,D27,go_sem,zaa];exact fr1 rfl
    ·simp[execOp,Act.eval,H5,go_sem,zaa];exact fr1 rfl
    ·have D28:_=_:=hdep 4 28 rfl
     have BR9:=resN.old BR1 hjc hW0;obtain⟨c0,c1',c2',cf,cl⟩:=(⟨BR9.c3.1,BR9.c3.2.1,BR9.c3.2.2,fun i=>BR9.frozen i,BR9.lt⟩:_∧_∧_∧(∀i,W.frozen? ⟨w.heap.size,i,none⟩=false)∧w.heap.size<W.heap.size)
     clear hoff hdep;simp[execOp,Act.eval,go_sem,zaa, *]
     exact⟨resN.put hjc hW0 (.same (.same (.put1 _ _ _ _) (.put1 _ _ _ _)) (.put1 _ _ _ _)) (((BR9.set_ 0 _).set_ 1 _).set_ 2 _),rfl⟩
    ·have D29:_=_:=hdep 5 29 rfl;simp[execOp,Act.eval,D29,go_sem,zaa];exact fr1 rfl
   intro vs WR hWR hv
   simp only[zpE,zpF,zpJ,Nat.zero_add,Nat.reduceAdd]
   simp only[Act.put,lz0,lz1,lz2]
   clear  hv
   obtain⟨hfR,hBR⟩:=fin WR hWR
   obtain⟨r0,r1,r2⟩:=hBR.c3
   clear hG hGs fin q1 KB
   go_wp2_with fail
   refine bodyPost_ret (v:=.tuple #[.agg #[.string a,.int .i64 kk,.string kn],.bool ok]) (by simp[results,Tryz.results192,go_sem, *]) rfl ?_
   exact .mk rfl hfR
 ·rw[zq8 h3]
  have d:((ws.length:Int) != 3)=true:=by simp;omega
  clear h h3
  go_enter Tryz.func192,Tryz.ntmps192
  go_wp2
  refine bodyPost_ret (v:=.tuple #[.agg #[.string ⟨#[]⟩,.int .i64 0,.string ⟨#[]⟩],.bool false]) (by simp[results,Tryz.results192,go_sem]) rfl ?_
  exact .mk rfl (by exact frc)
end Go.Proofs.YtmeaibjmnjcdfaaGreat
