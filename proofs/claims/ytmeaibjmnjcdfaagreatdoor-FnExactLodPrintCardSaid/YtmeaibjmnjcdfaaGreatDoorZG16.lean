/- The reference's reading of a class's first line, of a field and of whom a keeper asks. -/
import Derived.Test.YtmeaibjmnjcdfaaGreatDoorZG10
import Derived.Test.YtmeaibjmnjcdfaaGreatDoorZG11
import Derived.Test.YtmeaibjmnjcdfaaGreatDoorZG15
set_option maxHeartbeats 2000000
set_option maxRecDepth 100000
namespace Go.Proofs.YtmeaibjmnjcdfaaGreatDoor
open Go.RowKit
theorem Fr.put1 (b o:Nat) (u:Value) (W:World):Fr (fun x=>x=b) W (W.setCell ⟨b,o,none⟩ u):=Fr.setCellX (X:=fun x=>x=b) (p:=⟨b,o,none⟩) (Fr.refl _ W) rfl u
def resN (wB:World) (b:Nat) (t:TypeId) (new:Array Value) (j:Nat) (W:World):Prop:=(j=0∧Fr No wB W)∨(j=1∧Fr (fun x=>x=b) wB W∧Bx W b t new)
section
variable {wB:World} {b:Nat} {t:TypeId} {cs0 new:Array Value}
theorem resN.mono:∀j W W',resN wB b t new j W->Fr No W W'->resN wB b t new j W':=fun j W W' h hf=>by
 rcases h with ⟨h1,h2⟩ | ⟨h1,h2,h3⟩
 ·exact .inl ⟨h1,h2.trans0 hf⟩
 ·exact .inr ⟨h1,h2.trans0 hf,h3.keep hf⟩
theorem resN.g {j:Nat} {W:World} (h:resN wB b t new j W):Fr (fun x=>x=b) wB W:=by
 rcases h with ⟨h1,h2⟩ | ⟨h1,h2,h3⟩
 ·exact h2.of0
 ·exact h2
theorem resN.start:resN wB b t new 0 wB.drew:=.inl ⟨rfl,(Fr.refl No wB).drew⟩
theorem resN.old (hB:Bx wB b t cs0) {j:Nat} (hj:j<1) {W:World} (h:resN wB b t new j W):Bx W b t cs0:=by
 rcases h with ⟨h1,h2⟩ | ⟨h1,_⟩
 ·exact hB.keep h2
 ·omega
theorem resN.put {j:Nat} (hj:j<1) {W W':World} (h:resN wB b t new j W) (hf:Fr (fun x=>x=b) W W') (hb:Bx W' b t new):resN wB b t new (j+1) W':=by
 rcases h with ⟨rfl,h2⟩ | ⟨h1,_⟩
 ·exact .inr ⟨rfl,h2.of0.same hf,hb⟩
 ·omega
theorem resN.done {W:World} (h:resN wB b t new 1 W):Fr (fun x=>x=b) wB W∧Bx W b t new:=by
 rcases h with ⟨h1,_⟩ | ⟨_,h2,h3⟩
 ·omega
 ·exact⟨h2,h3⟩
end
theorem three {α:Type} {ws:List α} (h:ws.length=3):∃x a b,ws=[x,a,b]:=by
 match ws,h with
 | [x,a,b],_=>exact⟨x,a,b,rfl⟩
theorem zq5 {ws:List Str} (h:ws.length≠3):zqk ws=(⟨noSp,0⟩,false):=by
 unfold zqk
 split
 ·simp at h
 ·rfl
theorem zq6 (X:Nat->Prop) (v:Value) (ws:List Str) (w:World) (h:Sl X w 1 StrC v ws):Calls Tryz.prog 63 #[v] w (Gives (.tuple #[.agg #[.string (zqk ws).1.name,.int .i64 (zqk ws).1.keeper],.bool (zqk ws).2]) w):=by
 obtain⟨A,cap,rfl,hcap,hlen⟩:=h.form
 unfold maxLen at hlen
 by_cases h3:ws.length=3
 ·obtain⟨x,a,b,rfl⟩:=three h3
  obtain⟨bk,off,rfl,_,c1,z1⟩:=h.strs (k:=1) (by simp)
  obtain⟨bk',off',he,_,c2,z2⟩:=h.strs (k:=2) (by simp)
  cases he
  simp only[List.getElem_cons_succ,List.getElem_cons_zero] at c1 c2 z1 z2
  have HR:=fun W=>zqS b W z2
  have HN:=fun W=>zlv a W z1
  show Calls _ _ _ _ (Gives (.tuple #[.agg #[.string a,.int .i64 (zqb b).1],.bool ((zqb b).2&&decide (0≤(zqb b).1)&&namB a)]) w)
  have hbd:=zqd b
  generalize zqb b=q at *
  obtain⟨n,ok⟩:=q
  generalize namB a=na at *
  dsimp only at *
  have hbl:=lt_of_cell c1
  have BR:=Bx.new w 53 #[.string ⟨#[]⟩,.int .i64 0]
  clear h
  go_enter Tryz.func63,Tryz.ntmps63
  go_wp2_with (go_at_call 106;refine(HR _).mono ?_;rintro e w1 ⟨rfl,hf1⟩)
  have hw1:Fr No w w1:=((Fr.refl No w).alloc _).trans0 hf1
  have BR1:=BR.keep hf1
  have q1:∀W,Fr (fun x=>x=w.heap.size) w1 W->W.cell? ⟨bk,off+1,none⟩=some (.string a):=fun W hW=>hW.keep (fun _ h=>h) (by omega) (hw1.keep0 c1)
  have hG:∀j W,resN w1 w.heap.size 53 #[.string a,.int .i64 n] j W->Fr (fun x=>x=w.heap.size) w1 W:=fun _ _ h=>h.g
  have hGs:∀W,Fr (fun x=>x=w.heap.size) w1 W->w1.heap.size≤W.heap.size:=fun _ h=>h.size
  clear BR c2 c1 HR hf1 hcap hlen h3 z1 z2 hbd
  have fin:∀WR,resN w1 w.heap.size 53 #[.string a,.int .i64 n] 1 WR->Fr No w WR∧Bx WR w.heap.size 53 #[.string a,.int .i64 n]:=fun WR h=>⟨hw1.trans h.done.1 (fun b hb e=>by omega),h.done.2⟩
  have hcase:(ok=false)∨(ok=true∧n<0)∨(ok=true∧0≤n):=by cases ok<;>simp;omega
  rcases hcase with rfl | ⟨rfl,hn⟩ | ⟨rfl,hn⟩
  ·skip
   refine zpN 1 33 [aV (.slice (some ⟨bk,off,none⟩) 3 cap),aV (.pointer (some ⟨bk,off+1,none⟩)),aV (.string a),aV (.int .i64 n),aV (.agg #[.string a,.int .i64 n]),aV (.bool false),aV (.bool false),aN,aN,aV (.bool false),aV (.bool false),aN,aN,aN,aN,aV (.bool false),aX (undef),aV (.bool false)] (resN w1 w.heap.size 53 #[.string a,.int .i64 n]) (fun _ _=>True) (by kernel_rfl) (by kernel_rfl) (by simp) (resN.mono) (resN.start) ?_ ?_ ?_
   ·exact fun v W W' hs=>hSA rfl <| hSA rfl <| hSA rfl <| hSA rfl <| hSA rfl <| hSA rfl <| hSA rfl <| hSA rfl <| hSA rfl <| hSA rfl <| hSA rfl <| hSA rfl <| hSA rfl <| hSA rfl <| hSA rfl <| hSA rfl <| hSA rfl <| hSA rfl <| zpL
   ·refine hopA ?_ <| hopA ?_ <| hopA ?_ <| hopA ?_ <| hopA ?_ <| hopA ?_ <| hopA ?_ <| hopA aNo <| hopA aNo <| hopA ?_ <| hopA ?_ <| hopA aNo <| hopA aNo <| hopA aNo <| hopA aNo <| hopA ?_ <| hopA ?_ <| hopA ?_ <| zpL
    all_goals (intro _ a' W jc hjc hW0 hoff hdep;have hW:=hG jc _ hW0;have hbs:=hGs _ hW;have H0:=hoff 0 rfl;have H4:=hoff 4 rfl;have H5:=hoff 5 rfl;have H2:=hoff 2 rfl)
    ·simp[execOp,Act.eval,H0,go_sem,zaa];exact fr1 rfl
    ·have D17:_=_:=hdep 0 17 rfl;clear hoff hdep;simp[execOp,Act.eval,go_sem,zaa, *];exact fr1 rfl
    ·have D18:_=_:=hdep 1 18 rfl;clear hoff hdep;simp[execOp,Act.eval,go_sem,zaa, *];exact fr1 rfl
    ·simp[execOp,Act.eval,H4,go_sem,zaa];exact fr1 rfl
    ·have D19:_=_:=hdep 2 19 rfl;have D20:_=_:=hdep 3 20 rfl;simp at D19 D20;simp[execOp,Act.eval,D19,D20,go_sem,zaa];exact fr1 rfl
    ·simp[execOp,Act.eval,H5,go_sem,zaa];exact fr1 rfl
    ·have D22:_=_:=hdep 5 22 rfl;simp[execOp,Act.eval,D22,go_sem,zaa];exact fr1 rfl
    ·have D23:_=_:=hdep 6 23 rfl;have D25:_=_:=hdep 8 25 rfl;simp[execOp,Act.eval,D23,D25,go_sem,zaa];exact fr1 rfl
    ·have D26:_=_:=hdep 9 26 rfl;simp[execOp,Act.eval,D26,go_sem,zaa];exact fr1 rfl
    ·have D27:_=_:=hdep 10 27 rfl;have D31:_=_:=hdep 14 31 rfl;simp[execOp,Act.eval,D27,D31,go_sem,zaa];exact fr1 rfl
    ·have D21:_=_:=hdep 4 21 rfl
     have BR9:=resN.old BR1 hjc hW0;obtain⟨c0,c1',cf,cl⟩:=(⟨BR9.c2.1,BR9.c2.2,fun i=>BR9.frozen i,BR9.lt⟩:_∧_∧(∀i,W.frozen? ⟨w.heap.size,i,none⟩=false)∧w.heap.size<W.heap.size)
     clear hoff hdep;simp[execOp,Act.eval,go_sem,zaa, *]
     exact⟨resN.put hjc hW0 (.same (.put1 _ _ _ _) (.put1 _ _ _ _)) ((BR9.set_ 0 _).set_ 1 _),rfl⟩
    ·have D32:_=_:=hdep 15 32 rfl;simp[execOp,Act.eval,D32,go_sem,zaa];exact fr1 rfl
   intro vs WR hWR hv
   simp only[zpG,zpE,zpF,zpJ,Nat.zero_add,Nat.reduceAdd]
   simp only[Act.put,lz0,lz1,lz2]
   clear  hv
   obtain⟨hfR,hBR⟩:=fin WR hWR
   obtain⟨r0,r1⟩:=hBR.c2
   clear hG hGs fin q1
   go_wp2_with fail
   refine bodyPost_ret (v:=.tuple #[.agg #[.string a,.int .i64 n],.bool false]) (by simp[results,Tryz.results63,go_sem, *]) rfl ?_
   exact .mk (by simp) hfR
  ·have hn2:decide (0≤n)=false:=decide_eq_false (by omega)
   refine zpN 1 33 [aV (.slice (some ⟨bk,off,none⟩) 3 cap),aV (.pointer (some ⟨bk,off+1,none⟩)),aV (.string a),aV (.int .i64 n),aV (.agg #[.string a,.int .i64 n]),aV (.bool true),aV (.bool true),aV (.int .i64 n),aV (.bool false),aV (.bool false),aV (.bool false),aN,aN,aN,aN,aV (.bool false),aX (undef),aV (.bool false)] (resN w1 w.heap.size 53 #[.string a,.int .i64 n]) (fun _ _=>True) (by kernel_rfl) (by kernel_rfl) (by simp) (resN.mono) (resN.start) ?_ ?_ ?_
   ·exact fun v W W' hs=>hSA rfl <| hSA rfl <| hSA rfl <| hSA rfl <| hSA rfl <| hSA rfl <| hSA rfl <| hSA rfl <| hSA rfl <| hSA rfl <| hSA rfl <| hSA rfl <| hSA rfl <| hSA rfl <| hSA rfl <| hSA rfl <| hSA rfl <| hSA rfl <| zpL
   ·refine hopA ?_ <| hopA ?_ <| hopA ?_ <| hopA ?_ <| hopA ?_ <| hopA ?_ <| hopA ?_ <| hopA ?_ <| hopA ?_ <| hopA ?_ <| hopA ?_ <| hopA aNo <| hopA aNo <| hopA aNo <| hopA aNo <| hopA ?_ <| hopA ?_ <| hopA ?_ <| zpL
    all_goals (intro _ a' W jc hjc hW0 hoff hdep;have hW:=hG jc _ hW0;have hbs:=hGs _ hW;have H0:=hoff 0 rfl;have H4:=hoff 4 rfl;have H5:=hoff 5 rfl;have H2:=hoff 2 rfl)
    ·simp[execOp,Act.eval,H0,go_sem,zaa];exact fr1 rfl
    ·have D17:_=_:=hdep 0 17 rfl;clear hoff hdep;simp[execOp,Act.eval,go_sem,zaa, *];exact fr1 rfl
    ·have D18:_=_:=hdep 1 18 rfl;clear hoff hdep;simp[execOp,Act.eval,go_sem,zaa, *];exact fr1 rfl
    ·simp[execOp,Act.eval,H4,go_sem,zaa];exact fr1 rfl
    ·have D19:_=_:=hdep 2 19 rfl;have D20:_=_:=hdep 3 20 rfl;simp at D19 D20;simp[execOp,Act.eval,D19,D20,go_sem,zaa];exact fr1 rfl
    ·simp[execOp,Act.eval,H5,go_sem,zaa];exact fr1 rfl
    ·have D22:_=_:=hdep 5 22 rfl;simp[execOp,Act.eval,D22,go_sem,zaa];exact fr1 rfl
    ·simp[execOp,Act.eval,H4,go_sem,zaa];exact fr1 rfl
    ·have D24:_=_:=hdep 7 24 rfl;simp[execOp,Act.eval,D24,go_sem,zaa];exact fr1 (show Value.bool _=_ by rw[hn2])
    ·have D23:_=_:=hdep 6 23 rfl;have D25:_=_:=hdep 8 25 rfl;simp[execOp,Act.eval,D23,D25,go_sem,zaa];exact fr1 rfl
    ·have D26:_=_:=hdep 9 26 rfl;simp[execOp,Act.eval,D26,go_sem,zaa];exact fr1 rfl
    ·have D27:_=_:=hdep 10 27 rfl;have D31:_=_:=hdep 14 31 rfl;simp[execOp,Act.eval,D27,D31,go_sem,zaa];exact fr1 rfl
    ·have D21:_=_:=hdep 4 21 rfl
     have BR9:=resN.old BR1 hjc hW0;obtain⟨c0,c1',cf,cl⟩:=(⟨BR9.c2.1,BR9.c2.2,fun i=>BR9.frozen i,BR9.lt⟩:_∧_∧(∀i,W.frozen? ⟨w.heap.size,i,none⟩=false)∧w.heap.size<W.heap.size)
     clear hoff hdep;simp[execOp,Act.eval,go_sem,zaa, *]
     exact⟨resN.put hjc hW0 (.same (.put1 _ _ _ _) (.put1 _ _ _ _)) ((BR9.set_ 0 _).set_ 1 _),rfl⟩
    ·have D32:_=_:=hdep 15 32 rfl;simp[execOp,Act.eval,D32,go_sem,zaa];exact fr1 rfl
   intro vs WR hWR hv
   simp only[zpG,zpE,zpF,zpJ,Nat.zero_add,Nat.reduceAdd]
   simp only[Act.put,lz0,lz1,lz2]
   clear  hv
   obtain⟨hfR,hBR⟩:=fin WR hWR
   obtain⟨r0,r1⟩:=hBR.c2
   clear hG hGs fin q1
   go_wp2_with fail
   refine bodyPost_ret (v:=.tuple #[.agg #[.string a,.int .i64 n],.bool false]) (by simp[results,Tryz.results63,go_sem, *]) rfl ?_
   exact .mk (by simp[hn2]) hfR
  ·have hn2:decide (0≤n)=true:=decide_eq_true hn
   refine zpN 1 33 [aV (.slice (some ⟨bk,off,none⟩) 3 cap),aV (.pointer (some ⟨bk,off+1,none⟩)),aV (.string a),aV (.int .i64 n),aV (.agg #[.string a,.int .i64 n]),aV (.bool true),aV (.bool true),aV (.int .i64 n),aV (.bool true),aV (.bool true),aV (.bool true),aV (.slice (some ⟨bk,off,none⟩) 3 cap),aV (.pointer (some ⟨bk,off+1,none⟩)),aV (.string a),aV (.bool na),aV (.bool na),aX (undef),aV (.bool na)] (resN w1 w.heap.size 53 #[.string a,.int .i64 n]) (fun _ _=>True) (by kernel_rfl) (by kernel_rfl) (by simp) (resN.mono) (resN.start) ?_ ?_ ?_
   ·exact fun v W W' hs=>hSA rfl <| hSA rfl <| hSA rfl <| hSA rfl <| hSA rfl <| hSA rfl <| hSA rfl <| hSA rfl <| hSA rfl <| hSA rfl <| hSA rfl <| hSA rfl <| hSA rfl <| hSA rfl <| hSA rfl <| hSA rfl <| hSA rfl <| hSA rfl <| zpL
   ·refine hopA ?_ <| hopA ?_ <| hopA ?_ <| hopA ?_ <| hopA ?_ <| hopA ?_ <| hopA ?_ <| hopA ?_ <| hopA ?_ <| hopA ?_ <| hopA ?_ <| hopA ?_ <| hopA ?_ <| hopA ?_ <| hopA ?_ <| hopA ?_ <| hopA ?_ <| hopA ?_ <| zpL
    all_goals (intro _ a' W jc hjc hW0 hoff hdep;have hW:=hG jc _ hW0;have hbs:=hGs _ hW;have H0:=hoff 0 rfl;have H4:=hoff 4 rfl;have H5:=hoff 5 rfl;have H2:=hoff 2 rfl)
    ·simp[execOp,Act.eval,H0,go_sem,zaa];exact fr1 rfl
    ·have D17:_=_:=hdep 0 17 rfl;clear hoff hdep;simp[execOp,Act.eval,go_sem,zaa, *];exact fr1 rfl
    ·have D18:_=_:=hdep 1 18 rfl;clear hoff hdep;simp[execOp,Act.eval,go_sem,zaa, *];exact fr1 rfl
    ·simp[execOp,Act.eval,H4,go_sem,zaa];exact fr1 rfl
    ·have D19:_=_:=hdep 2 19 rfl;have D20:_=_:=hdep 3 20 rfl;simp at D19 D20;simp[execOp,Act.eval,D19,D20,go_sem,zaa];exact fr1 rfl
    ·simp[execOp,Act.eval,H5,go_sem,zaa];exact fr1 rfl
    ·have D22:_=_:=hdep 5 22 rfl;simp[execOp,Act.eval,D22,go_sem,zaa];exact fr1 rfl
    ·simp[execOp,Act.eval,H4,go_sem,zaa];exact fr1 rfl
    ·have D24:_=_:=hdep 7 24 rfl;simp[execOp,Act.eval,D24,go_sem,zaa];exact fr1 (show Value.bool _=_ by rw[hn2])
    ·have D23:_=_:=hdep 6 23 rfl;have D25:_=_:=hdep 8 25 rfl;simp[execOp,Act.eval,D23,D25,go_sem,zaa];exact fr1 rfl
    ·have D26:_=_:=hdep 9 26 rfl;simp[execOp,Act.eval,D26,go_sem,zaa];exact fr1 rfl
    ·simp[execOp,Act.eval,H0,go_sem,zaa];exact fr1 rfl
    ·have D28:_=_:=hdep 11 28 rfl;clear hoff hdep;simp[execOp,Act.eval,go_sem,zaa, *];exact fr1 rfl
    ·have D29:_=_:=hdep 12 29 rfl;clear hoff hdep;simp[execOp,Act.eval,go_sem,zaa, *];exact fr1 rfl
    ·have D30:_=_:=hdep 13 30 rfl;simp[Act.eval,D30,go_sem,zaa];exact(HN W).mono fun e w' ⟨h1,h2⟩=>⟨_,h1,h2▸Fr.refl _ _,rfl⟩
    ·have D27:_=_:=hdep 10 27 rfl;have D31:_=_:=hdep 14 31 rfl;simp[execOp,Act.eval,D27,D31,go_sem,zaa];exact fr1 rfl
    ·have D21:_=_:=hdep 4 21 rfl
     have BR9:=resN.old BR1 hjc hW0;obtain⟨c0,c1',cf,cl⟩:=(⟨BR9.c2.1,BR9.c2.2,fun i=>BR9.frozen i,BR9.lt⟩:_∧_∧(∀i,W.frozen? ⟨w.heap.size,i,none⟩=false)∧w.heap.size<W.heap.size)
     clear hoff hdep;simp[execOp,Act.eval,go_sem,zaa, *]
     exact⟨resN.put hjc hW0 (.same (.put1 _ _ _ _) (.put1 _ _ _ _)) ((BR9.set_ 0 _).set_ 1 _),rfl⟩
    ·have D32:_=_:=hdep 15 32 rfl;simp[execOp,Act.eval,D32,go_sem,zaa];exact fr1 rfl
   intro vs WR hWR hv
   simp only[zpE,zpF,zpJ,Nat.zero_add,Nat.reduceAdd]
   simp only[Act.put,lz0,lz1,lz2]
   clear  hv
   obtain⟨hfR,hBR⟩:=fin WR hWR
   obtain⟨r0,r1⟩:=hBR.c2
   clear hG hGs fin q1
   go_wp2_with fail
   refine bodyPost_ret (v:=.tuple #[.agg #[.string a,.int .i64 n],.bool na]) (by simp[results,Tryz.results63,go_sem, *]) rfl ?_
   exact .mk (by simp[hn2]) hfR
 ·rw[zq5 h3]
  have d:((ws.length:Int) != 3)=true:=by simp;omega
  clear h h3
  go_enter Tryz.func63,Tryz.ntmps63
  go_wp2
  refine bodyPost_ret (v:=.tuple #[.agg #[.string ⟨#[]⟩,.int .i64 0],.bool false]) (by simp[results,Tryz.results63,go_sem]) rfl ?_
  exact .mk rfl (by exact frc)
end Go.Proofs.YtmeaibjmnjcdfaaGreatDoor
