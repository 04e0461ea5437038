/- The reference's reading of kinds and tags, and of the lines of classes, fields and asks. -/
import Derived.Test.YtmeaibjmnjcdfaaGreatVG23
import Derived.Test.YtmeaibjmnjcdfaaGreatVG18
import Derived.StillTailTactics
set_option maxHeartbeats 1000000
set_option maxRecDepth 100000
namespace Go.Proofs.YtmeaibjmnjcdfaaGreat
open Go.RowKit
section
variable {P:Program} {ops:Array Oper}
end
def kndV (k:Knd):Value:=.agg #[.int .i64 k.kind,.string k.name]
def tagV (k:Tag):Value:=.agg #[.int .i64 k.kind,.string k.name]
theorem eq_l {s:Str} {l:Bs}:(s.toList == l)=decide (Str.l s=l):=by rw[zqR];exact Bool.eq_iff_iff.2 (by simp)
theorem zq3 (s:Str) (w:World) (hs:s.size≤maxLen):Calls Tryz.prog 217 #[.string s] w (Gives (.tuple #[kndV (zqe s).1,.bool (zqe s).2]) w):=by
 have HN:=fun W=>zlv s W hs
 obtain⟨V,hV⟩:∃V,V=zqe s:=⟨_,rfl⟩
 rw[<-hV]
 unfold zqe at hV
 have hcase:(Str.l s=[35])∨(¬Str.l s=[35]∧namB s=true)∨(¬Str.l s=[35]∧namB s=false):=by
  by_cases h:Str.l s=[35]
  ·exact .inl h
  ·cases namB s<;>simp[h]
 rcases hcase with h | ⟨h,hn⟩ | ⟨h,hn⟩
 ·rw[if_pos h] at hV
  subst hV
  have g:(s.toList == [35])=true:=by rw[eq_l];exact decide_eq_true h
  clear h HN
  unfold kndV
  go_enter Tryz.func217,Tryz.ntmps217
  go_wp2
  refine bodyPost_ret (v:=.tuple #[.agg #[.int .i64 1,.string ⟨#[]⟩],.bool true]) (by simp[results,Tryz.results217,go_sem]) rfl ?_
  exact .mk rfl (by exact frc)
 ·rw[if_neg h,hn,if_pos rfl] at hV
  rw[hn] at HN
  subst hV
  have g:(s.toList == [35])=false:=by rw[eq_l];exact decide_eq_false h
  clear h
  unfold kndV
  go_enter Tryz.func217,Tryz.ntmps217
  go_wp2_with (go_at_call 65;refine(HN _).mono ?_;rintro e w1 ⟨rfl,rfl⟩)
  refine bodyPost_ret (v:=.tuple #[.agg #[.int .i64 2,.string s],.bool true]) (by simp[results,Tryz.results217,go_sem]) rfl ?_
  exact .mk rfl (by exact frc)
 ·rw[if_neg h,hn,if_neg (by decide)] at hV
  rw[hn] at HN
  subst hV
  have g:(s.toList == [35])=false:=by rw[eq_l];exact decide_eq_false h
  clear h
  unfold kndV
  go_enter Tryz.func217,Tryz.ntmps217
  go_wp2_with (go_at_call 65;refine(HN _).mono ?_;rintro e w1 ⟨rfl,rfl⟩)
  refine bodyPost_ret (v:=.tuple #[.agg #[.int .i64 0,.string ⟨#[]⟩],.bool false]) (by simp[results,Tryz.results217,go_sem]) rfl ?_
  exact .mk rfl (by exact frc)
theorem zq4 (s:Str) (w:World) (hs:s.size≤maxLen):Calls Tryz.prog 218 #[.string s] w (Gives (.tuple #[tagV (zqf s).1,.bool (zqf s).2]) w):=by
 have HN:=fun W=>zlv s W hs
 obtain⟨V,hV⟩:∃V,V=zqf s:=⟨_,rfl⟩
 rw[<-hV]
 unfold zqf at hV
 have hcase:(∃(k:Int) (t:Tag),Str.l s=[63]∧k=0∧t=⟨k,noSp⟩∧V=(t,true))∨(∃(k:Int) (t:Tag),Str.l s=[35]∧k=1∧t=⟨k,noSp⟩∧V=(t,true))∨(∃(k:Int) (t:Tag),Str.l s=[33]∧k=3∧t=⟨k,noSp⟩∧V=(t,true))∨(¬Str.l s=[63]∧¬Str.l s=[35]∧¬Str.l s=[33]∧V=(⟨2,s⟩,namB s)):=by
  by_cases h1:Str.l s=[63]
  ·exact .inl ⟨0,_,h1,rfl,rfl,by rw[hV,if_pos h1]⟩
  ·by_cases h2:Str.l s=[35]
   ·exact .inr (.inl ⟨1,_,h2,rfl,rfl,by rw[hV,if_neg h1,if_pos h2]⟩)
   ·by_cases h3:Str.l s=[33]
    ·exact .inr (.inr (.inl ⟨3,_,h3,rfl,rfl,by rw[hV,if_neg h1,if_neg h2,if_pos h3]⟩))
    ·exact .inr (.inr (.inr ⟨h1,h2,h3,by rw[hV,if_neg h1,if_neg h2,if_neg h3]⟩))
 clear hV
 rcases hcase with ⟨k,t,h,rfl,rfl,rfl⟩ | ⟨k,t,h,rfl,rfl,rfl⟩ | ⟨k,t,h,rfl,rfl,rfl⟩ | ⟨h1,h2,h3,rfl⟩
 rotate_left 3
 focus
  have g1:(s.toList == [63])=false:=by rw[eq_l];exact decide_eq_false h1
  have g2:(s.toList == [35])=false:=by rw[eq_l];exact decide_eq_false h2
  have g3:(s.toList == [33])=false:=by rw[eq_l];exact decide_eq_false h3
  clear h1 h2 h3
  unfold tagV
  generalize namB s=bn at *
  go_enter Tryz.func218,Tryz.ntmps218
  go_wp2_with (go_at_call 65;refine(HN _).mono ?_;rintro e w1 ⟨rfl,rfl⟩)
  refine bodyPost_ret (v:=.tuple #[.agg #[.int .i64 2,.string s],.bool bn]) (by simp[results,Tryz.results218,go_sem]) rfl ?_
  exact .mk rfl (by exact frc)
 all_goals
  first|have g1:(s.toList == [63])=true:=by(rw[eq_l,h];rfl)|have g1:(s.toList == [63])=false:=by(rw[eq_l,h];rfl)
  first|have g2:(s.toList == [35])=true:=by(rw[eq_l,h];rfl)|have g2:(s.toList == [35])=false:=by(rw[eq_l,h];rfl)
  first|have g3:(s.toList == [33])=true:=by(rw[eq_l,h];rfl)|have g3:(s.toList == [33])=false:=by(rw[eq_l,h];rfl)
  clear h HN
  unfold tagV
  go_enter Tryz.func218,Tryz.ntmps218
  go_wp2
  first
   | (refine bodyPost_ret (v:=.tuple #[.agg #[.int .i64 0,.string ⟨#[]⟩],.bool true]) (by simp[results,Tryz.results218,go_sem];done) rfl ?_;exact .mk rfl (by exact frc))
   | (refine bodyPost_ret (v:=.tuple #[.agg #[.int .i64 1,.string ⟨#[]⟩],.bool true]) (by simp[results,Tryz.results218,go_sem];done) rfl ?_;exact .mk rfl (by exact frc))
   | (refine bodyPost_ret (v:=.tuple #[.agg #[.int .i64 3,.string ⟨#[]⟩],.bool true]) (by simp[results,Tryz.results218,go_sem];done) rfl ?_;exact .mk rfl (by exact frc))
end Go.Proofs.YtmeaibjmnjcdfaaGreat
