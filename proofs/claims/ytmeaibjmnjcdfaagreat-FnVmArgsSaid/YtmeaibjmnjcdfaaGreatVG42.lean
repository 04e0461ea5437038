/- The reference's l8Inner, whole. -/
import Derived.Test.YtmeaibjmnjcdfaaGreatVG41
set_option maxHeartbeats 4000000
set_option maxRecDepth 100000
namespace Go.Proofs.YtmeaibjmnjcdfaaGreat
open Go.RowKit
theorem ztS (lo:Nat->Prop) (c:Cls) (ccs:List Value) (X:Nat->Prop) (v:Value) (x0:Str) (xs:List Str) (line:Str) (w:World) (hc:ClsC lo w ccs c) (hws:Sl X w 1 StrC v (x0 :: xs)) (hx1:¬Str.l x0=sFld) (hx2:¬Str.l x0=sMth) (hms:c.methods=[]):
  Calls Tryz.prog 144 #[.agg ccs.toArray,v,.string line] w (ztL lo (c,false) w):=by
 have hC9:=hc
 obtain⟨vf,vm,rfl,hz1,hz2,hf,hm⟩:=hc
 obtain⟨Af,cf,rfl,hcf,hlf⟩:=hf.form
 rw[hms] at hm
 obtain⟨Am,cm,rfl,hcm,hlm⟩:=hm.form
 obtain⟨A,cap,rfl,hcap,hlen⟩:=hws.form
 obtain⟨bk,off,rfl,_,c0,z0⟩:=hws.strs (k:=0) (by simp)
 simp only[Nat.add_zero,List.getElem_cons_zero] at c0 z0
 have hbl:=lt_of_cell c0
 unfold maxLen at hlen hlf
 simp only[List.length_nil] at hC9 ⊢
 have g1:(x0.toList == [102,105,101,108,100])=false:=by rw[eq_l];exact decide_eq_false hx1
 have g2:(x0.toList == [109,101,116,104,111,100])=false:=by rw[eq_l];exact decide_eq_false hx2
 clear hws hx1 hx2 hf hm
 replace hms:=Lib.hid hms
 go_enter Tryz.func144,Tryz.ntmps144
 go_wp2
 refine bodyPost_ret (v:=.tuple #[.agg #[.string c.name,.string c.super,.slice Af c.fields.length cf,.slice Am 0 cm],.bool false]) (by simp[results,Tryz.results144,go_sem]) rfl ?_
 have hfin:∀Wf,Fr No w Wf->ztL lo (c,false) w (.returned (.tuple #[.agg #[.string c.name,.string c.super,.slice Af c.fields.length cf,.slice Am 0 cm],.bool false])) Wf:=fun Wf hW=>⟨[_,_,_,_],rfl,hC9.keep hW zN,hW⟩
 exact hfin _ (by exact frc)
def ztT (c:Cls):Prop:=c.fields.length≤1000∧c.methods.length≤1000∧∀m∈c.methods,m.code.length≤1000∧m.maps.length≤1000
theorem ztU (lo:Nat->Prop) (c:Cls) (ccs:List Value) (X:Nat->Prop) (v:Value) (line:Str) (w:World) (hlo:∀b,lo b->b<w.heap.size) (hc:ClsC lo w ccs c) (hws:Sl X w 1 StrC v (zpV line)) (hls:line.size≤90000) (hsm:ztT c):
  Calls Tryz.prog 144 #[.agg ccs.toArray,v,.string line] w (ztL lo (zqw c line) w):=by
 obtain⟨x0,xs,hwx⟩:∃x0 xs,zpV line=x0 :: xs:=by
  match h:zpV line with
  | []=>exact absurd h (zpY line)
  | x :: xs=>exact⟨x,xs,rfl⟩
 have hw0:zpW line=Str.l x0:=by unfold zpW;rw[hwx];rfl
 rw[hwx] at hws
 obtain⟨h1,h2,h3⟩:=hsm
 unfold zqw
 dsimp only
 rw[hwx,hw0]
 by_cases hx1:Str.l x0=sFld
 ·rw[if_pos (show Str.l x0=[102,105,101,108,100] from hx1)]
  exact ztN lo c ccs X v x0 xs line w hlo hc hws hx1 h1
 rw[if_neg (show ¬Str.l x0=[102,105,101,108,100] from hx1)]
 by_cases hx2:Str.l x0=sMth
 ·rw[if_pos (show Str.l x0=[109,101,116,104,111,100] from hx2)]
  exact ztO lo c ccs X v x0 xs line w hlo hc hws hx2 h2
 rw[if_neg (show ¬Str.l x0=[109,101,116,104,111,100] from hx2)]
 obtain⟨nm,sp,fs,mths⟩:=c
 dsimp only at *
 rcases List.eq_nil_or_concat mths with rfl | ⟨ms,m,rfl⟩
 ·exact ztS lo _ ccs X v x0 xs line w hc hws hx1 hx2 rfl
 ·rw[List.concat_eq_append] at *
  rw[List.getLast?_append]
  dsimp only[List.getLast?_singleton,Option.some_or]
  have hsl:setLast ⟨nm,sp,fs,ms ++ [m]⟩=fun m'=>⟨nm,sp,fs,ms ++ [m']⟩:=by funext m';simp[setLast]
  rw[hsl]
  dsimp only
  rw[List.length_append] at h2
  have h3':=h3 m (by simp)
  by_cases hx3:Str.l x0=sFrm
  ·rw[if_pos (show Str.l x0=[102,114,97,109,101] from hx3)]
   exact ztQ lo nm sp fs ms m ccs X v x0 xs line w hlo hc hws hls hx3 (by omega) h3'.2
  ·rw[if_neg (show ¬Str.l x0=[102,114,97,109,101] from hx3)]
   exact ztR lo nm sp fs ms m ccs X v x0 xs line w hlo hc hws hls hx1 hx2 hx3 (by omega) h3'.1
end Go.Proofs.YtmeaibjmnjcdfaaGreat
