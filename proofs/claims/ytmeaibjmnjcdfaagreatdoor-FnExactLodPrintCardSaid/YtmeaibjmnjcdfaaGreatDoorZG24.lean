/- What is known of keepers that are ok, for their text. No program is named here. -/
import Derived.Test.YtmeaibjmnjcdfaaGreatDoorZG23
set_option maxHeartbeats 1000000
set_option maxRecDepth 100000
namespace Go.Proofs.YtmeaibjmnjcdfaaGreatDoor
open Go.RowKit
theorem zyR {s:Str} (h:namB s=true):s.size≤6:=by
 have:=zx9 h
 rw[zkb] at this
 exact this
theorem zyS:∀(cs pre:List Cls),zbt pre cs=true->∀c∈cs,clsB c=true
 | [],_,_,_,h=>by cases h
 | d :: cs,pre,h,c,hc=>by
  rw[zbt] at h
  simp only[lz5] at h
  rcases List.mem_cons.1 hc with rfl|hc
  ·exact h.1.1
  ·exact zyS cs _ h.2 c hc
theorem zyT {many:Int}:∀(cs pre:List Ask),zbu many pre cs=true->∀c∈cs,namB c.name=true∧0≤c.keeper∧c.keeper<many
 | [],_,_,_,h=>by cases h
 | d :: cs,pre,h,c,hc=>by
  rw[zbu] at h
  simp only[lz5,decide_eq_true_eq] at h
  rcases List.mem_cons.1 hc with rfl|hc
  ·exact⟨h.1.1.1,h.1.1.2.1,h.1.1.2.2⟩
  ·exact zyT cs _ h.2 c hc
theorem zyU:∀(cs pre:List Fld),zeI pre cs=true->∀c∈cs,namB c.name=true∧kndB c.kind=true
 | [],_,_,_,h=>by cases h
 | d :: cs,pre,h,c,hc=>by
  rw[zeI] at h
  simp only[lz5] at h
  rcases List.mem_cons.1 hc with rfl|hc
  ·exact⟨h.1.1.1,h.1.1.2⟩
  ·exact zyU cs _ h.2 c hc
theorem zyV:∀(cs pre:List Mth),zeJ pre cs=true->∀c∈cs,mthB c=true
 | [],_,_,_,h=>by cases h
 | d :: cs,pre,h,c,hc=>by
  rw[zeJ] at h
  simp only[lz5] at h
  rcases List.mem_cons.1 hc with rfl|hc
  ·exact h.1.1
  ·exact zyV cs _ h.2 c hc
theorem zyW {len locals stack:Int}:∀(xs:List Mp) (last:Int),zf3 len locals stack last xs=true->∀x∈xs,last<x.at_∧x.at_<len∧(x.locals.length:Int)=locals∧(x.stack.length:Int)≤stack
 | [],_,_,_,h=>by cases h
 | y :: xs,last,h,x,hx=>by
  rw[zf3,lz5] at h
  have h1:=h.1
  unfold zfY at h1
  simp only[lz5,decide_eq_true_eq] at h1
  obtain⟨⟨⟨⟨⟨h2,h3⟩,h4⟩,h5⟩,_⟩,_⟩:=h1
  rcases List.mem_cons.1 hx with rfl|hx
  ·exact⟨h2,h3,h4,h5⟩
  ·obtain⟨a,b,c,d⟩:=zyW xs y.at_ h.2 x hx
   exact⟨by omega,b,c,d⟩
theorem zyX {m:Mth} (h:mthB m=true):zyu m:=by
 unfold mthB at h
 simp only[lz5,decide_eq_true_eq] at h
 obtain⟨⟨⟨⟨⟨⟨⟨⟨⟨h1,h2⟩,_⟩,_⟩,h5⟩,h6⟩,h7⟩,h8⟩,h9⟩,h10⟩:=h
 unfold zfW at h9
 unfold zf4 at h10
 simp only[lz5,decide_eq_true_eq] at h9 h10
 refine⟨zyR h1,h2,by omega,by omega,by omega,by omega,h10.1,h9.1.2,fun x hx=>?_⟩
 obtain⟨a,b,c,d⟩:=zyW _ _ h10.2 x hx
 omega
theorem zyY {c:Cls} (h:clsB c=true):zyJ c:=by
 unfold clsB at h
 simp only[lz5,decide_eq_true_eq,Bool.or_eq_true] at h
 obtain⟨⟨⟨⟨⟨h1,h2⟩,h3⟩,h4⟩,h5⟩,h6⟩:=h
 refine⟨zyR h1,?_,h3,h4,fun f hf=>zyR (zyU _ _ h5 f hf).1,fun m hm=>zyX (zyV _ _ h6 m hm)⟩
 rcases h2 with h2|h2
 ·have h0:c.super.toList=[]:=by simpa using h2
  have h9:c.super.data.toList=[]:=by rw[<-h0];exact(toList_data c.super).symm
  have:c.super.data.size=0:=by rw[<-Array.length_toList,h9];rfl
  show c.super.data.size≤6
  omega
 ·exact zyR h2
def zyZ (k:Kpr):Prop:=k.owns.length≤5∧k.asks.length≤4∧(∀c∈k.owns,zyJ c)∧∀a∈k.asks,a.name.size≤6∧0≤a.keeper∧a.keeper<3
theorem zy0 {p:Plan} (h:lodB p=true):p.keepers.length≤3∧∀k∈p.keepers,zyZ k:=by
 unfold lodB at h
 simp only[lz5,decide_eq_true_eq,List.all_eq_true] at h
 refine⟨h.1.2,fun k hk=>?_⟩
 have h1:=h.2 k hk
 unfold kprB at h1
 simp only[lz5,decide_eq_true_eq] at h1
 obtain⟨⟨⟨h2,h3⟩,h4⟩,h5⟩:=h1
 refine⟨h2,h3,fun c hc=>zyY (zyS _ _ h4 c hc),fun a ha=>?_⟩
 obtain⟨b1,b2,b3⟩:=zyT _ _ h5 a ha
 exact⟨zyR b1,b2,by omega⟩
theorem zy1 {c:Cls} (h:zyJ c):(clsT c).length≤100:=by
 obtain⟨_,_,h3,h4,_,h6⟩:=h
 have h9:=zyL (f:=mthT) (k:=22) c.methods (fun m hm=>zyK (h6 m hm))
 unfold clsT
 simp
 simp at h9
 omega
theorem zy2 {c:Cls} (h:zyJ c):∀x∈clsT c,x.size≤200:=by
 intro x hx
 obtain⟨h1,h2,h3,h4,h5,h6⟩:=h
 unfold clsT at hx
 simp only[List.cons_append,List.mem_cons,List.mem_append,List.mem_map,List.mem_flatMap] at hx
 rcases hx with rfl | ⟨y,hy,rfl⟩ | ⟨y,hy,hx⟩
 ·have h7:(Str.l c.name).length≤6:=by rw[zkb];exact h1
  have h8:(zx4 c.super).length≤6:=by
   unfold zx4
   split
   ·simp
   ·rw[zkb];exact h2
  rw[zpT]
  unfold zx5 zxY
  simp
  omega
 ·have:=zyP y.name y.kind (h5 y hy)
  exact Nat.le_trans this (by decide)
 ·exact zyM (h6 y hy) x hx
theorem zy3 (k:Int) (w:World) (h0:0≤k) (h1:k<100000):Calls Tryz.prog 29 #[.int .i64 k] w (Gives (.string (zbl (numL k))) w):=by
 obtain⟨n,rfl⟩:=Int.eq_ofNat_of_zero_le h0
 have e:numL (n:Int)=zp3 n:=by unfold numL;rw[if_neg (by omega)];rfl
 rw[e]
 exact zqL n w (by omega)
theorem zy4 (k:Knd) (w:World) (hs:k.name.size≤maxLen):
  Calls Tryz.prog 53 #[.agg #[.int .i64 k.kind,.string k.name]] w (Gives (.string (zbl (kndT k))) w):=by
 have HO:=fun W=>zlw k W hs
 obtain⟨k,s⟩:=k
 have hB:=Bx.new w 91 #[.int .i64 k,.string s]
 obtain⟨V,hV⟩:∃V,V=kndT ⟨k,s⟩:=⟨_,rfl⟩
 rw[<-hV]
 unfold kndT at hV
 dsimp only at *
 cases hb:kndB ⟨k,s⟩
 ·rw[hb] at HO hV
  rw[if_neg (by decide)] at hV
  replace hV:=Lib.hid hV
  go_enter Tryz.func53,Tryz.ntmps53
  go_wp2_with (go_at_call 94;refine(HO _).mono ?_;rintro e w1 ⟨rfl,hf1⟩)
  go_ret
  exact strE (by rw[hV.out];rfl) (by exact frc)
 ·rw[hb] at HO hV
  rw[if_pos rfl] at hV
  clear hb
  by_cases h1:k=1
  ·subst h1
   simp only[if_true] at hV
   replace hV:=Lib.hid hV
   go_enter Tryz.func53,Tryz.ntmps53
   go_wp2_with (go_at_call 94;refine(HO _).mono ?_;rintro e w1 ⟨rfl,hf1⟩;obtain⟨b0,b1⟩:=(hB.keep hf1).c2;have bl:=(hB.keep hf1).lt)
   go_ret
   exact strE (by rw[hV.out];rfl) (by exact frc)
  ·rw[if_neg h1] at hV
   replace hV:=Lib.hid hV
   go_enter Tryz.func53,Tryz.ntmps53
   go_wp2_with (go_at_call 94;refine(HO _).mono ?_;rintro e w1 ⟨rfl,hf1⟩;obtain⟨b0,b1⟩:=(hB.keep hf1).c2;have bl:=(hB.keep hf1).lt)
   go_ret
   exact strE (by rw[hV.out];rfl) (by exact frc)
theorem zy5 (t:Tag) (w:World) (hs:t.name.size≤maxLen):
  Calls Tryz.prog 136 #[.agg #[.int .i64 t.kind,.string t.name]] w (Gives (.string (zbl (tagT t))) w):=by
 have HO:=fun W=>zlx t W hs
 obtain⟨k,s⟩:=t
 have hB:=Bx.new w 146 #[.int .i64 k,.string s]
 obtain⟨V,hV⟩:∃V,V=tagT ⟨k,s⟩:=⟨_,rfl⟩
 rw[<-hV]
 unfold tagT at hV
 dsimp only at *
 cases hb:tagB ⟨k,s⟩
 ·rw[hb] at HO hV
  rw[if_neg (by decide)] at hV
  replace hV:=Lib.hid hV
  go_enter Tryz.func136,Tryz.ntmps136
  go_wp2_with (go_at_call 173;refine(HO _).mono ?_;rintro e w1 ⟨rfl,hf1⟩)
  go_ret
  exact strE (by rw[hV.out];rfl) (by exact frc)
 ·have hk:k=0∨k=1∨k=3∨k=2:=by
   unfold tagB at hb
   dsimp only at hb
   split at hb
   ·rename_i h
    simp only[Bool.or_eq_true,beq_iff_eq] at h
    omega
   ·simp only[lz5,beq_iff_eq] at hb
    exact .inr (.inr (.inr hb.1))
  rw[hb] at HO hV
  rw[if_pos rfl] at hV
  clear hb
  rcases hk with rfl|rfl|rfl|rfl
  all_goals
   simp only[Int.reduceEq,if_true,if_false] at hV
   replace hV:=Lib.hid hV
   go_enter Tryz.func136,Tryz.ntmps136
   go_wp2_with (go_at_call 173;refine(HO _).mono ?_;rintro e w1 ⟨rfl,hf1⟩;obtain⟨b0,b1⟩:=(hB.keep hf1).c2;have bl:=(hB.keep hf1).lt)
   go_ret
   exact strE (by rw[hV.out];rfl) (by exact frc)
theorem zy6 (s:Str) (w:World):Calls Tryz.prog 52 #[.string s] w (Gives (.string (zbl (zx4 s))) w):=by
 unfold zx4
 cases h0:s.toList.isEmpty
 ·go_enter Tryz.func52,Tryz.ntmps52
  go_wp2
  go_ret
  exact .mk rfl (by exact frc)
 ·go_enter Tryz.func52,Tryz.ntmps52
  go_wp2
  go_ret
  exact .mk rfl (by exact frc)
theorem zy7 (X:Nat->Prop) (v:Value) (ts:List Tag) (w:World) (h:Sl X w 2 TagC v ts) (hl:ts.length≤100):Calls Tryz.prog 95 #[v] w (Gives (.string (zbl (zxV ts))) w):=by
 obtain⟨A,c,rfl,_,_⟩:=h.form
 go_enter Tryz.func95,Tryz.ntmps95
 go_wp2_with fail
 go_loopw [3,4] (fun o i wr=>∃j:Nat,j≤ts.length∧o=.string (zbl (zxV (ts.take j)))∧i=.int .i64 j∧Hid (Fr No w wr)) (fun _ i _=>ts.length-(intOf i).toNat)
 case atStart=>exact⟨0,Nat.zero_le _,rfl,rfl,Lib.hid (Fr.refl _ _)⟩
 case round=>
  obtain⟨j,hj,rfl,rfl,hI⟩:=hrel
  have hfr:=hI.out
  clear hI
  by_cases hlt:j<ts.length
  ·obtain⟨b,off,rfl,_,k0,k1,kz⟩:=(h.k0 hfr).tag hlt
   have hadd:IntKind.i64.wrap ((j:Int)+1)=((j+1:Nat):Int):=by rw[IntWalk.i64_in _ (by omega)];simp
   have hz8:(zbl (zxV (ts.take j))).size≤700:=by
    have:=zyd (ts.take j)
    rw[List.length_take] at this
    rw[zpT]
    omega
   have hnx:Hid (zbl (zxV (ts.take j)) ++ ⟨#[32]⟩ ++ zbl (tagT ts[j])=zbl (zxV (ts.take (j+1)))):=Lib.hid (by
    rw[zyy hlt]
    show _ ++ zbl [32] ++ _=_
    rw[zqJ,zqJ]
    simp)
   have hT:=fun W=>zy5 ts[j] W kz
   have hkz:(zbl (tagT ts[j])).size≤6:=by rw[zpT];exact zyb _
   generalize ts[j]=t at *
   generalize zxV (ts.take j)=P at *
   clear h
   go_wp2_with (go_at_call 136;refine(hT _).mono ?_;rintro e w7 ⟨rfl,hf7⟩)
   exact⟨⟨j+1,by omega,congrArg Value.string hnx.out,by simp,Lib.hid (hfr.trans0 (by exact frc))⟩,by simp[intOf];omega⟩
  ·obtain rfl:j=ts.length:=by omega
   rw[List.take_length]
   clear h
   go_wp2_with fail
   refine bodyPost_ret (results_tmp rfl _ _ _) rfl ?_
   exact⟨rfl,hfr⟩
end Go.Proofs.YtmeaibjmnjcdfaaGreatDoor
