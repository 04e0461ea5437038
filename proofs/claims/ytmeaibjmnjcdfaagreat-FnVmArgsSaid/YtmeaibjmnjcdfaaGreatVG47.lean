/- Keepers are drawn: l20Plan. -/
import Derived.Test.YtmeaibjmnjcdfaaGreatVG39
import Derived.Test.YtmeaibjmnjcdfaaGreatVG46
set_option maxHeartbeats 8000000
set_option maxRecDepth 100000
namespace Go.Proofs.YtmeaibjmnjcdfaaGreat
open Go.RowKit
theorem zum {ls:List Str} {ks:List Kpr} (h:zqz ls=(ks,0)):lodB ⟨ks⟩=true:=by
 unfold zqz at h
 split at h
 ·cases h
 ·split at h
  ·rename_i h1
   simp only[Prod.mk.injEq] at h
   exact absurd h.2 h1
  ·split at h
   ·rename_i h2
    simp only[Prod.mk.injEq] at h
    rw[<-h.1];exact h2
   ·simp at h
theorem zun {ls:List Str} (h:zsS ls):0<ls.length∧ls.length≤1000:=by
 obtain⟨t,e,m,x,y,_,_,_,_,h⟩:=h
 have lt:=zsX t
 have le:=zsX e
 have lm:=zsX m
 have lx:=zsX x
 rcases h with rfl|rfl|rfl|rfl | ⟨_,rfl⟩ | ⟨_,rfl⟩ | ⟨_,rfl⟩<;>simp<;>omega
def zuo (rb q:Nat) (w:World) (e:Ending) (w':World):Prop:=∃(v:Value) (ks:List Kpr),e=.returned (.agg #[v])∧lodB ⟨ks⟩=true∧KsT w.heap.size w' v ks∧RdB w' rb (q+20)∧Fr (fun b=>b=rb) w w'
theorem KsT.box {lo b0:Nat} {w:World} {v c u:Value} {ks:List Kpr} (h:KsT lo w v ks) (hb:Bx w b0 25 #[c]):KsT lo (w.setCell ⟨b0,0,none⟩ u) v ks:=
 h.far hb (by decide) ((Fr.put1 b0 0 u w).mono (fun _ _ e=>.inl e))
theorem zuo.fin {rb q lo:Nat} {w w3:World} {v3 c u:Value} {ks:List Kpr} {o:Obj} (hk:KsT lo w3 v3 ks) (hlo:w.heap.size≤lo) (hB:Bx w3 w.heap.size 25 #[c]) (hr:RdB w3 rb (q+20)) (hf:Fr (fun b=>b=rb) w w3) (hrb:rb<w.heap.size) (hok:lodB ⟨ks⟩=true):
  zuo rb q w (.returned (.agg #[v3])) ((w3.setCell ⟨w.heap.size,0,none⟩ u).alloc o):=by
 have hp:=Fr.put1 w.heap.size 0 u w3
 have ha:=(Fr.refl No (w3.setCell ⟨w.heap.size,0,none⟩ u)).alloc o
 exact⟨v3,ks,rfl,hok,((hk.box hB).keep ha).low hlo,(hr.far hp (fun b e=>by omega)).keep ha,(hf.trans hp (fun b hb e=>by omega)).trans0 ha⟩
theorem zup (rb q n:Nat) (w:World) (h:RdB w rb q) (hn:1≤n) (hn2:n≤1000000) (hq:q≤90000):
  Calls Tryz.prog 20 #[.pointer (some ⟨rb,0,none⟩),.int .i64 n] w (zuo rb q w):=by
 have hrl:=h.lt
 have H1:=fun W (hW:Fr No w W)=>ztp rb q W (h.keep hW) (by omega)
 have hB:=Bx.new w 25 #[.slice none 0 0]
 have hfA:=(Fr.refl No w).alloc (.cells #[.slice none 0 0] 25)
 clear h
 go_enter Tryz.func20,Tryz.ntmps20
 go_wp2_with (go_at_call 43;refine(H1 _ (by exact frc)).mono ?_;rintro e w1 ⟨v1,ls,rfl,hbase,hsz,hv1,hr1,hf1⟩;refine Hid.out ?_)
 refine Lib.hid ?_
 obtain⟨hb0,hb1⟩:=zun hbase
 obtain⟨ks0,hp0,_,hok0⟩:=ztb hbase
 obtain⟨A1,c1,rfl,_,_⟩:=hv1.form
 have B1:=hB.keepX hf1 (by omega)
 have hw1:Fr (fun b=>b=rb) w w1:=(Fr.of0 hfA).same hf1
 rw[World.size_alloc] at hv1
 have H2:=fun W (hW:Fr No w1 W)=>zr8 rb (q+6) n W (hr1.keep hW) hn hn2 (by omega)
 replace hsz:=Lib.hid hsz
 replace hp0:=Lib.hid hp0
 clear H1 hB hfA hf1
 go_wp2_with (go_at_call 44;refine(H2 _ (by exact frc)).mono ?_;rintro e w2 ⟨od,rfl,hr2,hf2⟩;refine Hid.out ?_)
 refine Lib.hid ?_
 have B2:=B1.keepX hf2 (by omega)
 have hw2:Fr (fun b=>b=rb) w w2:=hw1.same hf2
 have hv2:=hv1.keep hf2 (fun b (e:b=rb)=>by show b<w.heap.size+1;omega) (fun _ _ _ h=>h)
 have hs2:=hw2.size
 cases od
 ·have HP:=fun W (hW:Fr No w2 W)=>zul _ ls _ W (hv2.k0 hW) (fun x hx=>by have:=hsz.out x hx;omega)
  rw[hp0.out] at HP
  clear H2 hr1
  go_wp2_with (go_at_call 45;refine(HP _ (by exact frc)).mono ?_;rintro e w3 ⟨v3,rfl,hk3,hf3⟩;refine Hid.out ?_)
  refine Lib.hid ?_
  obtain⟨A3,c3,rfl,_,_⟩:=hk3.sl.form
  have B3:=B2.keep hf3
  have hr3:=(hr2.keep hf3).up (show q+6+1≤q+20 by omega)
  have hw3:=hw2.trans0 hf3
  have d0:=B3.c1
  have dl:=B3.lt
  have df:=fun i=>B3.frozen i
  clear hp0
  go_wp2_with fail
  refine bodyPost_ret (v:=.agg #[.slice A3 ks0.length c3]) (by simp[results,Tryz.results20,go_sem, *]) rfl ?_
  exact zuo.fin hk3 hs2 B3 hr3 hw3 hrl hok0
 ·have HT:=fun W (hW:Fr No w2 W)=>ztK rb (q+7) 1000 1000 ls _ W (hr2.keep hW) ((hv2.k0 hW).weaken (fun b e=>by have e:b=rb:=e;show b<w.heap.size+1;omega) (fun _ _ _ h=>h)) hb0 hb1 (by omega) hsz.out (by omega) (by omega)
  clear H2 hr1
  go_wp2_with (go_at_call 46;refine(HT _ (by exact frc)).mono ?_;rintro e w3 ⟨v3,ls3,rfl,hz3,hl3,hv3,hr3,hf3⟩;refine Hid.out ?_)
  refine Lib.hid ?_
  obtain⟨A3,c3,rfl,_,_⟩:=hv3.form
  have HP:=fun W (hW:Fr No w3 W)=>zul _ ls3 _ W (hv3.k0 hW) (fun x hx=>by have:=hz3 x hx;omega)
  have B3:=B2.keepX hf3 (by omega)
  have hv23:=hv2.keep hf3 (fun b (e:b=rb)=>by show b<w.heap.size+1;omega) (fun _ _ _ h=>h)
  have hw3:=hw2.same hf3
  obtain⟨ks4,n4,hq4⟩:∃ks n,zqz ls3=(ks,n):=⟨_,_,rfl⟩
  rw[hq4] at HP
  replace hz3:=Lib.hid hz3
  replace hq4:=Lib.hid hq4
  clear HT hv3 hr2 hf3 hv2
  go_wp2_with (go_at_call 45;refine(HP _ (by exact frc)).mono ?_;rintro e w4 ⟨v4,rfl,hk4,hf4⟩;refine Hid.out ?_)
  refine Lib.hid ?_
  obtain⟨A4,c4,rfl,_,_⟩:=hk4.sl.form
  have B4:=B3.keep hf4
  have hr4:=hr3.keep hf4
  have hw4:=hw3.trans0 hf4
  have hv4:=hv23.k0 hf4
  have d0:=B4.c1
  have dl:=B4.lt
  have df:=fun i=>B4.frozen i
  have hs4:w.heap.size≤w3.heap.size:=hw3.size
  clear HP hv23 hf4
  by_cases hn4:n4=0
  ·subst hn4
   have hok4:=zum hq4.out
   go_wp2_with fail
   refine bodyPost_ret (v:=.agg #[.slice A4 ks4.length c4]) (by simp[results,Tryz.results20,go_sem, *]) rfl ?_
   exact zuo.fin hk4 hs4 B4 (hr4.up (show q+7+10≤q+20 by omega)) hw4 hrl hok4
  ·have hne:((n4:Int) == 0)=false:=beq_eq_false_iff_ne.2 (by omega)
   have HP:=fun W (hW:Fr No w4 W)=>zul _ ls _ W (hv4.k0 hW) (fun x hx=>by have:=hsz.out x hx;omega)
   rw[hp0.out] at HP
   go_wp2_with (go_at_call 45;refine(HP _ (by exact frc)).mono ?_;rintro e w5 ⟨v5,rfl,hk5,hf5⟩;refine Hid.out ?_)
   refine Lib.hid ?_
   obtain⟨A5,c5,rfl,_,_⟩:=hk5.sl.form
   rw[World.size_alloc] at hk5
   have ha4:=(Fr.refl No w4).alloc (.cells #[.slice A4 ks4.length c4] 25)
   have hf45:=ha4.trans0 hf5
   have B5:=B4.keep hf45
   have hr5:=(hr4.keep hf45).up (show q+7+10≤q+20 by omega)
   have hw5:=hw4.trans0 hf45
   have d0:=B5.c1
   have dl:=B5.lt
   have df:=fun i=>B5.frozen i
   have hs5:=hw4.size
   clear HP hp0 hq4
   go_wp2_with fail
   refine bodyPost_ret (v:=.agg #[.slice A5 ks0.length c5]) (by simp[results,Tryz.results20,go_sem, *]) rfl ?_
   exact zuo.fin hk5 (by omega) B5 hr5 hw5 hrl hok0
def AskP (rb q:Nat) (w:World) (e:Ending) (w':World):Prop:=∃(nm mb:Str) (v:Value) (args:List Int),e=.returned (.tuple #[.string nm,.string mb,v])∧nm.size≤10∧mb.size≤10∧args.length≤1∧(∀x∈args, -100000≤x∧x≤100000)∧Sl (fun b=>b<w.heap.size) w' 1 IntC v args∧RdB w' rb (q+3)∧Fr (fun b=>b=rb) w w'
theorem Sl.one1 {X:Nat->Prop} {w:World} {b:Nat} {E:TypeId} {x:Int} (h:Bx w b E #[.int .i64 x]) (hX:¬X b):Sl X w 1 IntC (.slice (some ⟨b,0,none⟩) 1 1) [x]:=by
 refine⟨_,_,rfl,Nat.le_refl _,by unfold maxLen;simp,fun h0=>⟨b,0,rfl,hX,fun k hk=>⟨[.int .i64 x],?_,rfl,fun j hj=>?_⟩⟩⟩
 ·have hk0:k=0:=by simpa using hk
  subst hk0
  rfl
 ·have hk0:k=0:=by simpa using hk
  obtain rfl:j=0:=by omega
  subst hk0
  rw[h.cell]
  rfl
def pkV (n:Nat):Value->World->Prop:=fun v _=>∃k:Nat,k<n∧v=.int .i64 k
theorem zuq (n:Nat):MonP (pkV n):=fun _ _ _ h _=>h
def rowR:Array Value:=#[.string ⟨#[114,117,110]⟩,.string ⟨#[114,117,110]⟩,.string ⟨#[115,117,109]⟩,.string ⟨#[99,97,115,116]⟩]
def ixV (base:Nat):Value->World->Prop:=fun v W=>∃b k:Nat,k<4∧v=.pointer (some ⟨b,k,none⟩)∧Bx W b 9 rowR∧base≤b
theorem zvX (base:Nat):MonP (ixV base):=fun _ _ _ ⟨b,k,h1,h2,h3,h4⟩ hf=>⟨b,k,h1,h2,h3.keep hf,h4⟩
def stV:Value->World->Prop:=fun v _=>∃s:Str,v=.string s∧s.size≤10
theorem zvY:MonP stV:=fun _ _ _ h _=>h
theorem zvZ (rb q:Nat) (w:World) (h:RdB w rb q) (hq:q≤100000):
  Calls Tryz.prog 21 #[.pointer (some ⟨rb,0,none⟩)] w (AskP rb q w):=by
 have hrl:=h.lt
 have H1:=fun W (hW:Fr No w W)=>zrd rb q 6 W (h.keep hW) (by omega) (by omega) (by omega)
 clear h
 go_enter Tryz.func21,Tryz.ntmps21
 go_wp2_with (go_at_call 47;refine(H1 _ (by exact frc)).mono ?_;rintro e w1 ⟨k1,hk1,rfl,hr1,hf1⟩;refine Hid.out ?_)
 refine Lib.hid ?_
 have N1:=(Bx.new w 3 #[.int .i64 0,.int .i64 1,.int .i64 3,.int .i64 5,.int .i64 (-1),.int .i64 9999]).keepX hf1 (by omega)
 obtain⟨x,hv,hx1,hx2⟩:=zsf (l:=(#[.int .i64 0,.int .i64 1,.int .i64 3,.int .i64 5,.int .i64 (-1),.int .i64 9999]:Array Value).toList) (by decide) hk1 rfl
 have cx:w1.cell? ⟨w.heap.size,k1,none⟩=some (.int .i64 x):=by
  have:=N1.cell k1
  rw[<-hv]
  simpa using this
 have nl:=N1.lt
 have hw1:Fr (fun b=>b=rb) w w1:=((Fr.refl _ w).alloc _).same hf1
 have hr1l:=hr1.lt
 have hl1:=hw1.size
 have H2:=fun W (hW:Fr No w1 W)=>zrd rb (q+1) 12 W (hr1.keep hW) (by omega) (by omega) (by omega)
 clear H1 hv N1 hf1 hr1
 go_wp2_with (go_at_call 47;refine(H2 _ (by exact frc)).mono ?_;rintro e w2 ⟨k2,hk2,rfl,hr2,hf2⟩;refine Hid.out ?_)
 refine Lib.hid ?_
 have A2:=(Bx.new w1 3 #[.int .i64 x]).keepX hf2 (by omega)
 have hw2:Fr (fun b=>b=rb) w w2:=(hw1.alloc _).same hf2
 have hs2:=hw2.size
 have hr2l:=hr2.lt
 have hargs:=Sl.one1 (X:=fun b=>b<w.heap.size) A2 (by omega)
 have hx:∀y∈[x], -100000≤y∧y≤100000:=fun y hy=>by rw[List.mem_singleton.1 hy];exact⟨hx1,hx2⟩
 have hfin:∀(nm mb:Str) (v:Value) (args:List Int) (W:World),nm.size≤10->mb.size≤10->args.length≤1->(∀x∈args, -100000≤x∧x≤100000)->Sl (fun b=>b<w.heap.size) W 1 IntC v args->Fr No w2 W->AskP rb q w (.returned (.tuple #[.string nm,.string mb,v])) W:=fun nm mb v args W h1 h2 h3 h4 h5 hW=>⟨nm,mb,v,args,rfl,h1,h2,h3,h4,h5,(hr2.keep hW).up (by omega),hw2.trans0 hW⟩
 replace hfin:=Lib.hid hfin
 replace hx:=Lib.hid hx
 clear H2 hf2
 have hc:k2=0∨k2=1∨k2=2∨k2=3∨k2=4∨k2=5∨6≤k2:=by omega
 rcases hc with rfl|rfl|rfl|rfl|rfl|rfl|h6
 ·go_wp2_with fail
  refine bodyPost_ret (v:=.tuple #[.string ⟨#[116,111,112]⟩,.string ⟨#[103,101,116]⟩,.slice (some ⟨w2.heap.size,0,none⟩) 0 0]) (by simp[results,Tryz.results21,go_sem]) rfl ?_
  exact hfin.out _ _ _ [] _ (by decide) (by decide) (by simp) (fun x hx=>by simp at hx) ⟨_,_,rfl,Nat.le_refl _,Nat.zero_le _,fun h=>absurd h (by simp)⟩ frc
 ·go_wp2_with fail
  refine bodyPost_ret (v:=.tuple #[.string ⟨#[99,101,108,108]⟩,.string ⟨#[103,101,116]⟩,.slice (some ⟨w2.heap.size,0,none⟩) 0 0]) (by simp[results,Tryz.results21,go_sem]) rfl ?_
  exact hfin.out _ _ _ [] _ (by decide) (by decide) (by simp) (fun x hx=>by simp at hx) ⟨_,_,rfl,Nat.le_refl _,Nat.zero_le _,fun h=>absurd h (by simp)⟩ frc
 ·go_wp2_with fail
  refine bodyPost_ret (v:=.tuple #[.string ⟨#[109,97,105,110]⟩,.string ⟨#[114,117,110]⟩,.slice (some ⟨w2.heap.size,0,none⟩) 1 1]) (by simp[results,Tryz.results21,go_sem]) rfl ?_
  exact hfin.out _ _ _ [10000] _ (by decide) (by decide) (by simp) (fun x hx=>by rw[List.mem_singleton.1 hx];decide) (Sl.one1 (Bx.new w2 _ _) (by omega)) frc
 ·go_wp2_with fail
  refine bodyPost_ret (v:=.tuple #[.string ⟨#[109,97,105,110]⟩,.string ⟨#[110,111,110,101]⟩,.slice (some ⟨w1.heap.size,0,none⟩) 1 1]) (by simp[results,Tryz.results21,go_sem]) rfl ?_
  exact hfin.out _ _ _ [x] _ (by decide) (by decide) (by simp) hx.out hargs (Fr.refl _ _)
 ·go_wp2_with fail
  refine bodyPost_ret (v:=.tuple #[.string ⟨#[65]⟩,.string ⟨#[114,117,110]⟩,.slice (some ⟨w1.heap.size,0,none⟩) 1 1]) (by simp[results,Tryz.results21,go_sem]) rfl ?_
  exact hfin.out _ _ _ [x] _ (by decide) (by decide) (by simp) hx.out hargs (Fr.refl _ _)
 ·go_wp2_with fail
  refine bodyPost_ret (v:=.tuple #[.string ⟨#[116,111,112]⟩,.string ⟨#[98,117,109,112]⟩,.slice (some ⟨w1.heap.size,0,none⟩) 1 1]) (by simp[results,Tryz.results21,go_sem]) rfl ?_
  exact hfin.out _ _ _ [x] _ (by decide) (by decide) (by simp) hx.out hargs (Fr.refl _ _)
 ·have n0:((k2:Int) == 0)=false:=beq_eq_false_iff_ne.2 (by omega)
  have n1:((k2:Int) == 1)=false:=beq_eq_false_iff_ne.2 (by omega)
  have n2:((k2:Int) == 2)=false:=beq_eq_false_iff_ne.2 (by omega)
  have n3:((k2:Int) == 3)=false:=beq_eq_false_iff_ne.2 (by omega)
  have n4:((k2:Int) == 4)=false:=beq_eq_false_iff_ne.2 (by omega)
  have n5:((k2:Int) == 5)=false:=beq_eq_false_iff_ne.2 (by omega)
  go_wp2_with fail
  have HP:=fun W (hW:Fr No w2 W)=>zrd rb (q+2) 4 W (hr2.keep hW) (by omega) (by omega) (by omega)
  have hG:∀W,(Fr No w2 W∨(RdB W rb (q+3)∧Fr (fun b=>b=rb) w2 W))->w2.heap.size≤W.heap.size:=fun W h=>h.elim (fun h=>h.size) (fun h=>h.2.size)
  have hGs:∀W:World,w2.heap.size≤W.heap.size->w2.heap.size≤W.heap.size:=fun W h=>h
  refine zn2 8 38 [mS 9 (#[.string ⟨#[114,117,110]⟩,.string ⟨#[114,117,110]⟩,.string ⟨#[115,117,109]⟩,.string ⟨#[99,97,115,116]⟩]) 4 w2.heap.size,mV (.pointer (some ⟨rb,0,none⟩)),mC (pkV 4) (zuq _),mC (ixV w2.heap.size) (zvX _),mC (stV) (zvY),mV (.slice (some ⟨w1.heap.size,0,none⟩) 1 1),mV (.string ⟨#[109,97,105,110]⟩),mC (stV) (zvY)] 2 (fun _ _=>False) ((fun W=>RdB W rb (q+3)∧Fr (fun b=>b=rb) w2 W)) (Fr (fun b=>b=rb)) (by kernel_rfl) (by kernel_rfl) (by simp) (fun W W' h hf=>⟨h.1.keep hf,h.2.trans0 hf⟩) ?_ ?_ ?_ ?_ ?_
  ·exact fun v W W' hs=>hopC (fun _ h=>by first|exact h|(obtain⟨b,g1,g2,g3⟩:=h;exact⟨b,g1,g2.keepX hs (by omega),g3⟩)|(obtain⟨b,k,g0,g1,g2,g3⟩:=h;exact⟨b,k,g0,g1,g2.keepX hs (by omega),g3⟩)) <| hSV <| hopC (fun _ h=>by first|exact h|(obtain⟨b,g1,g2,g3⟩:=h;exact⟨b,g1,g2.keepX hs (by omega),g3⟩)|(obtain⟨b,k,g0,g1,g2,g3⟩:=h;exact⟨b,k,g0,g1,g2.keepX hs (by omega),g3⟩)) <| hopC (fun _ h=>by first|exact h|(obtain⟨b,g1,g2,g3⟩:=h;exact⟨b,g1,g2.keepX hs (by omega),g3⟩)|(obtain⟨b,k,g0,g1,g2,g3⟩:=h;exact⟨b,k,g0,g1,g2.keepX hs (by omega),g3⟩)) <| hSV <| hSV <| hopC (fun _ h=>by first|exact h|(obtain⟨b,g1,g2,g3⟩:=h;exact⟨b,g1,g2.keepX hs (by omega),g3⟩)|(obtain⟨b,k,g0,g1,g2,g3⟩:=h;exact⟨b,k,g0,g1,g2.keepX hs (by omega),g3⟩)) <| hopZ
  ·refine hc4 ?_ ?_ ?_ ?_ <| hopC ?_ <| hopC ?_ <| hopC ?_ <| hopZ
   all_goals (intro a' W hW hoff hdep;replace hW:=hG _ hW;have hbs:=hGs _ hW;have H0:=hoff 0 rfl;have H5:=hoff 5 rfl;refine nE rfl ?_)
   ·simp[execOp,go_sem,zaa];exact⟨(Fr.refl _ _).alloc _,⟨_,rfl,Bx.new_ rfl,hbs⟩,Nat.le_refl _⟩
   ·simp[execOp,Act.eval,H0,go_sem,zaa];exact fr1 rfl
   ·obtain⟨b,D32,hb,hl⟩:(slB 9 #[.string ⟨#[114,117,110]⟩,.string ⟨#[114,117,110]⟩,.string ⟨#[115,117,109]⟩,.string ⟨#[99,97,115,116]⟩] 4 w2.heap.size) _ W:=hdep 0 32 rfl;obtain⟨k,hk,D34⟩:(pkV 4) _ W:=hdep 2 34 rfl;clear hoff hdep;simp[execOp,Act.eval,go_sem,zaa,↓IntWalk.iteOmega, *];exact⟨Fr.refl _ _,b,k,hk,rfl,hb,hl⟩
   ·obtain⟨b,k,hk,D35,hB,hb⟩:(ixV w2.heap.size) _ W:=hdep 3 35 rfl;clear hoff hdep;simp[execOp,Act.eval,go_sem,zaa, *];obtain⟨s,hv,hz⟩:=zse (l:=rowR.toList) (by decide) hk rfl;have cy:W.cell? ⟨b,k,none⟩=some (.string s):=(by rw[hB.cell,<-hv];simp);rw[cy];exact⟨Fr.refl _ _,s,rfl,hz⟩
   ·simp[execOp,Act.eval,H5,go_sem,zaa];exact fr1 rfl
   ·simp[execOp,go_sem,zaa];exact fr1 rfl
   ·obtain⟨s,D36,hz⟩:(stV) _ W:=hdep 4 36 rfl;simp[execOp,Act.eval,D36,go_sem,zaa];exact⟨Fr.refl _ _,_,rfl,hz⟩
  ·intro o r ho hr a' W hW hoff hdep
   have hbs:=hW.size
   cases ho;cases hr
   have D33:_=_:=hdep 1 33 rfl
   simp[Act.eval,D33,go_sem,zlP]
   exact(HP _ hW).mono (fun e w' h=>by obtain⟨k,g1,g2,g3,g4⟩:=h;exact⟨_,g2,⟨g3,hW.of0.same g4⟩,g4,k,g1,rfl⟩)
  ·exact fun _ _ _ _ h=>h.elim
  intro vs WR hWR hv hne
  replace hWR:=hWR.resolve_left (fun h=>absurd h.1 (by decide))
  obtain⟨b0,e0,hb0,hl0⟩:=hv 0 (by omega)
  obtain⟨kR2,hkR2,e2⟩:=hv 2 (by omega)
  obtain⟨bR3,kR3,hkR3,e3,hBR3,hbR3⟩:=hv 3 (by omega)
  obtain⟨sR4,e4,hzR4⟩:=hv 4 (by omega)
  obtain⟨sR7,e7,hzR7⟩:=hv 7 (by omega)
  simp only[lz6,List.drop_zero,znM,znQ,znK,znR,Nat.zero_add,Nat.reduceAdd,e0,e2,e3,e4,e7]
  simp only[Act.put,lz0,lz1,lz2]
  clear e0 e2 e3 e4 e7 hv
  obtain⟨hC1,hC2⟩:=hWR
  have hSl:=hargs.keep hC2 (fun b (e:b=rb)=>by show b<w.heap.size;omega) (fun _ _ _ h=>h)
  have hfw:=hw2.same hC2
  clear hfin HP hG hGs hargs A2 hr2 hw2
  go_wp2_with fail
  refine bodyPost_ret (v:=.tuple #[.string ⟨#[109,97,105,110]⟩,.string sR7,.slice (some ⟨w1.heap.size,0,none⟩) 1 1]) (by simp[results,Tryz.results21,go_sem]) rfl ?_
  exact⟨_,_,_,[x],rfl,by decide,hzR7,by simp,hx.out,hSl,hC1,hfw⟩
end Go.Proofs.YtmeaibjmnjcdfaaGreat
