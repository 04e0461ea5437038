/- The reference's LodParse: the walk. -/
import Derived.Test.YtbfmeklfpackjaaGreatDoorQG39
import Derived.Test.YtbfmeklfpackjaaGreatDoorQG34
set_option maxHeartbeats 8000000
set_option maxRecDepth 100000
namespace Go.Proofs.YtbfmeklfpackjaaGreatDoor
open Go.RowKit
section
variable {X:Nat->Prop} {w:World} {cs:List Value} {b0:Nat}
theorem Bx.one {t:TypeId} {c:Value} (h:Bx w b0 t #[c]):∀o,w.cell? ⟨b0,o+1,none⟩=none:=by
 intro o
 rw[h.cell]
 simp
end
def zuh (lo:Nat) (q:List Kpr×Bool):Value->World->Prop:=fun v W=>∃u,v=.tuple #[.agg #[u],.bool q.2]∧KsT lo W u q.1
theorem zui (lo:Nat) (q:List Kpr×Bool):MonP (zuh lo q):=fun _ _ _ ⟨u,h1,h2⟩ hf=>⟨u,h1,h2.keep hf⟩
def plnV (lo:Nat) (ks:List Kpr):Value->World->Prop:=fun v W=>∃u,v=.agg #[u]∧KsT lo W u ks
theorem zuj (lo:Nat) (ks:List Kpr):MonP (plnV lo ks):=fun _ _ _ ⟨u,h1,h2⟩ hf=>⟨u,h1,h2.keep hf⟩
def zuk (lo:Nat) (q:List Kpr×Nat) (w:World) (e:Ending) (w':World):Prop:=∃v,e=.returned (.tuple #[.agg #[v],.int .i64 q.2])∧KsT lo w' v q.1∧Fr No w w'
theorem zul (X:Nat->Prop) (ls:List Str) (v:Value) (w:World) (h:Sl X w 1 StrC v ls) (hsz:∀x∈ls,x.size≤90000):
  Calls Tryz.prog 71 #[v] w (zuk w.heap.size (zqz ls) w):=by
 obtain⟨A,cap,rfl,hcap,hlen⟩:=h.form
 unfold maxLen at hlen
 by_cases hbig:400<ls.length
 ·have hp:zqz ls=([],401):=by unfold zqz;rw[if_pos hbig]
  rw[hp]
  clear hp h hsz
  go_enter Tryz.func71,Tryz.ntmps71
  go_wp2
  refine bodyPost_ret (v:=.tuple #[.agg #[.slice none 0 0],.int .i64 401]) (by simp[results,Tryz.results71,go_sem]) rfl ?_
  exact⟨_,rfl,KsT.nil,by exact frc⟩
 have hp:Hid (zqz ls=if (zqy [] 0 ls).2≠0 then ([],(zqy [] 0 ls).2) else if lodB ⟨(zqy [] 0 ls).1⟩ then ((zqy [] 0 ls).1,0) else ([],ls.length+1)):=by unfold Hid zqz;rw[if_neg hbig]
 generalize zqz ls=q9 at *
 obtain⟨wA,hwA⟩:∃wA,wA=((w.alloc (.cells #[.slice none 0 0] 25)).alloc (.cells #[.slice none 0 0] 25)):=⟨_,rfl⟩
 have hfA:Fr No w wA:=hwA▸frc
 have B0:=(hwA▸bxc:Bx wA w.heap.size 25 #[.slice none 0 0])
 have B1:=(hwA▸bxc:Bx wA (w.heap.size+1) 25 #[.slice none 0 0])
 go_enter Tryz.func71,Tryz.ntmps71
 go_wp2_with fail
 rw[<-hwA]
 go_loopw [5] (fun i wr=>∃(k:Nat) (ks:List Kpr) (u:Value),k≤ls.length∧i=.int .i64 k∧KsN k ks∧Hid (zqy [] 0 ls=zqy ks k (ls.drop k))∧Bx wr w.heap.size 25 #[.slice none 0 0] ∧
  Bx wr (w.heap.size+1) 25 #[u]∧KsT (w.heap.size+2) wr u ks∧Fr No w wr) (fun i _=>ls.length-(intOf i).toNat)
 case atStart=>exact⟨0,[],_,Nat.zero_le _,rfl,⟨by simp,fun k hk=>by simp at hk⟩,rfl,B0,B1,KsT.nil,hfA⟩
 case round=>
  clear B0 B1
  obtain⟨k,ks,u,hk,rfl,hN,hd,C0,C1,hu,hw⟩:=hrel
  obtain⟨Au,cu,rfl,_,_⟩:=hu.sl.form
  have b0:=C0.c1
  have b1:=C1.c1
  have l0:=C0.lt
  have l1:=C1.lt
  have f0:=fun i=>C0.frozen i
  have f1:=fun i=>C1.frozen i
  replace hwA:=Lib.hid hwA
  by_cases hlt:k<ls.length
  ·obtain⟨bk,off,rfl,hXb,y0,z0⟩:=h.strs hlt
   replace y0:=hw.keep0 y0
   have hbl:=lt_of_cell y0
   obtain⟨hs1,hs2⟩:=hN.sm (by omega)
   have hk9:=zug ls[k] hN
   have hz9:=hsz ls[k] (List.getElem_mem hlt)
   rw[List.drop_eq_getElem_cons hlt,zqy] at hd
   have HL:=fun W (hW:Fr No wr W)=>zt9 (w.heap.size+2) ks _ ls[k] W (by have:=hW.size;omega) (hu.keep hW) hz9 hs1 hs2
   generalize ls[k]=line at *
   generalize zqx ks line=q at *
   obtain⟨ks',ok⟩:=q
   unfold ztZ at HL
   dsimp only at *
   have q1:=cr y0
   have KP:=C1.r1
   replace hd:=Lib.hid hd
   replace hN:=Lib.hid hN
   replace hk9:=Lib.hid hk9
   clear hu hs1 hs2
   go_wp2_with fail
   refine zn0 10 28 [mV (.agg #[.slice Au ks.length cu]),mV (.slice (some ⟨bk,off,none⟩) ls.length cap),mV (.int .i64 (k:Int)),mV (.pointer (some ⟨bk,off+k,none⟩)),mV (.string line),mC (zuh (w.heap.size+2) (ks',ok)) (zui _ _),mC (zuh (w.heap.size+2) (ks',ok)) (zui _ _),mC (plnV (w.heap.size+2) ks') (zuj _ _),mE (mV (.bool ok)),mB 25 (#[.slice none 0 0]) wr.heap.size] (by kernel_rfl) (by kernel_rfl) (by simp) ?_ ?_
   ·refine hc4 ?_ ?_ ?_ ?_ <| hc4 ?_ ?_ ?_ ?_ <| hopC ?_ <| hopC ?_ <| hopZ
    all_goals (intro a' W hW hoff hdep;have hbs:=hW.size;have H4:=hoff 4 rfl;have H0:=hoff 0 rfl;have H5:=hoff 5 rfl)
    ·exact nE rfl gx0
    ·refine nE rfl ?_;simp[execOp,Act.eval,H0,go_sem,zaa];exact fr1 rfl
    ·refine nE rfl ?_;simp[execOp,Act.eval,H5,go_sem,zaa];exact fr1 rfl
    ·have D21:_=_:=hdep 1 21 rfl;have D22:_=_:=hdep 2 22 rfl;refine nE rfl ?_;clear hoff hdep;simp[execOp,Act.eval,go_sem,zaa, *];exact fr1 rfl
    ·have D23:_=_:=hdep 3 23 rfl;refine nE rfl ?_;clear hoff hdep;simp[execOp,Act.eval,go_sem,zaa, *];exact fr1 rfl
    ·have D20:_=_:=hdep 0 20 rfl;have D24:_=_:=hdep 4 24 rfl;refine nE rfl ?_;simp[Act.eval,D20,D24,go_sem,zaa];exact(HL W hW).mono fun e w'' h=>(let ⟨u,h1,h2,h3⟩:=h;⟨_,h1,h3,u,rfl,h2⟩)
    ·obtain⟨u9,D25,hS⟩:(zuh (w.heap.size+2) (ks',ok)) _ W:=hdep 5 25 rfl;refine nE rfl ?_;simp[execOp,Act.eval,D25,go_sem,zaa];exact⟨Fr.refl _ _,_,rfl,hS⟩
    ·obtain⟨u9,D19,hS⟩:(zuh (w.heap.size+2) (ks',ok)) _ W:=hdep 6 19 rfl;refine nE rfl ?_;simp[execOp,Act.eval,D19,go_sem,zaa];exact⟨Fr.refl _ _,_,rfl,hS⟩
    ·obtain⟨u9,D19,hS⟩:(zuh (w.heap.size+2) (ks',ok)) _ W:=hdep 6 19 rfl;exact yE rfl ⟨.bool ok,fun W=>by simp[execOp,Act.eval,D19,go_sem],rfl,rfl⟩
    ·refine nE rfl ?_;simp[execOp,go_sem,zaa];exact⟨(Fr.refl _ _).alloc _,⟨_,rfl,Bx.new_ rfl,hbs⟩,Nat.le_refl _⟩
   intro vs W3 hW3 hv hne
   obtain⟨u9R5,e5,hSR5⟩:=hv 5 (by omega)
   obtain⟨u9R6,e6,hSR6⟩:=hv 6 (by omega)
   obtain⟨u9R7,e7,hSR7⟩:=hv 7 (by omega)
   obtain⟨b9,e9,hb9,hl9⟩:=hv 9 (by omega)
   simp only[lz6,List.drop_zero,znP,znM,znL,znK,znR,Nat.zero_add,Nat.reduceAdd,e5,e6,e7,e9]
   simp only[Act.put,lz0,lz1,lz2]
   clear e5 e6 e7 e9 hv
   have D0:=C0.keep hW3
   have D1:=C1.keep hW3
   obtain⟨Av,cv,rfl,_,_⟩:=hSR7.sl.form
   have hS9:=hSR7
   have hw3:Fr No w W3:=hw.trans0 hW3
   have d0:=D0.c1
   have d1:=D1.c1
   have k0:=D0.lt
   have k1:=D1.lt
   have g0:=fun i=>D0.frozen i
   have g1:=fun i=>D1.frozen i
   have e9:=hb9.c1
   have t9:=hb9.lt
   have h9:=fun i=>hb9.frozen i
   replace hS9:=Lib.hid hS9
   clear hne hSR5 hSR6 hSR7 HL KP C0 C1 b0 b1 f0 f1 q1 y0
   have n0:¬w.heap.size=b9:=by omega
   have n1:¬w.heap.size+1=b9:=by omega
   have n2:¬b9=w.heap.size:=by omega
   have n3:¬b9=w.heap.size+1:=by omega
   cases ok
   ·have HS:Hid (zqy [] 0 ls=([],k+1)):=hd.out.out
    have hpp:=Lib.hid (show q9=([],k+1) by rw[hp.out,HS.out];simp)
    go_wp2
    refine bodyPost_ret (v:=.tuple #[.agg #[.slice none 0 0],.int .i64 ((k:Int)+1)]) (by simp[results,Tryz.results71,go_sem, *]) rfl ?_
    rw[hpp.out]
    exact⟨_,rfl,KsT.nil,(hw3.trans (Fr.put1 b9 0 _ W3) (fun b hb e=>by omega)).trans (Fr.put1 _ _ _ _) (fun b hb e=>by omega)⟩
   ·have HS:Hid (zqy [] 0 ls=zqy ks' (k+1) (ls.drop (k+1))):=hd.out.out
    go_wp2
    go_roundw
    case rel=>
     have F1:Fr (fun x=>x=b9∨x=w.heap.size+1) W3 ((W3.setCell ⟨b9,0,none⟩ (.slice Av ks'.length cv)).setCell ⟨w.heap.size+1,0,none⟩ (.slice Av ks'.length cv)):=((Fr.put1 b9 0 _ W3).mono (fun b _ e=>.inl e)).trans (Fr.put1 _ _ _ _) (fun b _ e=>.inr e)
     exact⟨k+1,ks',.slice Av ks'.length cv,by omega,by go_num,hk9.out,HS,D0.keepX F1 (by omega),(D1.keepX (Fr.put1 b9 0 _ W3) (by omega)).set_ 0 _,hS9.out.far hb9 (by decide) (F1.mono (fun b _ e=>e.imp id (fun e=>by omega))),hw3.trans F1 (fun b hb e=>by omega)⟩
    case measure=>simp[intOf];omega
  ·have hkl:k=ls.length:=by omega
   have HS:=Lib.hid (show zqy [] 0 ls=(ks,0) by rw[hd.out,List.drop_eq_nil_of_le (by omega),zqy])
   have HK:=fun W (hW:Fr No wr W)=>zaP (fun b=>b<w.heap.size+2) ⟨ks⟩ _ W (hu.sl.keep hW zN (fun _ _ _ h=>h.keep hW zN))
   have hfin:∀W,Fr (fun b=>b=w.heap.size) wr W->KsT w.heap.size W (.slice Au ks.length cu) ks:=fun W hW=>(hu.far C0 (by decide) (hW.mono (fun b _ e=>.inl e))).low (by omega)
   cases hb:lodB ⟨ks⟩
   ·rw[hb] at HK
    have hpp:=Lib.hid (show q9=([],ls.length+1) by rw[hp.out,HS.out];simp[hb])
    clear hu hfin h hsz
    replace hN:=Lib.hid hN
    go_wp2_with (go_at_call 28;refine(HK _ (by exact frc)).mono ?_;rintro e w1 ⟨rfl,hf1⟩;have D0:=C0.keep hf1;have d0:=D0.c1;have k0:=D0.lt;have g0:=(fun i=>D0.frozen i))
    refine bodyPost_ret (v:=.tuple #[.agg #[.slice none 0 0],.int .i64 ((ls.length:Int)+1)]) (by simp[results,Tryz.results71,go_sem,d0]) rfl ?_
    rw[hpp.out]
    exact⟨_,rfl,KsT.nil,(hw.trans0 hf1).trans (Fr.put1 _ _ _ _) (fun b hb e=>by omega)⟩
   ·rw[hb] at HK
    have hpp:=Lib.hid (show q9=(ks,0) by rw[hp.out,HS.out];simp[hb])
    replace hfin:=Lib.hid hfin
    clear hu h hsz
    replace hN:=Lib.hid hN
    go_wp2_with (go_at_call 28;refine(HK _ (by exact frc)).mono ?_;rintro e w1 ⟨rfl,hf1⟩;have D0:=C0.keep hf1;have d0:=D0.c1;have k0:=D0.lt;have g0:=(fun i=>D0.frozen i);have D1:=C1.keep hf1;have d1:=D1.c1;have k1:=D1.lt;have g1:=(fun i=>D1.frozen i))
    refine bodyPost_ret (v:=.tuple #[.agg #[.slice Au ks.length cu],.int .i64 0]) (by simp[results,Tryz.results71,go_sem,d0]) rfl ?_
    rw[hpp.out]
    have hp9:Fr (fun b=>b=w.heap.size) w1 (w1.setCell ⟨w.heap.size,0,none⟩ (.slice Au ks.length cu)):=Fr.put1 _ _ _ _
    exact⟨_,rfl,hfin.out _ (Fr.trans (Fr.of0 hf1) hp9 (fun b _ e=>e)),(hw.trans0 hf1).trans hp9 (fun b hb e=>by omega)⟩
theorem zum {ls:List Str} {ks:List Kpr} (h:zqz ls=(ks,0)):lodB ⟨ks⟩=true:=by
 unfold zqz at h
 split at h
 ·cases h
 ·split at h
  ·rename_i h1
   simp only[Prod.mk.injEq] at h
   exact absurd h.2 h1
  ·split at h
   ·rename_i h2
    simp only[Prod.mk.injEq] at h
    rw[<-h.1];exact h2
   ·simp at h
theorem zun {ls:List Str} (h:zsS ls):0<ls.length∧ls.length≤1000:=by
 obtain⟨t,e,m,x,y,_,_,_,_,h⟩:=h
 have lt:=zsX t
 have le:=zsX e
 have lm:=zsX m
 have lx:=zsX x
 rcases h with rfl|rfl|rfl|rfl | ⟨_,rfl⟩ | ⟨_,rfl⟩ | ⟨_,rfl⟩<;>simp<;>omega
def zuo (rb q:Nat) (w:World) (e:Ending) (w':World):Prop:=∃(v:Value) (ks:List Kpr),e=.returned (.agg #[v])∧lodB ⟨ks⟩=true∧KsT w.heap.size w' v ks∧RdB w' rb (q+20)∧Fr (fun b=>b=rb) w w'
theorem KsT.box {lo b0:Nat} {w:World} {v c u:Value} {ks:List Kpr} (h:KsT lo w v ks) (hb:Bx w b0 25 #[c]):KsT lo (w.setCell ⟨b0,0,none⟩ u) v ks:=
 h.far hb (by decide) ((Fr.put1 b0 0 u w).mono (fun _ _ e=>.inl e))
theorem zuo.fin {rb q lo:Nat} {w w3:World} {v3 c u:Value} {ks:List Kpr} {o:Obj} (hk:KsT lo w3 v3 ks) (hlo:w.heap.size≤lo) (hB:Bx w3 w.heap.size 25 #[c]) (hr:RdB w3 rb (q+20)) (hf:Fr (fun b=>b=rb) w w3) (hrb:rb<w.heap.size) (hok:lodB ⟨ks⟩=true):
  zuo rb q w (.returned (.agg #[v3])) ((w3.setCell ⟨w.heap.size,0,none⟩ u).alloc o):=by
 have hp:=Fr.put1 w.heap.size 0 u w3
 have ha:=(Fr.refl No (w3.setCell ⟨w.heap.size,0,none⟩ u)).alloc o
 exact⟨v3,ks,rfl,hok,((hk.box hB).keep ha).low hlo,(hr.far hp (fun b e=>by omega)).keep ha,(hf.trans hp (fun b hb e=>by omega)).trans0 ha⟩
theorem zup (rb q n:Nat) (w:World) (h:RdB w rb q) (hn:1≤n) (hn2:n≤1000000) (hq:q≤90000):
  Calls Tryz.prog 44 #[.pointer (some ⟨rb,0,none⟩),.int .i64 n] w (zuo rb q w):=by
 have hrl:=h.lt
 have H1:=fun W (hW:Fr No w W)=>ztp rb q W (h.keep hW) (by omega)
 have hB:=Bx.new w 25 #[.slice none 0 0]
 have hfA:=(Fr.refl No w).alloc (.cells #[.slice none 0 0] 25)
 clear h
 go_enter Tryz.func44,Tryz.ntmps44
 go_wp2_with (go_at_call 70;refine(H1 _ (by exact frc)).mono ?_;rintro e w1 ⟨v1,ls,rfl,hbase,hsz,hv1,hr1,hf1⟩;refine Hid.out ?_)
 refine Lib.hid ?_
 obtain⟨hb0,hb1⟩:=zun hbase
 obtain⟨ks0,hp0,_,hok0⟩:=ztb hbase
 obtain⟨A1,c1,rfl,_,_⟩:=hv1.form
 have B1:=hB.keepX hf1 (by omega)
 have hw1:Fr (fun b=>b=rb) w w1:=(Fr.of0 hfA).same hf1
 rw[World.size_alloc] at hv1
 have H2:=fun W (hW:Fr No w1 W)=>zr8 rb (q+6) n W (hr1.keep hW) hn hn2 (by omega)
 replace hsz:=Lib.hid hsz
 replace hp0:=Lib.hid hp0
 clear H1 hB hfA hf1
 go_wp2_with (go_at_call 45;refine(H2 _ (by exact frc)).mono ?_;rintro e w2 ⟨od,rfl,hr2,hf2⟩;refine Hid.out ?_)
 refine Lib.hid ?_
 have B2:=B1.keepX hf2 (by omega)
 have hw2:Fr (fun b=>b=rb) w w2:=hw1.same hf2
 have hv2:=hv1.keep hf2 (fun b (e:b=rb)=>by show b<w.heap.size+1;omega) (fun _ _ _ h=>h)
 have hs2:=hw2.size
 cases od
 ·have HP:=fun W (hW:Fr No w2 W)=>zul _ ls _ W (hv2.k0 hW) (fun x hx=>by have:=hsz.out x hx;omega)
  rw[hp0.out] at HP
  clear H2 hr1
  go_wp2_with (go_at_call 71;refine(HP _ (by exact frc)).mono ?_;rintro e w3 ⟨v3,rfl,hk3,hf3⟩;refine Hid.out ?_)
  refine Lib.hid ?_
  obtain⟨A3,c3,rfl,_,_⟩:=hk3.sl.form
  have B3:=B2.keep hf3
  have hr3:=(hr2.keep hf3).up (show q+6+1≤q+20 by omega)
  have hw3:=hw2.trans0 hf3
  have d0:=B3.c1
  have dl:=B3.lt
  have df:=fun i=>B3.frozen i
  clear hp0
  go_wp2_with fail
  refine bodyPost_ret (v:=.agg #[.slice A3 ks0.length c3]) (by simp[results,Tryz.results44,go_sem, *]) rfl ?_
  exact zuo.fin hk3 hs2 B3 hr3 hw3 hrl hok0
 ·have HT:=fun W (hW:Fr No w2 W)=>ztK rb (q+7) 1000 1000 ls _ W (hr2.keep hW) ((hv2.k0 hW).weaken (fun b e=>by have e:b=rb:=e;show b<w.heap.size+1;omega) (fun _ _ _ h=>h)) hb0 hb1 (by omega) hsz.out (by omega) (by omega)
  clear H2 hr1
  go_wp2_with (go_at_call 72;refine(HT _ (by exact frc)).mono ?_;rintro e w3 ⟨v3,ls3,rfl,hz3,hl3,hv3,hr3,hf3⟩;refine Hid.out ?_)
  refine Lib.hid ?_
  obtain⟨A3,c3,rfl,_,_⟩:=hv3.form
  have HP:=fun W (hW:Fr No w3 W)=>zul _ ls3 _ W (hv3.k0 hW) (fun x hx=>by have:=hz3 x hx;omega)
  have B3:=B2.keepX hf3 (by omega)
  have hv23:=hv2.keep hf3 (fun b (e:b=rb)=>by show b<w.heap.size+1;omega) (fun _ _ _ h=>h)
  have hw3:=hw2.same hf3
  obtain⟨ks4,n4,hq4⟩:∃ks n,zqz ls3=(ks,n):=⟨_,_,rfl⟩
  rw[hq4] at HP
  replace hz3:=Lib.hid hz3
  replace hq4:=Lib.hid hq4
  clear HT hv3 hr2 hf3 hv2
  go_wp2_with (go_at_call 71;refine(HP _ (by exact frc)).mono ?_;rintro e w4 ⟨v4,rfl,hk4,hf4⟩;refine Hid.out ?_)
  refine Lib.hid ?_
  obtain⟨A4,c4,rfl,_,_⟩:=hk4.sl.form
  have B4:=B3.keep hf4
  have hr4:=hr3.keep hf4
  have hw4:=hw3.trans0 hf4
  have hv4:=hv23.k0 hf4
  have d0:=B4.c1
  have dl:=B4.lt
  have df:=fun i=>B4.frozen i
  have hs4:w.heap.size≤w3.heap.size:=hw3.size
  clear HP hv23 hf4
  by_cases hn4:n4=0
  ·subst hn4
   have hok4:=zum hq4.out
   go_wp2_with fail
   refine bodyPost_ret (v:=.agg #[.slice A4 ks4.length c4]) (by simp[results,Tryz.results44,go_sem, *]) rfl ?_
   exact zuo.fin hk4 hs4 B4 (hr4.up (show q+7+10≤q+20 by omega)) hw4 hrl hok4
  ·have hne:((n4:Int) == 0)=false:=beq_eq_false_iff_ne.2 (by omega)
   have HP:=fun W (hW:Fr No w4 W)=>zul _ ls _ W (hv4.k0 hW) (fun x hx=>by have:=hsz.out x hx;omega)
   rw[hp0.out] at HP
   go_wp2_with (go_at_call 71;refine(HP _ (by exact frc)).mono ?_;rintro e w5 ⟨v5,rfl,hk5,hf5⟩;refine Hid.out ?_)
   refine Lib.hid ?_
   obtain⟨A5,c5,rfl,_,_⟩:=hk5.sl.form
   rw[World.size_alloc] at hk5
   have ha4:=(Fr.refl No w4).alloc (.cells #[.slice A4 ks4.length c4] 25)
   have hf45:=ha4.trans0 hf5
   have B5:=B4.keep hf45
   have hr5:=(hr4.keep hf45).up (show q+7+10≤q+20 by omega)
   have hw5:=hw4.trans0 hf45
   have d0:=B5.c1
   have dl:=B5.lt
   have df:=fun i=>B5.frozen i
   have hs5:=hw4.size
   clear HP hp0 hq4
   go_wp2_with fail
   refine bodyPost_ret (v:=.agg #[.slice A5 ks0.length c5]) (by simp[results,Tryz.results44,go_sem, *]) rfl ?_
   exact zuo.fin hk5 (by omega) B5 hr5 hw5 hrl hok0
def pkV (n:Nat):Value->World->Prop:=fun v _=>∃k:Nat,k<n∧v=.int .i64 k
theorem zuq (n:Nat):MonP (pkV n):=fun _ _ _ h _=>h
end Go.Proofs.YtbfmeklfpackjaaGreatDoor
