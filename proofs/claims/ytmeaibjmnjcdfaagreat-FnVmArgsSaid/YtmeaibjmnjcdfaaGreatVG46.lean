/- The reference's LodParse: how long the lists grow. -/
import Derived.Test.YtmeaibjmnjcdfaaGreatVG45
set_option maxHeartbeats 8000000
set_option maxRecDepth 100000
namespace Go.Proofs.YtmeaibjmnjcdfaaGreat
open Go.RowKit
def MthN (n:Nat) (m:Mth):Prop:=m.code.length≤n∧m.maps.length≤n
def ClsN (n:Nat) (c:Cls):Prop:=c.fields.length≤n∧c.methods.length≤n∧∀m∈c.methods,MthN n m
def KprN (n:Nat) (k:Kpr):Prop:=k.owns.length≤n∧k.asks.length≤n∧∀c∈k.owns,ClsN n c
def KsN (n:Nat) (ks:List Kpr):Prop:=ks.length≤n∧∀k∈ks,KprN n k
theorem MthN.up {n:Nat} {m:Mth} (h:MthN n m):MthN (n+1) m:=⟨by have:=h.1;omega,by have:=h.2;omega⟩
theorem ClsN.up {n:Nat} {c:Cls} (h:ClsN n c):ClsN (n+1) c:=⟨by have:=h.1;omega,by have:=h.2.1;omega,fun m hm=>(h.2.2 m hm).up⟩
theorem KprN.up {n:Nat} {k:Kpr} (h:KprN n k):KprN (n+1) k:=⟨by have:=h.1;omega,by have:=h.2.1;omega,fun m hm=>(h.2.2 m hm).up⟩
theorem zua (ws:List Str):(zqo ws).1.code=[]∧(zqo ws).1.maps=[]:=by
 unfold zqo
 repeat' split
 all_goals exact⟨rfl,rfl⟩
theorem zue (ws:List Str):(zql ws).1.fields=[]∧(zql ws).1.methods=[]:=by
 unfold zql
 repeat' split
 all_goals exact⟨rfl,rfl⟩
theorem zuf {n:Nat} {c:Cls} (line:Str) (h:ClsN n c):ClsN (n+1) (zqw c line).1:=by
 obtain⟨h1,h2,h3⟩:=h
 unfold zqw
 dsimp only
 split
 ·exact⟨by simp;omega,by dsimp only;omega,fun m hm=>(h3 m hm).up⟩
 split
 ·refine⟨by dsimp only;omega,by simp;omega,fun m hm=>?_⟩
  rcases List.mem_append.1 hm with hm|hm
  ·exact(h3 m hm).up
  ·have hm:=List.mem_singleton.1 hm
   obtain⟨q1,q2⟩:=zua (zpV line)
   subst hm
   exact⟨by rw[q1];simp,by rw[q2];simp⟩
 ·obtain⟨nm,sp,fs,mths⟩:=c
  try dsimp only at *
  rcases List.eq_nil_or_concat mths with rfl | ⟨ms,m,rfl⟩
  ·exact⟨by show _≤_;simp at *;omega,by simp,fun m hm=>by simp at hm⟩
  ·rw[List.concat_eq_append] at *
   rw[List.getLast?_append]
   dsimp only[List.getLast?_singleton,Option.some_or]
   have hm0:=h3 m (by simp)
   split
   ·refine⟨by simp[setLast];omega,by simp[setLast] at *;omega,fun x hx=>?_⟩
    simp only[setLast,List.dropLast_concat,List.mem_append,List.mem_singleton] at hx
    rcases hx with hx|rfl
    ·exact(h3 x (by simp[hx])).up
    ·exact⟨by have:=hm0.1;dsimp only;omega,by have:=hm0.2;simp;omega⟩
   ·refine⟨by simp[setLast];omega,by simp[setLast] at *;omega,fun x hx=>?_⟩
    simp only[setLast,List.dropLast_concat,List.mem_append,List.mem_singleton] at hx
    rcases hx with hx|rfl
    ·exact(h3 x (by simp[hx])).up
    ·exact⟨by have:=hm0.1;simp;omega,by have:=hm0.2;dsimp only;omega⟩
theorem zug {n:Nat} {ks:List Kpr} (line:Str) (h:KsN n ks):KsN (n+1) (zqx ks line).1:=by
 obtain⟨h1,h2⟩:=h
 unfold zqx
 dsimp only
 split
 ·refine⟨by simp;omega,fun k hk=>?_⟩
  rcases List.mem_append.1 hk with hk|hk
  ·exact(h2 k hk).up
  ·rw[List.mem_singleton.1 hk]
   exact⟨by simp,by simp,fun c hc=>by simp at hc⟩
 rcases List.eq_nil_or_concat ks with rfl | ⟨kp,k,rfl⟩
 ·exact⟨by simp,fun m hm=>by simp at hm⟩
 ·rw[List.concat_eq_append] at *
  rw[List.getLast?_append]
  dsimp only[List.getLast?_singleton,Option.some_or]
  have hk0:=h2 k (by simp)
  have hlen:kp.length+1≤n:=by simpa using h1
  have hup:∀(x:Kpr),KprN (n+1) x->KsN (n+1) ((kp ++ [k]).dropLast ++ [x]):=by
   intro x hx
   rw[List.dropLast_concat]
   refine⟨by simp;omega,fun y hy=>?_⟩
   rcases List.mem_append.1 hy with hy|hy
   ·exact(h2 y (by simp[hy])).up
   ·rw[List.mem_singleton.1 hy];exact hx
  split
  ·exact hup _ ⟨by have:=hk0.1;dsimp only;omega,by have:=hk0.2.1;simp;omega,fun c hc=>(hk0.2.2 c hc).up⟩
  split
  ·refine hup _ ⟨by have:=hk0.1;simp;omega,by have:=hk0.2.1;dsimp only;omega,fun c hc=>?_⟩
   rcases List.mem_append.1 hc with hc|hc
   ·exact(hk0.2.2 c hc).up
   ·obtain⟨q1,q2⟩:=zue (zpV line)
    rw[List.mem_singleton.1 hc]
    exact⟨by rw[q1];simp,by rw[q2];simp,fun m hm=>by rw[q2] at hm;simp at hm⟩
  ·obtain⟨owns,aks⟩:=k
   dsimp only at *
   rcases List.eq_nil_or_concat owns with rfl | ⟨os,c0,rfl⟩
   ·exact⟨by simp;omega,fun y hy=>(h2 y hy).up⟩
   ·rw[List.concat_eq_append] at *
    rw[List.getLast?_append]
    dsimp only[List.getLast?_singleton,Option.some_or]
    have hl9:os.length+1≤n:=by simpa using hk0.1
    refine hup _ ⟨by simp;omega,by have:=hk0.2.1;dsimp only at *;omega,fun c hc=>?_⟩
    rw[List.dropLast_concat] at hc
    rcases List.mem_append.1 hc with hc|hc
    ·exact(hk0.2.2 c (by simp[hc])).up
    ·rw[List.mem_singleton.1 hc]
     exact zuf line (hk0.2.2 c0 (by simp))
theorem KsN.sm {n:Nat} {ks:List Kpr} (h:KsN n ks) (hn:n≤1000):ks.length≤1000∧∀k∈ks,zt8 k:=
 ⟨by have:=h.1;omega,fun k hk=>⟨by have:=(h.2 k hk).1;omega,by have:=(h.2 k hk).2.1;omega,fun c hc=>⟨by have:=((h.2 k hk).2.2 c hc).1;omega,by have:=((h.2 k hk).2.2 c hc).2.1;omega,fun m hm=>⟨by have:=(((h.2 k hk).2.2 c hc).2.2 m hm).1;omega,by have:=(((h.2 k hk).2.2 c hc).2.2 m hm).2;omega⟩⟩⟩⟩
section
variable {X:Nat->Prop} {w:World} {cs:List Value} {b0:Nat}
theorem Bx.one {t:TypeId} {c:Value} (h:Bx w b0 t #[c]):∀o,w.cell? ⟨b0,o+1,none⟩=none:=by
 intro o
 rw[h.cell]
 simp
end
def zuh (lo:Nat) (q:List Kpr×Bool):Value->World->Prop:=fun v W=>∃u,v=.tuple #[.agg #[u],.bool q.2]∧KsT lo W u q.1
theorem zui (lo:Nat) (q:List Kpr×Bool):MonP (zuh lo q):=fun _ _ _ ⟨u,h1,h2⟩ hf=>⟨u,h1,h2.keep hf⟩
def plnV (lo:Nat) (ks:List Kpr):Value->World->Prop:=fun v W=>∃u,v=.agg #[u]∧KsT lo W u ks
theorem zuj (lo:Nat) (ks:List Kpr):MonP (plnV lo ks):=fun _ _ _ ⟨u,h1,h2⟩ hf=>⟨u,h1,h2.keep hf⟩
def zuk (lo:Nat) (q:List Kpr×Nat) (w:World) (e:Ending) (w':World):Prop:=∃v,e=.returned (.tuple #[.agg #[v],.int .i64 q.2])∧KsT lo w' v q.1∧Fr No w w'
theorem zul (X:Nat->Prop) (ls:List Str) (v:Value) (w:World) (h:Sl X w 1 StrC v ls) (hsz:∀x∈ls,x.size≤90000):
  Calls Tryz.prog 45 #[v] w (zuk w.heap.size (zqz ls) w):=by
 obtain⟨A,cap,rfl,hcap,hlen⟩:=h.form
 unfold maxLen at hlen
 by_cases hbig:400<ls.length
 ·have hp:zqz ls=([],401):=by unfold zqz;rw[if_pos hbig]
  rw[hp]
  clear hp h hsz
  go_enter Tryz.func45,Tryz.ntmps45
  go_wp2
  refine bodyPost_ret (v:=.tuple #[.agg #[.slice none 0 0],.int .i64 401]) (by simp[results,Tryz.results45,go_sem]) rfl ?_
  exact⟨_,rfl,KsT.nil,by exact frc⟩
 have hp:Hid (zqz ls=if (zqy [] 0 ls).2≠0 then ([],(zqy [] 0 ls).2) else if lodB ⟨(zqy [] 0 ls).1⟩ then ((zqy [] 0 ls).1,0) else ([],ls.length+1)):=by unfold Hid zqz;rw[if_neg hbig]
 generalize zqz ls=q9 at *
 obtain⟨wA,hwA⟩:∃wA,wA=((w.alloc (.cells #[.slice none 0 0] 25)).alloc (.cells #[.slice none 0 0] 25)):=⟨_,rfl⟩
 have hfA:Fr No w wA:=hwA▸frc
 have B0:=(hwA▸bxc:Bx wA w.heap.size 25 #[.slice none 0 0])
 have B1:=(hwA▸bxc:Bx wA (w.heap.size+1) 25 #[.slice none 0 0])
 go_enter Tryz.func45,Tryz.ntmps45
 go_wp2_with fail
 rw[<-hwA]
 go_loopw [5] (fun i wr=>∃(k:Nat) (ks:List Kpr) (u:Value),k≤ls.length∧i=.int .i64 k∧KsN k ks∧Hid (zqy [] 0 ls=zqy ks k (ls.drop k))∧Bx wr w.heap.size 25 #[.slice none 0 0] ∧
  Bx wr (w.heap.size+1) 25 #[u]∧KsT (w.heap.size+2) wr u ks∧Fr No w wr) (fun i _=>ls.length-(intOf i).toNat)
 case atStart=>exact⟨0,[],_,Nat.zero_le _,rfl,⟨by simp,fun k hk=>by simp at hk⟩,rfl,B0,B1,KsT.nil,hfA⟩
 case round=>
  clear B0 B1
  obtain⟨k,ks,u,hk,rfl,hN,hd,C0,C1,hu,hw⟩:=hrel
  obtain⟨Au,cu,rfl,_,_⟩:=hu.sl.form
  have b0:=C0.c1
  have b1:=C1.c1
  have l0:=C0.lt
  have l1:=C1.lt
  have f0:=fun i=>C0.frozen i
  have f1:=fun i=>C1.frozen i
  replace hwA:=Lib.hid hwA
  by_cases hlt:k<ls.length
  ·obtain⟨bk,off,rfl,hXb,y0,z0⟩:=h.strs hlt
   replace y0:=hw.keep0 y0
   have hbl:=lt_of_cell y0
   obtain⟨hs1,hs2⟩:=hN.sm (by omega)
   have hk9:=zug ls[k] hN
   have hz9:=hsz ls[k] (List.getElem_mem hlt)
   rw[List.drop_eq_getElem_cons hlt,zqy] at hd
   have HL:=fun W (hW:Fr No wr W)=>zt9 (w.heap.size+2) ks _ ls[k] W (by have:=hW.size;omega) (hu.keep hW) hz9 hs1 hs2
   generalize ls[k]=line at *
   generalize zqx ks line=q at *
   obtain⟨ks',ok⟩:=q
   unfold ztZ at HL
   dsimp only at *
   have q1:=cr y0
   have KP:=C1.r1
   replace hd:=Lib.hid hd
   replace hN:=Lib.hid hN
   replace hk9:=Lib.hid hk9
   clear hu hs1 hs2
   go_wp2_with fail
   refine zn0 10 28 [mV (.agg #[.slice Au ks.length cu]),mV (.slice (some ⟨bk,off,none⟩) ls.length cap),mV (.int .i64 (k:Int)),mV (.pointer (some ⟨bk,off+k,none⟩)),mV (.string line),mC (zuh (w.heap.size+2) (ks',ok)) (zui _ _),mC (zuh (w.heap.size+2) (ks',ok)) (zui _ _),mC (plnV (w.heap.size+2) ks') (zuj _ _),mE (mV (.bool ok)),mB 25 (#[.slice none 0 0]) wr.heap.size] (by kernel_rfl) (by kernel_rfl) (by simp) ?_ ?_
   ·refine hc4 ?_ ?_ ?_ ?_ <| hc4 ?_ ?_ ?_ ?_ <| hopC ?_ <| hopC ?_ <| hopZ
    all_goals (intro a' W hW hoff hdep;have hbs:=hW.size;have H4:=hoff 4 rfl;have H0:=hoff 0 rfl;have H5:=hoff 5 rfl)
    ·exact nE rfl gx0
    ·refine nE rfl ?_;simp[execOp,Act.eval,H0,go_sem,zaa];exact fr1 rfl
    ·refine nE rfl ?_;simp[execOp,Act.eval,H5,go_sem,zaa];exact fr1 rfl
    ·have D21:_=_:=hdep 1 21 rfl;have D22:_=_:=hdep 2 22 rfl;refine nE rfl ?_;clear hoff hdep;simp[execOp,Act.eval,go_sem,zaa, *];exact fr1 rfl
    ·have D23:_=_:=hdep 3 23 rfl;refine nE rfl ?_;clear hoff hdep;simp[execOp,Act.eval,go_sem,zaa, *];exact fr1 rfl
    ·have D20:_=_:=hdep 0 20 rfl;have D24:_=_:=hdep 4 24 rfl;refine nE rfl ?_;simp[Act.eval,D20,D24,go_sem,zaa];exact(HL W hW).mono fun e w'' h=>(let ⟨u,h1,h2,h3⟩:=h;⟨_,h1,h3,u,rfl,h2⟩)
    ·obtain⟨u9,D25,hS⟩:(zuh (w.heap.size+2) (ks',ok)) _ W:=hdep 5 25 rfl;refine nE rfl ?_;simp[execOp,Act.eval,D25,go_sem,zaa];exact⟨Fr.refl _ _,_,rfl,hS⟩
    ·obtain⟨u9,D19,hS⟩:(zuh (w.heap.size+2) (ks',ok)) _ W:=hdep 6 19 rfl;refine nE rfl ?_;simp[execOp,Act.eval,D19,go_sem,zaa];exact⟨Fr.refl _ _,_,rfl,hS⟩
    ·obtain⟨u9,D19,hS⟩:(zuh (w.heap.size+2) (ks',ok)) _ W:=hdep 6 19 rfl;exact yE rfl ⟨.bool ok,fun W=>by simp[execOp,Act.eval,D19,go_sem],rfl,rfl⟩
    ·refine nE rfl ?_;simp[execOp,go_sem,zaa];exact⟨(Fr.refl _ _).alloc _,⟨_,rfl,Bx.new_ rfl,hbs⟩,Nat.le_refl _⟩
   intro vs W3 hW3 hv hne
   obtain⟨u9R5,e5,hSR5⟩:=hv 5 (by omega)
   obtain⟨u9R6,e6,hSR6⟩:=hv 6 (by omega)
   obtain⟨u9R7,e7,hSR7⟩:=hv 7 (by omega)
   obtain⟨b9,e9,hb9,hl9⟩:=hv 9 (by omega)
   simp only[lz6,List.drop_zero,znP,znM,znL,znK,znR,Nat.zero_add,Nat.reduceAdd,e5,e6,e7,e9]
   simp only[Act.put,lz0,lz1,lz2]
   clear e5 e6 e7 e9 hv
   have D0:=C0.keep hW3
   have D1:=C1.keep hW3
   obtain⟨Av,cv,rfl,_,_⟩:=hSR7.sl.form
   have hS9:=hSR7
   have hw3:Fr No w W3:=hw.trans0 hW3
   have d0:=D0.c1
   have d1:=D1.c1
   have k0:=D0.lt
   have k1:=D1.lt
   have g0:=fun i=>D0.frozen i
   have g1:=fun i=>D1.frozen i
   have e9:=hb9.c1
   have t9:=hb9.lt
   have h9:=fun i=>hb9.frozen i
   replace hS9:=Lib.hid hS9
   clear hne hSR5 hSR6 hSR7 HL KP C0 C1 b0 b1 f0 f1 q1 y0
   have n0:¬w.heap.size=b9:=by omega
   have n1:¬w.heap.size+1=b9:=by omega
   have n2:¬b9=w.heap.size:=by omega
   have n3:¬b9=w.heap.size+1:=by omega
   cases ok
   ·have HS:Hid (zqy [] 0 ls=([],k+1)):=hd.out.out
    have hpp:=Lib.hid (show q9=([],k+1) by rw[hp.out,HS.out];simp)
    go_wp2
    refine bodyPost_ret (v:=.tuple #[.agg #[.slice none 0 0],.int .i64 ((k:Int)+1)]) (by simp[results,Tryz.results45,go_sem, *]) rfl ?_
    rw[hpp.out]
    exact⟨_,rfl,KsT.nil,(hw3.trans (Fr.put1 b9 0 _ W3) (fun b hb e=>by omega)).trans (Fr.put1 _ _ _ _) (fun b hb e=>by omega)⟩
   ·have HS:Hid (zqy [] 0 ls=zqy ks' (k+1) (ls.drop (k+1))):=hd.out.out
    go_wp2
    go_roundw
    case rel=>
     have F1:Fr (fun x=>x=b9∨x=w.heap.size+1) W3 ((W3.setCell ⟨b9,0,none⟩ (.slice Av ks'.length cv)).setCell ⟨w.heap.size+1,0,none⟩ (.slice Av ks'.length cv)):=((Fr.put1 b9 0 _ W3).mono (fun b _ e=>.inl e)).trans (Fr.put1 _ _ _ _) (fun b _ e=>.inr e)
     exact⟨k+1,ks',.slice Av ks'.length cv,by omega,by go_num,hk9.out,HS,D0.keepX F1 (by omega),(D1.keepX (Fr.put1 b9 0 _ W3) (by omega)).set_ 0 _,hS9.out.far hb9 (by decide) (F1.mono (fun b _ e=>e.imp id (fun e=>by omega))),hw3.trans F1 (fun b hb e=>by omega)⟩
    case measure=>simp[intOf];omega
  ·have hkl:k=ls.length:=by omega
   have HS:=Lib.hid (show zqy [] 0 ls=(ks,0) by rw[hd.out,List.drop_eq_nil_of_le (by omega),zqy])
   have HK:=fun W (hW:Fr No wr W)=>zaP (fun b=>b<w.heap.size+2) ⟨ks⟩ _ W (hu.sl.keep hW zN (fun _ _ _ h=>h.keep hW zN))
   have hfin:∀W,Fr (fun b=>b=w.heap.size) wr W->KsT w.heap.size W (.slice Au ks.length cu) ks:=fun W hW=>(hu.far C0 (by decide) (hW.mono (fun b _ e=>.inl e))).low (by omega)
   cases hb:lodB ⟨ks⟩
   ·rw[hb] at HK
    have hpp:=Lib.hid (show q9=([],ls.length+1) by rw[hp.out,HS.out];simp[hb])
    clear hu hfin h hsz
    replace hN:=Lib.hid hN
    go_wp2_with (go_at_call 29;refine(HK _ (by exact frc)).mono ?_;rintro e w1 ⟨rfl,hf1⟩;have D0:=C0.keep hf1;have d0:=D0.c1;have k0:=D0.lt;have g0:=(fun i=>D0.frozen i))
    refine bodyPost_ret (v:=.tuple #[.agg #[.slice none 0 0],.int .i64 ((ls.length:Int)+1)]) (by simp[results,Tryz.results45,go_sem,d0]) rfl ?_
    rw[hpp.out]
    exact⟨_,rfl,KsT.nil,(hw.trans0 hf1).trans (Fr.put1 _ _ _ _) (fun b hb e=>by omega)⟩
   ·rw[hb] at HK
    have hpp:=Lib.hid (show q9=(ks,0) by rw[hp.out,HS.out];simp[hb])
    replace hfin:=Lib.hid hfin
    clear hu h hsz
    replace hN:=Lib.hid hN
    go_wp2_with (go_at_call 29;refine(HK _ (by exact frc)).mono ?_;rintro e w1 ⟨rfl,hf1⟩;have D0:=C0.keep hf1;have d0:=D0.c1;have k0:=D0.lt;have g0:=(fun i=>D0.frozen i);have D1:=C1.keep hf1;have d1:=D1.c1;have k1:=D1.lt;have g1:=(fun i=>D1.frozen i))
    refine bodyPost_ret (v:=.tuple #[.agg #[.slice Au ks.length cu],.int .i64 0]) (by simp[results,Tryz.results45,go_sem,d0]) rfl ?_
    rw[hpp.out]
    have hp9:Fr (fun b=>b=w.heap.size) w1 (w1.setCell ⟨w.heap.size,0,none⟩ (.slice Au ks.length cu)):=Fr.put1 _ _ _ _
    exact⟨_,rfl,hfin.out _ (Fr.trans (Fr.of0 hf1) hp9 (fun b _ e=>e)),(hw.trans0 hf1).trans hp9 (fun b hb e=>by omega)⟩
end Go.Proofs.YtmeaibjmnjcdfaaGreat
