/- A turned text (unfinished: the four ways are open). -/
import Derived.Test.YtmeaibjmnjcdfaaGreatVG38
import Derived.Test.YtmeaibjmnjcdfaaGreatVG37
set_option maxHeartbeats 8000000
set_option maxRecDepth 100000
namespace Go.Proofs.YtmeaibjmnjcdfaaGreat
open Go.RowKit
theorem ztI {X:Nat->Prop} {w:World} {g c k:Nat} {E:TypeId} {cur:Array Value} {ls:List Str} {s:Str} (hB:Bx w g E cur) (hce:∀j,j<ls.length->cur[j]? =some (.string (ls.getD j ⟨#[]⟩))) (hX:¬X g) (hk:k<ls.length) (hs:∀s∈ls,s.size≤maxLen) (hz:s.size≤maxLen) (hc:ls.length≤c) (hm:ls.length≤maxLen):
  Sl X (w.setCell ⟨g,k,none⟩ (.string s)) 1 StrC (.slice (some ⟨g,0,none⟩) ls.length c) (ls.set k s):=by
 refine⟨some ⟨g,0,none⟩,c,by rw[List.length_set],by rw[List.length_set];exact hc,by rw[List.length_set];exact hm,fun _=>⟨g,0,rfl,hX,fun j hj=>?_⟩⟩
 rw[List.length_set] at hj
 refine⟨[.string ((ls.set k s)[j]'(by rw[List.length_set];exact hj))],⟨rfl,?_⟩,rfl,fun i hi=>?_⟩
 ·rcases List.mem_or_eq_of_mem_set (List.getElem_mem (l:=ls.set k s) (by rw[List.length_set];exact hj)) with h|h
  ·exact hs _ h
  ·rw[h];exact hz
 ·obtain rfl:i=0:=by omega
  rw[(hB.set_ k (.string s)).cell,Nat.mul_one,Nat.zero_add,Nat.add_zero]
  have hsz:k<cur.size:=by
   have:=hce k hk
   exact(Array.getElem?_eq_some_iff.1 this).1
  by_cases e:k=j
  ·subst e
   rw[Array.getElem?_setIfInBounds_self_of_lt hsz]
   simp
  ·rw[Array.getElem?_setIfInBounds_ne e,hce j hj]
   simp only[lz3,Option.some.injEq,Value.string.injEq]
   rw[List.getElem_set_ne e,List.getD_eq_getElem?_getD,lz8 hj]
   rfl
def ztJ (rb q M L:Nat) (w:World) (e:Ending) (w':World):Prop:=∃(v:Value) (ls:List Str),e=.returned v∧(∀s∈ls,s.size≤M+1000)∧ls.length≤L+1∧Sl (fun b=>b<w.heap.size) w' 1 StrC v ls∧RdB w' rb (q+10)∧Fr (fun b=>b=rb) w w'
theorem zqY.shape {w:World} {n:Nat} {v:Value} {xs:List Str} (h:zqY w n v xs):∃A m c,v=.slice A m c:=by
 obtain⟨A,c,h1,_⟩:=h.form
 exact⟨A,_,c,h1⟩
theorem ztJ.of {rb q M L n:Nat} {w w':World} {v:Value} {ls:List Str} (h:zqY w' n v ls) (hn:w.heap.size≤n) (hM:M≤80000) (hs:∀s∈ls,s.size≤M+1000) (hl:ls.length≤L+1) (hr:RdB w' rb (q+10)) (hf:Fr (fun b=>b=rb) w w'):ztJ rb q M L w (.returned v) w':=
 ⟨v,ls,rfl,hs,hl,(h.sl (fun s h9=>by have:=hs s h9;unfold maxLen;omega)).weaken (fun b e=>by have:b<w.heap.size:=e;show b<n;omega) (fun _ _ _ h=>h),hr,hf⟩
theorem ztK (rb q M L:Nat) (ls:List Str) (v:Value) (w:World) (h:RdB w rb q) (hv:Sl (fun b=>b=rb) w 1 StrC v ls) (h0:0<ls.length) (hl:ls.length≤L) (hL:L≤2000) (hsz:∀s∈ls,s.size≤M) (hM:M≤80000) (hq:q≤99000):
  Calls Tryz.prog 46 #[.pointer (some ⟨rb,0,none⟩),v] w (ztJ rb q M L w):=by
 obtain⟨A,cap,rfl,hcap,hlen⟩:=hv.form
 obtain⟨bk,off,rfl,hbx,c0,_⟩:=hv.strs h0
 have hrl:=h.lt
 have H1:=zrd rb q ls.length w h (by omega) (by omega) (by omega)
 clear h c0
 go_enter Tryz.func46,Tryz.ntmps46
 go_wp2_with (go_at_call 47;refine H1.mono ?_;rintro e w1 ⟨k1,hk1,rfl,hr1,hf1⟩;refine Hid.out ?_)
 refine Lib.hid ?_
 have H2:=zrd rb (q+1) 5 w1 hr1 (by omega) (by omega) (by omega)
 have hv1:=hv.keep hf1 (fun _ h=>h) (fun _ _ _ h=>h)
 clear H1 hr1
 go_wp2_with (go_at_call 47;refine H2.mono ?_;rintro e w2 ⟨k2,hk2,rfl,hr2,hf2⟩;refine Hid.out ?_)
 refine Lib.hid ?_
 have hv2:=hv1.keep hf2 (fun _ h=>h) (fun _ _ _ h=>h)
 have hw2:=hf1.same hf2
 have hrl2:=hr2.lt
 clear H2 hv hv1 hf1 hf2
 have hc:k2=0∨k2=1∨k2=2∨3≤k2:=by omega
 rcases hc with rfl|rfl|rfl|h3
 ·go_wp2_with (at_builtin;refine Hid.out ?_)
  refine Lib.hid ?_
  refine zqF zqX rfl _ _ rfl _ rfl (fun b=>b=rb) (.slice (some ⟨bk,off,none⟩) ls.length cap) (ls.map zqT) rfl (hv2.strRaws.keep (show Fr No w2 _ from frc) (fun _ h=>False.elim h) (fun _ _ _ h=>h)) (by rw[List.length_map];omega) (zqU ls) ?_
  intro A3 c3 w3 hrow3 hq3 hf3
  simp only[Act.put,lz0,lz1,lz2,List.length_map] at hrow3 hq3 ⊢
  have hw3:=(hw2.alloc (.cells #[] 9)).trans0 hf3
  obtain⟨g3,c3',cur,he,hc1,hc2,hB3,hcs,htk,hb3⟩:=hrow3.at_ h0
  clear htk
  cases he
  have hg3:w2.heap.size<g3:=by have:=hq3 g3 hb3;simp at this;omega
  have hr3:=(hr2.keep ((Fr.refl No w2).alloc (.cells #[] 9))).keep hf3
  have hce:∀j,j<ls.length->w3.cell? ⟨g3,j,none⟩=some (.string (ls.getD j ⟨#[]⟩)):=by
   intro j hj
   rw[hrow3.cell rfl (by omega),ztk,List.getElem?_map,lz8 hj,List.getD_eq_getElem?_getD,lz8 hj]
   rfl
  have hc9:=hce k1 hk1
  have hsk:(ls.getD k1 ⟨#[]⟩).size≤M:=by
   rw[List.getD_eq_getElem?_getD,lz8 hk1]
   exact hsz _ (List.getElem_mem hk1)
  have H3:=zsc rb (q+2) (ls.getD k1 ⟨#[]⟩) w3 hr3 (by omega) (by omega)
  have hl3:=hB3.lt
  replace hce:=Lib.hid hce
  replace hcs:=Lib.hid hcs
  replace hrow3:=Lib.hid hrow3
  replace hv2:=Lib.hid hv2
  replace hw2:=Lib.hid hw2
  replace hw3:=Lib.hid hw3
  replace hB3:=Lib.hid hB3
  replace hsz:=Lib.hid hsz
  replace hsk:=Lib.hid hsk
  generalize ls.getD k1 ⟨#[]⟩=sk at *
  have hk9:(k1:Int)<(ls.length:Int):=by omega
  clear hq3 hf3 hr2 hr3 hb3 hbx
  go_wp2_with (go_at_call 90;refine H3.mono ?_;rintro e w4 ⟨s9,rfl,hs9,hr4,hf4⟩;refine Hid.out ?_)
  refine Lib.hid ?_
  have hB4:=hB3.out.keepX hf4 (by omega)
  have l4:=hB4.lt
  have f4:=fun i=>hB4.frozen i
  have l4:=hB4.lt
  have f4:=fun i=>hB4.frozen i
  have hd9:w4.cell? ⟨g3,k1,none⟩=some (.string sk):=by rw[hB4.cell,<-hB3.out.cell];exact hc9
  have hw4:Fr (fun b=>b=rb) w w4:=hw3.out.same hf4
  have hl9:=hlen
  unfold maxLen at hl9 hc2
  have hfin:ztJ rb q M L w (.returned (.slice (some ⟨g3,0,none⟩) ls.length c3)) (w4.setCell ⟨g3,k1,none⟩ (.string s9)):=by
   have hp:=Fr.put1 g3 k1 (.string s9) w4
   have hrg:rb<g3:=by omega
   refine⟨_,ls.set k1 s9,rfl,fun s hs=>?_,by rw[List.length_set];omega,?_,(hr4.far hp (fun b e=>by omega)).up (by omega),hw4.trans hp (fun b hb e=>by have:=hw2.out.size;omega)⟩
   ·have hsk9:=hsk.out
    rcases List.mem_or_eq_of_mem_set hs with h|rfl
    ·have:=hsz.out s h;omega
    ·omega
   ·refine ztI hB4 (fun j hj=>by rw[<-hB4.cell,hB4.cell,<-hB3.out.cell];exact hce.out j hj) (show ¬g3<w.heap.size by have:=hw2.out.size;omega) hk1 (fun s hs=>by have:=hsz.out s hs;unfold maxLen;omega) (by have:=hsk.out;unfold maxLen;omega) hc1 (by omega)
  replace hfin:=Lib.hid hfin
  clear H3 hc9 hf4 hr4 hs9
  replace hw4:=Lib.hid hw4
  replace hB4:=Lib.hid hB4
  replace hce:=Lib.hid hce
  go_wp2_with fail
  refine bodyPost_ret (results_tmp rfl _ _ _) rfl ?_
  exact hfin.out
 ·go_wp2_with fail
  have hk8:(k1:Int)+1≤(ls.length:Int):=by omega
  have hkc:k1≤cap:=by omega
  have hk9:(k1:Int)≤(cap:Int):=by omega
  have e9:IntKind.i64.wrap ((k1:Int)+1)=(k1:Int)+1:=IntWalk.i64_in _ (by unfold maxLen at hlen;omega)
  have hvd:=hv2.keep (Fr.refl No w2).drew (fun _ h=>False.elim h) (fun _ _ _ h=>h)
  obtain⟨A8,n8,c8,hE,hS8⟩:∃A8 n8 c8,((k1+1=cap∧A8=(⟨bk,off,none⟩:Addr)∧n8=0∧c8=0)∨(¬k1+1=cap∧A8=⟨bk,off+(k1+1),none⟩∧n8=ls.length-(k1+1)∧c8=cap-(k1+1)))∧Hid (Sl (fun b=>b=rb) w2 1 StrC (.slice (some A8) n8 c8) (ls.drop (k1+1))):=by
   by_cases hc:k1+1=cap
   ·refine⟨_,_,_,.inl ⟨hc,rfl,rfl,rfl⟩,?_⟩
    rw[List.drop_eq_nil_of_le (by omega)]
    exact⟨_,_,rfl,Nat.le_refl _,Nat.zero_le _,fun h=>absurd h (by simp)⟩
   ·refine⟨_,_,_,.inr ⟨hc,rfl,rfl,rfl⟩,?_⟩
    rcases Nat.lt_or_ge (k1+1) ls.length with hlt|hge
    ·have:=Sl.drop hv2 hlt
     rw[Nat.mul_one] at this
     exact this
    ·rw[List.drop_eq_nil_of_le hge]
     exact⟨_,_,by rw[show ls.length-(k1+1)=0 by omega];rfl,Nat.zero_le _,Nat.zero_le _,fun h=>absurd h (by simp)⟩
  have hpre:Hid (Sl (fun b=>b=rb) w2 1 StrC (.slice (some ⟨bk,off,none⟩) k1 cap) (ls.take k1)):=by
   have:=Sl.pre (xs:=ls.take k1) (ys:=ls.drop k1) (A:=some ⟨bk,off,none⟩) (n:=ls.length) (c:=cap) (by rw[List.take_append_drop];exact hv2)
   rwa [List.length_take,Nat.min_eq_left (by omega)] at this
  replace hv2:=Lib.hid hv2
  replace hE:=Lib.hid hE
  refine ztx [(1,.slice (some ⟨bk,off,none⟩) ls.length cap),(2,.int .i64 (k1:Int)),(3,.slice (some ⟨bk,off,none⟩) k1 cap),(5,.slice (some ⟨bk,off,none⟩) ls.length cap),(6,.int .i64 (k1:Int)),(7,.int .i64 ((k1:Int)+1)),(8,.slice (some A8) n8 c8)] [0,4,9,10] (by kernel_rfl) (by kernel_rfl) ?_ ?_
  ·clear hvd
   (repeat(first|exact trivial|(refine⟨_,rfl,rfl,fun W=>?_,?_⟩;(focus (simp[execOp,Act.eval,Act.put,go_sem,↓IntWalk.iteOmega, *];done)))))
   refine⟨_,rfl,rfl,fun W=>?_,trivial⟩
   rcases hE.out with ⟨hc,rfl,rfl,rfl⟩ | ⟨hc,rfl,rfl,rfl⟩<;>simp[execOp,Act.eval,Act.put,go_sem,↓IntWalk.iteOmega, *]
  ·(simp only[ztu,List.filterMap_cons,List.filterMap_nil,lz3,lz4,ztt,Act.put,lz0,lz1,lz2])
   have hfd:Fr No w2 (w2.drew.alloc (.cells #[] 9)):=(Fr.refl No w2).drew.alloc _
   go_step
   go_step
   refine ztA rfl _ _ rfl w2.heap.size (.slice (some ⟨w2.heap.size,0,none⟩) 0 0) [] rfl (zqY.empty _ _ _) (by simp) (fun b=>b=rb) (.slice (some ⟨bk,off,none⟩) k1 cap) (ls.take k1) rfl (hpre.out.keep hfd (fun _ h=>False.elim h) (fun _ _ _ h=>h)) (by rw[List.length_take];omega) hfd.size ?_
   intro v3 w3 hr3 hf3
   have hf23:Fr No w2 w3:=hfd.trans hf3 (fun b h1 h2=>by omega)
   simp only[Act.put,lz0,lz1,lz2]
   refine ztA rfl _ _ rfl w2.heap.size v3 ([] ++ ls.take k1) rfl hr3 (by simp;omega) (fun b=>b=rb) (.slice (some A8) n8 c8) (ls.drop (k1+1)) rfl (hS8.out.keep hf23 (fun _ h=>False.elim h) (fun _ _ _ h=>h)) (by rw[List.length_drop];omega) hf23.size ?_
   intro v4 w4 hr4 hf4
   have hf24:Fr No w2 w4:=hf23.trans hf4 (fun b h1 h2=>by omega)
   have hsl:=hw2.size
   have hfin:ztJ rb q M L w (.returned v4) w4:=ztJ.of hr4 hsl hM (fun s hs=>by
    have h9:s∈ls:=by
     simp only[List.nil_append,List.mem_append] at hs
     exact hs.elim List.mem_of_mem_take List.mem_of_mem_drop
    have:=hsz s h9;omega) (by simp only[List.nil_append,List.length_append,List.length_take,List.length_drop];omega) ((hr2.keep hf24).up (by omega)) (hw2.trans0 hf24)
   replace hfin:=Lib.hid hfin
   obtain⟨A4,n4,c4,rfl⟩:=hr4.shape
   simp only[Act.put,lz0,lz1,lz2]
   clear hr3 hr4 hf3 hf4
   go_wp2_with fail
   refine bodyPost_ret (results_tmp rfl _ _ _) rfl ?_
   exact hfin.out
 ·go_wp2_with fail
  have hkc:k1≤cap:=by omega
  have hk8:(k1:Int)≤(ls.length:Int):=by omega
  have hk7:(k1:Int)<(ls.length:Int):=by omega
  have hk9:(k1:Int)≤(cap:Int):=by omega
  have hkn:¬k1=cap:=by omega
  have hpre:Hid (Sl (fun b=>b=rb) w2 1 StrC (.slice (some ⟨bk,off,none⟩) k1 cap) (ls.take k1)):=by
   have:=Sl.pre (xs:=ls.take k1) (ys:=ls.drop k1) (A:=some ⟨bk,off,none⟩) (n:=ls.length) (c:=cap) (by rw[List.take_append_drop];exact hv2)
   rwa [List.length_take,Nat.min_eq_left (by omega)] at this
  have hsuf:Hid (Sl (fun b=>b=rb) w2 1 StrC (.slice (some ⟨bk,off+k1,none⟩) (ls.length-k1) (cap-k1)) (ls.drop k1)):=by
   have:=Sl.drop hv2 hk1
   rwa [Nat.mul_one] at this
  obtain⟨bk',off',he',_,y0,y1⟩:=hv2.strs hk1
  cases he'
  have hsk:=hsz ls[k1] (List.getElem_mem hk1)
  obtain⟨ks,hkl,hkR,hks⟩:∃ks:List (Raw 1),ks.length=k1∧ks=(ls.take k1).map zqT∧Hid (Sl (fun b=>b=rb) w2 1 RawC (.slice (some ⟨bk,off,none⟩) ks.length cap) ks):=⟨(ls.take k1).map zqT,by rw[List.length_map,List.length_take];omega,rfl,by
   have:=hpre.out.strRaws
   rwa [List.length_map,List.length_take,Nat.min_eq_left (by omega)]⟩
  have hmem:Hid (∀s∈ls.take k1,s.size≤M):=fun s hs=>hsz s (List.mem_of_mem_take hs)
  have hmem2:Hid (∀s∈ls.drop k1,s.size≤M):=fun s hs=>hsz s (List.mem_of_mem_drop hs)
  generalize ls[k1]=sk at *
  have q1:=cr y0
  have hone:OneC ks:=by rw[hkR];exact zqU _
  replace hkR:=Lib.hid hkR
  replace hv2:=Lib.hid hv2
  refine znI 14 56 [mC (litE) (ztC),mV (.slice (some ⟨bk,off,none⟩) ls.length cap),mV (.int .i64 (k1:Int)),mV (.slice (some ⟨bk,off,none⟩) k1 cap),mC (cpP 9 ks w2.heap.size) (zrG _ _ _),mV (.slice (some ⟨bk,off,none⟩) ls.length cap),mV (.int .i64 (k1:Int)),mV (.pointer (some ⟨bk,off+k1,none⟩)),mV (.string sk),mC (oneE sk) (ztD _),mC (ztE w2.heap.size (ls.take k1 ++ [sk])) (ztF _ _),mV (.slice (some ⟨bk,off,none⟩) ls.length cap),mV (.int .i64 (k1:Int)),mV (.slice (some ⟨bk,off+k1,none⟩) (ls.length-k1) (cap-k1))] [mT,mV (.slice (some ⟨bk,off,none⟩) ls.length cap),mV (.int .i64 (k1:Int)),mV (.slice (some ⟨bk,off,none⟩) k1 cap),mT,mV (.slice (some ⟨bk,off,none⟩) ls.length cap),mV (.int .i64 (k1:Int)),mV (.pointer (some ⟨bk,off+k1,none⟩)),mV (.string sk),mT,mC (ztE w2.heap.size (ls.take k1 ++ [sk])) (ztF _ _),mV (.slice (some ⟨bk,off,none⟩) ls.length cap),mV (.int .i64 (k1:Int)),mV (.slice (some ⟨bk,off+k1,none⟩) (ls.length-k1) (cap-k1))] [0,2,2,2,0,2,2,2,2,0,3,2,2,2] 10 (fun _ _=>False) (fun W=>Fr No w2 W) (fun _ _=>True) (by kernel_rfl) (by kernel_rfl) (by simp) (fun _ _ h hf=>h.trans0 hf) ?_ ?_ ?_ ?_ ?_ ?_
  ·exact fun v W W' hs=>⟨fun _ _=>trivial,⟨fun _ h=>h,⟨fun _ h=>h,⟨fun _ h=>h,⟨fun _ _=>trivial,⟨fun _ h=>h,⟨fun _ h=>h,⟨fun _ h=>h,⟨fun _ h=>h,⟨fun _ _=>trivial,⟨fun h=>absurd h (by decide),⟨fun _ h=>h,⟨fun _ h=>h,⟨fun _ h=>h,trivial⟩⟩⟩⟩⟩⟩⟩⟩⟩⟩⟩⟩⟩⟩
  ·refine⟨fun _=>?_,⟨fun _=>?_,⟨fun _=>?_,⟨fun _=>?_,⟨fun _=>?_,⟨fun _=>?_,⟨fun _=>?_,⟨fun _=>?_,⟨fun _=>?_,⟨fun _=>?_,⟨fun h=>absurd h (by decide),⟨fun _=>?_,⟨fun _=>?_,⟨fun _=>?_,trivial⟩⟩⟩⟩⟩⟩⟩⟩⟩⟩⟩⟩⟩⟩
   all_goals (intro a' W hW hoff hdep;have hbs:=hW.size;have H1:=hoff 1 rfl;have H5:=hoff 5 rfl;refine nE rfl ?_)
   ·simp[execOp,go_sem,zaa]
    exact⟨(Fr.refl _ _).alloc _,_,rfl⟩
   ·simp[execOp,Act.eval,H1,go_sem,zaa]
    exact fr1 rfl
   ·simp[execOp,Act.eval,H5,go_sem,zaa]
    exact fr1 rfl
   ·have D43:_=_:=hdep 1 43 rfl
    have D44:_=_:=hdep 2 44 rfl
    clear hoff hdep;simp[execOp,Act.eval,go_sem,zaa,↓IntWalk.iteOmega, *]
    exact fr1 rfl
   ·obtain⟨b,D42⟩:(litE) _ W:=hdep 0 42 rfl
    have D45:_=_:=hdep 3 45 rfl
    exact zrH zqX rfl (hks.out.rawKeep hW zN) (by omega) hone D42 (D45.trans (by rw[hkl])) hbs
   ·simp[execOp,Act.eval,H1,go_sem,zaa]
    exact fr1 rfl
   ·simp[execOp,Act.eval,H5,go_sem,zaa]
    exact fr1 rfl
   ·have D47:_=_:=hdep 5 47 rfl
    have D48:_=_:=hdep 6 48 rfl
    clear hoff hdep;simp[execOp,Act.eval,go_sem,zaa, *]
    exact fr1 rfl
   ·have D49:_=_:=hdep 7 49 rfl
    clear hoff hdep;simp[execOp,Act.eval,go_sem,zaa, *]
    exact fr1 rfl
   ·have D50:_=_:=hdep 8 50 rfl
    simp at D50
    simp[execOp,Act.eval,D50,go_sem,zaa]
    exact⟨(Fr.refl _ _).alloc _,_,rfl,Bx.new_ rfl⟩
   ·simp[execOp,Act.eval,H1,go_sem,zaa]
    exact fr1 rfl
   ·simp[execOp,Act.eval,H5,go_sem,zaa]
    exact fr1 rfl
   ·have D53:_=_:=hdep 11 53 rfl
    have D54:_=_:=hdep 12 54 rfl
    clear hoff hdep;simp[execOp,Act.eval,go_sem,zaa,↓IntWalk.iteOmega, *]
    exact fr1 rfl
  ·refine⟨fun h=>absurd h (by decide),⟨fun _=>?_,⟨fun _=>?_,⟨fun _=>?_,⟨fun h=>absurd h (by decide),⟨fun _=>?_,⟨fun _=>?_,⟨fun _=>?_,⟨fun _=>?_,⟨fun h=>absurd h (by decide),⟨fun h=>absurd h (by decide),⟨fun _=>?_,⟨fun _=>?_,⟨fun _=>?_,trivial⟩⟩⟩⟩⟩⟩⟩⟩⟩⟩⟩⟩⟩⟩
   all_goals (intro a' W hW hoff hdep;have hbs:=(fun _ h=>h.size) W hW;have H1:=hoff 1 rfl;have H5:=hoff 5 rfl;refine nE rfl ?_)
   ·simp[execOp,Act.eval,H1,go_sem,zaa]
    exact fr1 rfl
   ·simp[execOp,Act.eval,H5,go_sem,zaa]
    exact fr1 rfl
   ·have D43:_=_:=hdep 1 43 rfl
    have D44:_=_:=hdep 2 44 rfl
    clear hoff hdep;simp[execOp,Act.eval,go_sem,zaa,↓IntWalk.iteOmega, *]
    exact fr1 rfl
   ·simp[execOp,Act.eval,H1,go_sem,zaa]
    exact fr1 rfl
   ·simp[execOp,Act.eval,H5,go_sem,zaa]
    exact fr1 rfl
   ·have D47:_=_:=hdep 5 47 rfl
    have D48:_=_:=hdep 6 48 rfl
    clear hoff hdep;simp[execOp,Act.eval,go_sem,zaa, *]
    exact fr1 rfl
   ·have D49:_=_:=hdep 7 49 rfl
    clear hoff hdep;simp[execOp,Act.eval,go_sem,zaa, *]
    exact fr1 rfl
   ·simp[execOp,Act.eval,H1,go_sem,zaa]
    exact fr1 rfl
   ·simp[execOp,Act.eval,H5,go_sem,zaa]
    exact fr1 rfl
   ·have D53:_=_:=hdep 11 53 rfl
    have D54:_=_:=hdep 12 54 rfl
    clear hoff hdep;simp[execOp,Act.eval,go_sem,zaa,↓IntWalk.iteOmega, *]
    exact fr1 rfl
  ·intro o r ho hr a' W hW hoff hdep
   have hbs:=hW.size
   cases ho;cases hr
   obtain⟨A0,c0,D46,hA0,hq0⟩:(cpP 9 ks w2.heap.size) _ W:=hdep 4 46 rfl
   obtain⟨b,D51,hB⟩:(oneE sk) _ W:=hdep 9 51 rfl
   exact ztB rfl w2.heap.size _ (ls.take k1) D46 (zqY.cp hkR.out rfl hA0 hq0) (by rw[List.length_take];omega) No _ [sk] D51 (Sl.oneS hB (fun h=>h) (by unfold maxLen;omega)) (by simp) hbs (fun v' W' h1 h2=>⟨hW.trans h2 (fun b h3 h4=>by omega),trivial,ztE.of h1⟩)
  ·exact fun _ _ _ _ h=>h.elim
  intro vs WR hWR hv hne
  obtain⟨AR10,mR10,cR10,e10,hRR10⟩:=hv 10 (by omega)
  simp only[lz6,List.drop_zero,znM,znF,znK,znR,Nat.zero_add,Nat.reduceAdd,e10]
  simp only[Act.put,lz0,lz1,lz2]
  clear e10 hv
  refine ztA rfl _ _ rfl w2.heap.size (.slice AR10 mR10 cR10) (ls.take k1 ++ [sk]) rfl hRR10 (by simp;omega) (fun b=>b=rb) (.slice (some ⟨bk,off+k1,none⟩) (ls.length-k1) (cap-k1)) (ls.drop k1) rfl (hsuf.out.keep hWR (fun _ h=>False.elim h) (fun _ _ _ h=>h)) (by rw[List.length_drop];omega) hWR.size ?_
  intro v4 w4 hr4 hf4
  have hf24:Fr No w2 w4:=hWR.trans hf4 (fun b h1 h2=>by omega)
  have hsl:=hw2.size
  have hfin:ztJ rb q M L w (.returned v4) w4:=ztJ.of hr4 hsl hM (fun s hs=>by
   simp only[List.mem_append,List.mem_singleton] at hs
   rcases hs with (hs|rfl)|hs
   ·have:=hmem.out s hs;omega
   ·omega
   ·have:=hmem2.out s hs;omega) (by simp only[List.length_append,List.length_take,List.length_drop,List.length_singleton];omega) ((hr2.keep hf24).up (by omega)) (hw2.trans0 hf24)
  replace hfin:=Lib.hid hfin
  obtain⟨A4,n4,c4,rfl⟩:=hr4.shape
  simp only[Act.put,lz0,lz1,lz2]
  clear hRR10 hr4 hf4
  go_wp2_with fail
  refine bodyPost_ret (results_tmp rfl _ _ _) rfl ?_
  exact hfin.out
 ·have n0:((k2:Int) == 0)=false:=beq_eq_false_iff_ne.2 (by omega)
  have n1:((k2:Int) == 1)=false:=beq_eq_false_iff_ne.2 (by omega)
  have n2:((k2:Int) == 2)=false:=beq_eq_false_iff_ne.2 (by omega)
  have hkc:k1≤cap:=by omega
  have hk8:(k1:Int)≤(ls.length:Int):=by omega
  have hk9:(k1:Int)≤(cap:Int):=by omega
  have hkn:¬k1=cap:=by omega
  have hkn2:¬cap=k1:=by omega
  have hpre:Hid (Sl (fun b=>b=rb) w2 1 StrC (.slice (some ⟨bk,off,none⟩) k1 cap) (ls.take k1)):=by
   have:=Sl.pre (xs:=ls.take k1) (ys:=ls.drop k1) (A:=some ⟨bk,off,none⟩) (n:=ls.length) (c:=cap) (by rw[List.take_append_drop];exact hv2)
   rwa [List.length_take,Nat.min_eq_left (by omega)] at this
  have hsuf:Hid (Sl (fun b=>b=rb∨w2.heap.size≤b) w2 1 StrC (.slice (some ⟨bk,off+k1,none⟩) (ls.length-k1) (cap-k1)) (ls.drop k1)):=by
   have:=Sl.drop hv2 hk1
   rw[Nat.mul_one] at this
   exact this.wid (by omega) (fun b h1 h2=>h1.resolve_right (by omega)) (fun _ _ _ h=>h)
  replace hv2:=Lib.hid hv2
  have hfd:Fr No w2 (w2.drew.alloc (.cells #[] 9)):=(Fr.refl No w2).drew.alloc _
  go_wp2_with fail
  refine ztx [(1,.slice (some ⟨bk,off,none⟩) ls.length cap),(2,.int .i64 (k1:Int)),(3,.slice (some ⟨bk,off,none⟩) k1 cap),(5,.pointer (some ⟨rb,0,none⟩)),(10,.slice (some ⟨bk,off,none⟩) ls.length cap),(11,.int .i64 (k1:Int)),(12,.slice (some ⟨bk,off+k1,none⟩) (ls.length-k1) (cap-k1))] [0,4,6,7,8,9,13,14] (by kernel_rfl) (by kernel_rfl) ?_ ?_
  ·(repeat(first|exact trivial|(refine⟨_,rfl,rfl,fun W=>?_,?_⟩;(focus (simp[execOp,Act.eval,Act.put,go_sem,↓IntWalk.iteOmega, *];done)))))
  ·(simp only[ztu,List.filterMap_cons,List.filterMap_nil,lz3,lz4,ztt,Act.put,lz0,lz1,lz2])
   go_step
   go_step
   refine ztA rfl _ _ rfl w2.heap.size (.slice (some ⟨w2.heap.size,0,none⟩) 0 0) [] rfl (zqY.empty _ _ _) (by simp) (fun b=>b=rb) (.slice (some ⟨bk,off,none⟩) k1 cap) (ls.take k1) rfl (hpre.out.keep hfd (fun _ h=>False.elim h) (fun _ _ _ h=>h)) (by rw[List.length_take];omega) hfd.size ?_
   intro v3 w3 hr3 hf3
   have hf23:Fr No w2 w3:=hfd.trans hf3 (fun b h1 h2=>by omega)
   have HI:=zsg rb (q+2) 99999 w3 (hr2.keep hf23) (by omega) (by omega) (by omega)
   simp only[Act.put,lz0,lz1,lz2]
   replace hr3:=Lib.hid hr3
   clear hf3
   go_wp2_with (go_at_call 92;refine HI.mono ?_;rintro e w4 ⟨i9,rfl,hz1,hz2,hz3,hz4,hz5,hz6,hr4,hf4⟩;refine Hid.out ?_)
   refine Lib.hid ?_
   have hsz9:=ztG i9 hz3 hz4 hz1 hz2
   have hf34:Fr (fun b=>b=rb) w w4:=(hw2.trans0 hf23).same hf4
   have hT:=fun W=>zrB i9 W (by unfold maxLen;omega) (by unfold maxLen;omega)
   have hr39:=Lib.hid (hr3.out.keepX hf4 (fun q h1 h2=>by omega))
   have hsuf4:=Lib.hid ((hsuf.out.keep hf23 (fun _ h=>False.elim h) (fun _ _ _ h=>h)).keep hf4 (fun _ h=>.inl h) (fun _ _ _ h=>h))
   have hs24:w2.heap.size≤w4.heap.size:=Nat.le_trans hf23.size hf4.size
   generalize zqr i9=tx at *
   clear HI hf4 hf23 hr3
   go_wp2_with (go_at_call 91;refine(hT _).mono ?_;rintro e w5 ⟨rfl,hf5⟩;refine Hid.out ?_)
   refine Lib.hid ?_
   have hr59:=Lib.hid (hr39.out.keep hf5)
   have hsuf5:=Lib.hid (hsuf4.out.keep hf5 (fun _ h=>False.elim h) (fun _ _ _ h=>h))
   have hs25:w2.heap.size≤w5.heap.size:=Nat.le_trans hs24 hf5.size
   have hr5:=hr4.keep hf5
   have hf05:=hf34.trans0 hf5
   clear hT hr39 hsuf4 hr4 hf34 hf5
   have ha5:=(Fr.refl No w5).alloc (.cells (rowS [zbl tx]) 9)
   go_step
   go_step
   go_step
   refine ztA rfl _ _ rfl w2.heap.size v3 ([] ++ ls.take k1) rfl (hr59.out.keep ha5) (by simp;omega) No (.slice (some ⟨w5.heap.size,0,none⟩) 1 1) [zbl tx] rfl (Sl.oneS (Bx.new w5 _ _) (fun h=>h) (by show tx.length≤maxLen;unfold maxLen;omega)) (by simp) (Nat.le_trans hs25 ha5.size) ?_
   intro v6 w6 hr6 hf6
   have hf56:Fr (fun b=>w2.heap.size≤b) w5 w6:=(Fr.of0 ha5).same hf6
   have hsz6:=hf56.size
   simp only[Act.put,lz0,lz1,lz2]
   refine ztA rfl _ _ rfl w2.heap.size v6 ([] ++ ls.take k1 ++ [zbl tx]) rfl hr6 (by simp;omega) (fun b=>b=rb) (.slice (some ⟨bk,off+k1,none⟩) (ls.length-k1) (cap-k1)) (ls.drop k1) rfl ((hsuf5.out.keep hf56 (fun _ h=>.inr h) (fun _ _ _ h=>h)).weaken (fun b e=>.inl e) (fun _ _ _ h=>h)) (by rw[List.length_drop];omega) (Nat.le_trans hs25 hsz6) ?_
   intro v7 w7 hr7 hf7
   have hsl:=hw2.size
   have hf57:Fr (fun b=>w2.heap.size≤b) w5 w7:=hf56.same hf7
   have hfin:ztJ rb q M L w (.returned v7) w7:=ztJ.of hr7 hsl hM (fun s hs=>by
    simp only[List.nil_append,List.mem_append,List.mem_singleton] at hs
    rcases hs with (hs|rfl)|hs
    ·have:=hsz s (List.mem_of_mem_take hs);omega
    ·show tx.length≤_;omega
    ·have:=hsz s (List.mem_of_mem_drop hs);omega) (by simp only[List.nil_append,List.length_append,List.length_take,List.length_drop,List.length_singleton];omega) ((hr5.far hf57 (fun b e=>by omega)).up (by omega)) (hf05.trans hf57 (fun b hb e=>by omega))
   replace hfin:=Lib.hid hfin
   obtain⟨A7,n7,c7,rfl⟩:=hr7.shape
   simp only[Act.put,lz0,lz1,lz2]
   clear hr6 hr7 hf6 hf7
   go_wp2_with fail
   refine bodyPost_ret (results_tmp rfl _ _ _) rfl ?_
   exact hfin.out
end Go.Proofs.YtmeaibjmnjcdfaaGreat
