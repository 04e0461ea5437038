/- The draws: what is drawn out of small tables. -/
import Derived.Test.YtbfmeklfpackjaaGreatDoorQG19
set_option maxHeartbeats 8000000
set_option maxRecDepth 100000
namespace Go.Proofs.YtbfmeklfpackjaaGreatDoor
open Go.RowKit
def tab2:List Value->Bool
 | .int .i64 _ :: .string s :: r=>decide (s.size≤10)&&tab2 r
 | []=>true
 | _=>false
theorem zsh:∀{l:List Value},tab2 l=true->∀{k:Nat},k * 2<l.length->∃(x:Int) (s:Str),l[k * 2]? =some (.int .i64 x)∧l[k * 2+1]? =some (.string s)∧s.size≤10
 | .int .i64 x :: .string s :: r,h,0,_=>by
  simp only[tab2,lz5,decide_eq_true_eq] at h
  exact⟨x,s,rfl,rfl,h.1⟩
 | .int .i64 x :: .string s :: r,h,k+1,hk=>by
  simp only[tab2,lz5] at h
  obtain⟨y,t,h1,h2,h3⟩:=zsh h.2 (k:=k) (by simp at hk;omega)
  exact⟨y,t,by rw[show(k+1) * 2=k * 2+1+1 by omega,lz4,lz4];exact h1,by rw[show(k+1) * 2+1=k * 2+1+1+1 by omega,lz4,lz4];exact h2,h3⟩
 | [],_,_,hk=>absurd hk (by simp)
def zsi (rb q:Nat) (w:World) (e:Ending) (w':World):Prop:=∃(x:Int) (s:Str),e=.returned (.agg #[.int .i64 x,.string s])∧s.size≤10∧RdB w' rb (q+2)∧Fr (fun b=>b=rb) w w'
theorem zsi.fin {rb q:Nat} {w w2:World} {x:Int} {s:Str} {u v:Value} (hf:Fr (fun b=>b=rb) w w2) (hr:RdB w2 rb (q+2)) (hz:s.size≤10) (hrl:rb<w.heap.size):zsi rb q w (.returned (.agg #[.int .i64 x,.string s])) ((w2.setCell ⟨w.heap.size,0,none⟩ u).setCell ⟨w.heap.size,1,none⟩ v):=by
 have hp:=(Fr.put1 w.heap.size 0 u w2).same (Fr.put1 w.heap.size 1 v _)
 exact⟨x,s,rfl,hz,hr.far hp (fun b e=>by omega),hf.trans hp (fun b hb e=>by omega)⟩
theorem zsj (rb q n:Nat) (w:World) (h:RdB w rb q) (hn:1≤n) (hn2:n≤1000000) (hq:q≤100000):
  Calls Tryz.prog 73 #[.pointer (some ⟨rb,0,none⟩),.int .i64 n] w (zsi rb q w):=by
 have hrl:=h.lt
 have H1:=fun W (hW:Fr No w W)=>zr8 rb q n W (h.keep hW) hn hn2 (by omega)
 have hB:=Bx.new w 45 #[.int .i64 0,.string ⟨#[]⟩]
 have hfA:=(Fr.refl No w).alloc (.cells #[.int .i64 0,.string ⟨#[]⟩] 45)
 clear h
 go_enter Tryz.func73,Tryz.ntmps73
 go_wp2_with (go_at_call 45;refine(H1 _ (by exact frc)).mono ?_;rintro e w1 ⟨od,rfl,hr1,hf1⟩;refine Hid.out ?_)
 refine Lib.hid ?_
 have B1:=hB.keepX hf1 (by omega)
 have hw1:Fr (fun b=>b=rb) w w1:=(Fr.of0 hfA).same hf1
 have hs1:=hw1.size
 have hl1:=B1.lt
 clear hB hfA hf1
 cases od
 ·have H2:=fun W (hW:Fr No w1 W)=>zrd rb (q+1) 5 W (hr1.keep hW) (by omega) (by omega) (by omega)
  clear H1 hr1
  go_wp2_with (go_at_call 23;refine(H2 _ (by exact frc)).mono ?_;rintro e w2 ⟨k,hk,rfl,hr2,hf2⟩;refine Hid.out ?_)
  refine Lib.hid ?_
  have N2:=(Bx.new w1 45 #[.int .i64 1,.string ⟨#[]⟩,.int .i64 2,.string ⟨#[116,111,112]⟩,.int .i64 2,.string ⟨#[99,101,108,108]⟩,.int .i64 2,.string ⟨#[109,97,105,110]⟩,.int .i64 2,.string ⟨#[110,111,110,101]⟩]).keepX hf2 (by omega)
  have ha:=(Fr.refl No w1).alloc (.cells #[.int .i64 1,.string ⟨#[]⟩,.int .i64 2,.string ⟨#[116,111,112]⟩,.int .i64 2,.string ⟨#[99,101,108,108]⟩,.int .i64 2,.string ⟨#[109,97,105,110]⟩,.int .i64 2,.string ⟨#[110,111,110,101]⟩] 45)
  have B2:=(B1.keep ha).keepX hf2 (by omega)
  have hw2:=(hw1.trans0 ha).same hf2
  obtain⟨x,s,hx,hs,hz⟩:=zsh (l:=(#[.int .i64 1,.string ⟨#[]⟩,.int .i64 2,.string ⟨#[116,111,112]⟩,.int .i64 2,.string ⟨#[99,101,108,108]⟩,.int .i64 2,.string ⟨#[109,97,105,110]⟩,.int .i64 2,.string ⟨#[110,111,110,101]⟩]:Array Value).toList) (by decide) (k:=k) (by simp;omega)
  have c0:w2.cell? ⟨w1.heap.size,k * 2,none⟩=some (.int .i64 x):=by rw[N2.cell,<-hx];simp
  have c1:w2.cell? ⟨w1.heap.size,k * 2+1,none⟩=some (.string s):=by rw[N2.cell,<-hs];simp
  have nl:=N2.lt
  obtain⟨b0,b1⟩:=B2.c2
  have bl:=B2.lt
  have bf:=fun i=>B2.frozen i
  have hk9:(k:Int)<5:=by omega
  have hfin:=Lib.hid (show zsi rb q w (.returned (.agg #[.int .i64 x,.string s])) ((w2.setCell ⟨w.heap.size,0,none⟩ (.int .i64 x)).setCell ⟨w.heap.size,1,none⟩ (.string s)) from zsi.fin hw2 hr2 hz hrl)
  clear H2 hx hs N2 ha B2 B1 hf2 hw2 hr2 hw1
  go_wp2_with fail
  refine bodyPost_ret (v:=.agg #[.int .i64 x,.string s]) (by simp[results,Tryz.results73,go_sem, *]) rfl ?_
  exact hfin.out
 ·have H2:=fun W (hW:Fr No w1 W)=>zrd rb (q+1) 5 W (hr1.keep hW) (by omega) (by omega) (by omega)
  clear H1 hr1
  go_wp2_with (go_at_call 23;refine(H2 _ (by exact frc)).mono ?_;rintro e w2 ⟨k,hk,rfl,hr2,hf2⟩;refine Hid.out ?_)
  refine Lib.hid ?_
  have N2:=(Bx.new w1 45 #[.int .i64 0,.string ⟨#[]⟩,.int .i64 2,.string ⟨#[]⟩,.int .i64 1,.string ⟨#[97]⟩,.int .i64 3,.string ⟨#[]⟩,.int .i64 2,.string ⟨#[65]⟩]).keepX hf2 (by omega)
  have ha:=(Fr.refl No w1).alloc (.cells #[.int .i64 0,.string ⟨#[]⟩,.int .i64 2,.string ⟨#[]⟩,.int .i64 1,.string ⟨#[97]⟩,.int .i64 3,.string ⟨#[]⟩,.int .i64 2,.string ⟨#[65]⟩] 45)
  have B2:=(B1.keep ha).keepX hf2 (by omega)
  have hw2:=(hw1.trans0 ha).same hf2
  obtain⟨x,s,hx,hs,hz⟩:=zsh (l:=(#[.int .i64 0,.string ⟨#[]⟩,.int .i64 2,.string ⟨#[]⟩,.int .i64 1,.string ⟨#[97]⟩,.int .i64 3,.string ⟨#[]⟩,.int .i64 2,.string ⟨#[65]⟩]:Array Value).toList) (by decide) (k:=k) (by simp;omega)
  have c0:w2.cell? ⟨w1.heap.size,k * 2,none⟩=some (.int .i64 x):=by rw[N2.cell,<-hx];simp
  have c1:w2.cell? ⟨w1.heap.size,k * 2+1,none⟩=some (.string s):=by rw[N2.cell,<-hs];simp
  have nl:=N2.lt
  obtain⟨b0,b1⟩:=B2.c2
  have bl:=B2.lt
  have bf:=fun i=>B2.frozen i
  have hk9:(k:Int)<5:=by omega
  have hfin:=Lib.hid (show zsi rb q w (.returned (.agg #[.int .i64 x,.string s])) ((w2.setCell ⟨w.heap.size,0,none⟩ (.int .i64 x)).setCell ⟨w.heap.size,1,none⟩ (.string s)) from zsi.fin hw2 hr2 hz hrl)
  clear H2 hx hs N2 ha B2 B1 hf2 hw2 hr2 hw1
  go_wp2_with fail
  refine bodyPost_ret (v:=.agg #[.int .i64 x,.string s]) (by simp[results,Tryz.results73,go_sem, *]) rfl ?_
  exact hfin.out
theorem zsk (rb q n:Nat) (w:World) (h:RdB w rb q) (hn:1≤n) (hn2:n≤1000000) (hq:q≤100000):
  Calls Tryz.prog 75 #[.pointer (some ⟨rb,0,none⟩),.int .i64 n] w (zsi rb q w):=by
 have hrl:=h.lt
 have H1:=fun W (hW:Fr No w W)=>zr8 rb q n W (h.keep hW) hn hn2 (by omega)
 have hB:=Bx.new w 144 #[.int .i64 0,.string ⟨#[]⟩]
 have hfA:=(Fr.refl No w).alloc (.cells #[.int .i64 0,.string ⟨#[]⟩] 144)
 clear h
 go_enter Tryz.func75,Tryz.ntmps75
 go_wp2_with (go_at_call 45;refine(H1 _ (by exact frc)).mono ?_;rintro e w1 ⟨od,rfl,hr1,hf1⟩;refine Hid.out ?_)
 refine Lib.hid ?_
 have B1:=hB.keepX hf1 (by omega)
 have hw1:Fr (fun b=>b=rb) w w1:=(Fr.of0 hfA).same hf1
 have hs1:=hw1.size
 have hl1:=B1.lt
 clear hB hfA hf1
 cases od
 ·have H2:=fun W (hW:Fr No w1 W)=>zrd rb (q+1) 7 W (hr1.keep hW) (by omega) (by omega) (by omega)
  clear H1 hr1
  go_wp2_with (go_at_call 23;refine(H2 _ (by exact frc)).mono ?_;rintro e w2 ⟨k,hk,rfl,hr2,hf2⟩;refine Hid.out ?_)
  refine Lib.hid ?_
  have N2:=(Bx.new w1 144 #[.int .i64 0,.string ⟨#[]⟩,.int .i64 1,.string ⟨#[]⟩,.int .i64 3,.string ⟨#[]⟩,.int .i64 2,.string ⟨#[116,111,112]⟩,.int .i64 2,.string ⟨#[99,101,108,108]⟩,.int .i64 2,.string ⟨#[109,97,105,110]⟩,.int .i64 2,.string ⟨#[110,111,110,101]⟩]).keepX hf2 (by omega)
  have ha:=(Fr.refl No w1).alloc (.cells #[.int .i64 0,.string ⟨#[]⟩,.int .i64 1,.string ⟨#[]⟩,.int .i64 3,.string ⟨#[]⟩,.int .i64 2,.string ⟨#[116,111,112]⟩,.int .i64 2,.string ⟨#[99,101,108,108]⟩,.int .i64 2,.string ⟨#[109,97,105,110]⟩,.int .i64 2,.string ⟨#[110,111,110,101]⟩] 144)
  have B2:=(B1.keep ha).keepX hf2 (by omega)
  have hw2:=(hw1.trans0 ha).same hf2
  obtain⟨x,s,hx,hs,hz⟩:=zsh (l:=(#[.int .i64 0,.string ⟨#[]⟩,.int .i64 1,.string ⟨#[]⟩,.int .i64 3,.string ⟨#[]⟩,.int .i64 2,.string ⟨#[116,111,112]⟩,.int .i64 2,.string ⟨#[99,101,108,108]⟩,.int .i64 2,.string ⟨#[109,97,105,110]⟩,.int .i64 2,.string ⟨#[110,111,110,101]⟩]:Array Value).toList) (by decide) (k:=k) (by simp;omega)
  have c0:w2.cell? ⟨w1.heap.size,k * 2,none⟩=some (.int .i64 x):=by rw[N2.cell,<-hx];simp
  have c1:w2.cell? ⟨w1.heap.size,k * 2+1,none⟩=some (.string s):=by rw[N2.cell,<-hs];simp
  have nl:=N2.lt
  obtain⟨b0,b1⟩:=B2.c2
  have bl:=B2.lt
  have bf:=fun i=>B2.frozen i
  have hk9:(k:Int)<7:=by omega
  have hfin:=Lib.hid (show zsi rb q w (.returned (.agg #[.int .i64 x,.string s])) ((w2.setCell ⟨w.heap.size,0,none⟩ (.int .i64 x)).setCell ⟨w.heap.size,1,none⟩ (.string s)) from zsi.fin hw2 hr2 hz hrl)
  clear H2 hx hs N2 ha B2 B1 hf2 hw2 hr2 hw1
  go_wp2_with fail
  refine bodyPost_ret (v:=.agg #[.int .i64 x,.string s]) (by simp[results,Tryz.results75,go_sem, *]) rfl ?_
  exact hfin.out
 ·have H2:=fun W (hW:Fr No w1 W)=>zrd rb (q+1) 5 W (hr1.keep hW) (by omega) (by omega) (by omega)
  clear H1 hr1
  go_wp2_with (go_at_call 23;refine(H2 _ (by exact frc)).mono ?_;rintro e w2 ⟨k,hk,rfl,hr2,hf2⟩;refine Hid.out ?_)
  refine Lib.hid ?_
  have N2:=(Bx.new w1 144 #[.int .i64 4,.string ⟨#[]⟩,.int .i64 2,.string ⟨#[]⟩,.int .i64 1,.string ⟨#[97]⟩,.int .i64 0,.string ⟨#[97]⟩,.int .i64 (-1),.string ⟨#[]⟩]).keepX hf2 (by omega)
  have ha:=(Fr.refl No w1).alloc (.cells #[.int .i64 4,.string ⟨#[]⟩,.int .i64 2,.string ⟨#[]⟩,.int .i64 1,.string ⟨#[97]⟩,.int .i64 0,.string ⟨#[97]⟩,.int .i64 (-1),.string ⟨#[]⟩] 144)
  have B2:=(B1.keep ha).keepX hf2 (by omega)
  have hw2:=(hw1.trans0 ha).same hf2
  obtain⟨x,s,hx,hs,hz⟩:=zsh (l:=(#[.int .i64 4,.string ⟨#[]⟩,.int .i64 2,.string ⟨#[]⟩,.int .i64 1,.string ⟨#[97]⟩,.int .i64 0,.string ⟨#[97]⟩,.int .i64 (-1),.string ⟨#[]⟩]:Array Value).toList) (by decide) (k:=k) (by simp;omega)
  have c0:w2.cell? ⟨w1.heap.size,k * 2,none⟩=some (.int .i64 x):=by rw[N2.cell,<-hx];simp
  have c1:w2.cell? ⟨w1.heap.size,k * 2+1,none⟩=some (.string s):=by rw[N2.cell,<-hs];simp
  have nl:=N2.lt
  obtain⟨b0,b1⟩:=B2.c2
  have bl:=B2.lt
  have bf:=fun i=>B2.frozen i
  have hk9:(k:Int)<5:=by omega
  have hfin:=Lib.hid (show zsi rb q w (.returned (.agg #[.int .i64 x,.string s])) ((w2.setCell ⟨w.heap.size,0,none⟩ (.int .i64 x)).setCell ⟨w.heap.size,1,none⟩ (.string s)) from zsi.fin hw2 hr2 hz hrl)
  clear H2 hx hs N2 ha B2 B1 hf2 hw2 hr2 hw1
  go_wp2_with fail
  refine bodyPost_ret (v:=.agg #[.int .i64 x,.string s]) (by simp[results,Tryz.results75,go_sem, *]) rfl ?_
  exact hfin.out
def zsl (rb q:Nat) (w:World) (e:Ending) (w':World):Prop:=∃s:Str,e=.returned (.string s)∧s.size≤10∧RdB w' rb (q+1)∧Fr (fun b=>b=rb) w w'
theorem zsm (rb q:Nat) (w:World) (h:RdB w rb q) (hq:q≤100000):
  Calls Tryz.prog 24 #[.pointer (some ⟨rb,0,none⟩)] w (zsl rb q w):=by
 have hrl:=h.lt
 have H1:=fun W (hW:Fr No w W)=>zrd rb q 8 W (h.keep hW) (by omega) (by omega) (by omega)
 have T2:=Bx.two w 9 #[.string ⟨#[116,111,112]⟩,.string ⟨#[99,101,108,108]⟩,.string ⟨#[109,97,105,110]⟩,.string ⟨#[110,111,110,101]⟩,.string ⟨#[65]⟩,.string ⟨#[]⟩] 3 #[.int .i64 0,.int .i64 1,.int .i64 2,.int .i64 2,.int .i64 0,.int .i64 3,.int .i64 4,.int .i64 5]
 clear h
 go_enter Tryz.func24,Tryz.ntmps24
 go_wp2_with (go_at_call 23;refine(H1 _ (by exact frc)).mono ?_;rintro e w1 ⟨k,hk,rfl,hr1,hf1⟩;refine Hid.out ?_)
 refine Lib.hid ?_
 have N1:=T2.1.keepX hf1 (by omega)
 have N2:=T2.2.1.keepX hf1 (by omega)
 have hw1:Fr (fun b=>b=rb) w w1:=(Fr.of0 T2.2.2).same hf1
 obtain⟨v,hv,x,rfl,hx⟩:=zsa (P:=fun v=>∃x:Nat,v=.int .i64 (x:Int)∧x<6) (l:=(#[.int .i64 0,.int .i64 1,.int .i64 2,.int .i64 2,.int .i64 0,.int .i64 3,.int .i64 4,.int .i64 5]:Array Value).toList) (by
  intro v hv
  simp only[List.mem_cons,List.not_mem_nil,or_false] at hv
  rcases hv with rfl|rfl|rfl|rfl|rfl|rfl|rfl|rfl
  all_goals first
   | exact⟨0,rfl,by omega⟩
   | exact⟨1,rfl,by omega⟩
   | exact⟨2,rfl,by omega⟩
   | exact⟨3,rfl,by omega⟩
   | exact⟨4,rfl,by omega⟩
   | exact⟨5,rfl,by omega⟩) hk (by decide)
 obtain⟨s,hs,hz⟩:=zse (l:=(#[.string ⟨#[116,111,112]⟩,.string ⟨#[99,101,108,108]⟩,.string ⟨#[109,97,105,110]⟩,.string ⟨#[110,111,110,101]⟩,.string ⟨#[65]⟩,.string ⟨#[]⟩]:Array Value).toList) (by decide) hx rfl
 have c0:w1.cell? ⟨w.heap.size+1,k,none⟩=some (.int .i64 (x:Int)):=by
  have:=N2.cell k
  rw[<-hv]
  simpa using this
 have c1:w1.cell? ⟨w.heap.size,x,none⟩=some (.string s):=by
  have:=N1.cell x
  rw[<-hs]
  simpa using this
 have n1:=N1.lt
 have n2:=N2.lt
 have hk9:(k:Int)<8:=by omega
 have hx9:(x:Int)<6:=by omega
 have hfin:=Lib.hid (show zsl rb q w (.returned (.string s)) w1 from⟨s,rfl,hz,hr1,hw1⟩)
 clear H1 T2 hv hs N1 N2 hf1 hr1 hw1
 go_wp2_with fail
 refine bodyPost_ret (results_tmp rfl _ _ _) rfl ?_
 exact hfin.out
def zsn (l:Str):Bool:=!(Str.l l == [107,101,101,112,101,114])&&!(zpW l == [97,115,107,115])&&!(zpW l == [99,108,97,115,115])
def zso:Cls->List Str->Option Cls
 | c,[]=>some c
 | c,l :: ls=>if zsn l&&(zqw c l).2 then zso (zqw c l).1 ls else none
theorem zsp {ks:List Kpr} {os:List Cls} {c:Cls} {aks:List Ask} {l:Str} (h:zsn l=true):zqx (ks ++ [⟨os ++ [c],aks⟩]) l=(ks ++ [⟨os ++ [(zqw c l).1],aks⟩],(zqw c l).2):=by
 unfold zsn at h
 simp only[lz5,Bool.not_eq_true',beq_eq_false_iff_ne,ne_eq] at h
 obtain⟨⟨h1,h2⟩,h3⟩:=h
 simp[zqx,h1,h2,h3]
theorem zsq (ks:List Kpr) (os:List Cls) (aks:List Ask) (rest:List Str):∀(ls:List Str) (c c':Cls) (n:Nat),zso c ls=some c'->zqy (ks ++ [⟨os ++ [c],aks⟩]) n (ls ++ rest)=zqy (ks ++ [⟨os ++ [c'],aks⟩]) (n+ls.length) rest
 | [],c,c',n,h=>by cases h;rfl
 | l :: ls,c,c',n,h=>by
  rw[zso] at h
  split at h
  ·rename_i hb
   rw[lz5] at hb
   rw[List.cons_append,zqy,zsp hb.1,if_pos hb.2,zsq ks os aks rest ls _ _ _ h]
   congr 1
   simp only[List.length_cons];omega
  ·cases h
def Reads (ls:List Str) (c:Cls):Prop:=∀(ks:List Kpr) (os:List Cls) (aks:List Ask) (rest:List Str) (n:Nat),zqy (ks ++ [⟨os,aks⟩]) n (ls ++ rest)=zqy (ks ++ [⟨os ++ [c],aks⟩]) (n+ls.length) rest
theorem zsr {l:Str} {ls:List Str} {c0 c:Cls} (h1:Str.l l≠[107,101,101,112,101,114]) (h2:zpW l=[99,108,97,115,115]) (h3:zql (zpV l)=(c0,true)) (h4:zso c0 ls=some c):Reads (l :: ls) c:=by
 intro ks os aks rest n
 have e:zqx (ks ++ [⟨os,aks⟩]) l=(ks ++ [⟨os ++ [c0],aks⟩],true):=by simp[zqx,h1,h2,h3]
 rw[List.cons_append,zqy,e,if_pos rfl,zsq ks os aks rest ls _ _ _ h4]
 congr 1
 simp only[List.length_cons];omega
def blk0:List Str:=[zbl [99,108,97,115,115,32,116,111,112,32,45],zbl [102,105,101,108,100,32,118,32,35],zbl [109,101,116,104,111,100,32,103,101,116,32,49,32,49,32,35],zbl [116,97,107,101,32,48],zbl [103,101,116,32,116,111,112,32,118],zbl [114,101,116],zbl [109,101,116,104,111,100,32,98,117,109,112,32,50,32,51,32,35,32,35],zbl [116,97,107,101,32,48],zbl [116,97,107,101,32,48],zbl [103,101,116,32,116,111,112,32,118],zbl [116,97,107,101,32,49],zbl [97,100,100],zbl [115,101,116,32,116,111,112,32,118],zbl [116,97,107,101,32,48],zbl [103,101,116,32,116,111,112,32,118],zbl [114,101,116]]
def blk1:List Str:=[zbl [99,108,97,115,115,32,99,101,108,108,32,116,111,112],zbl [102,105,101,108,100,32,110,101,120,116,32,116,111,112],zbl [109,101,116,104,111,100,32,103,101,116,32,49,32,50,32,35],zbl [102,114,97,109,101,32,55,32,99,101,108,108,32,47],zbl [116,97,107,101,32,48],zbl [103,101,116,32,99,101,108,108,32,110,101,120,116],zbl [110,105,108,32,55],zbl [116,97,107,101,32,48],zbl [103,101,116,32,99,101,108,108,32,110,101,120,116],zbl [99,97,108,108,32,116,111,112,32,103,101,116],zbl [114,101,116],zbl [110,117,109,32,45,49],zbl [114,101,116],zbl [109,101,116,104,111,100,32,108,105,110,107,32,50,32,50,32,35,32,116,111,112],zbl [116,97,107,101,32,48],zbl [116,97,107,101,32,49],zbl [115,101,116,32,99,101,108,108,32,110,101,120,116],zbl [110,117,109,32,49],zbl [114,101,116]]
def blk2:List Str:=[zbl [99,108,97,115,115,32,109,97,105,110,32,45],zbl [109,101,116,104,111,100,32,114,117,110,32,51,32,52,32,35,32,35],zbl [110,101,119,32,116,111,112],zbl [112,117,116,32,50],zbl [116,97,107,101,32,50],zbl [116,97,107,101,32,49],zbl [99,97,108,108,32,116,111,112,32,98,117,109,112],zbl [111,117,116],zbl [116,97,107,101,32,50],zbl [99,97,108,108,32,116,111,112,32,103,101,116],zbl [114,101,116],zbl [109,101,116,104,111,100,32,115,117,109,32,51,32,51,32,35,32,35],zbl [102,114,97,109,101,32,50,32,109,97,105,110,32,35,32,35,32,47],zbl [102,114,97,109,101,32,49,51,32,109,97,105,110,32,35,32,35,32,47],zbl [110,117,109,32,48],zbl [112,117,116,32,50],zbl [116,97,107,101,32,49],zbl [122,101,114,111,32,49,51],zbl [116,97,107,101,32,50],zbl [116,97,107,101,32,49],zbl [97,100,100],zbl [112,117,116,32,50],zbl [116,97,107,101,32,49],zbl [110,117,109,32,45,49],zbl [97,100,100],zbl [112,117,116,32,49],zbl [103,111,32,50],zbl [116,97,107,101,32,50],zbl [114,101,116]]
def blk3:List Str:=[zbl [99,108,97,115,115,32,109,97,105,110,32,45],zbl [109,101,116,104,111,100,32,114,117,110,32,52,32,51,32,35,32,35],zbl [110,101,119,32,99,101,108,108],zbl [112,117,116,32,50],zbl [110,101,119,32,116,111,112],zbl [112,117,116,32,51],zbl [116,97,107,101,32,51],zbl [116,97,107,101,32,49],zbl [99,97,108,108,32,116,111,112,32,98,117,109,112],zbl [111,117,116],zbl [116,97,107,101,32,50],zbl [116,97,107,101,32,51],zbl [99,97,108,108,32,99,101,108,108,32,108,105,110,107],zbl [111,117,116],zbl [116,97,107,101,32,50],zbl [99,97,108,108,32,116,111,112,32,103,101,116],zbl [114,101,116],zbl [109,101,116,104,111,100,32,99,97,115,116,32,50,32,50,32,35,32,35],zbl [110,101,119,32,116,111,112],zbl [99,97,115,116,32,99,101,108,108],zbl [99,97,108,108,32,99,101,108,108,32,103,101,116],zbl [114,101,116]]
def blk4:List Str:=[zbl [99,108,97,115,115,32,109,97,105,110,32,45],zbl [102,105,101,108,100,32,119,32,109,97,105,110],zbl [109,101,116,104,111,100,32,114,117,110,32,50,32,51,32,35,32,35],zbl [102,114,97,109,101,32,55,32,109,97,105,110,32,35,32,47],zbl [116,97,107,101,32,49],zbl [122,101,114,111,32,55],zbl [116,97,107,101,32,48],zbl [116,97,107,101,32,49],zbl [110,117,109,32,45,49],zbl [97,100,100],zbl [99,97,108,108,32,109,97,105,110,32,114,117,110],zbl [116,97,107,101,32,49],zbl [114,101,116]]
def blk5:List Str:=[zbl [99,108,97,115,115,32,109,97,105,110,32,116,111,112],zbl [109,101,116,104,111,100,32,114,117,110,32,51,32,51,32,35,32,35],zbl [110,117,108,108],zbl [112,117,116,32,50],zbl [116,97,107,101,32,50],zbl [99,97,108,108,32,99,101,108,108,32,103,101,116],zbl [114,101,116],zbl [109,101,116,104,111,100,32,103,101,116,32,49,32,50,32,35],zbl [110,117,109,32,53],zbl [114,101,116]]
def blk6:List Str:=[zbl [99,108,97,115,115,32,109,97,105,110,32,45],zbl [102,105,101,108,100,32,119,32,99,101,108,108],zbl [109,101,116,104,111,100,32,114,117,110,32,50,32,51,32,35,32,35],zbl [116,97,107,101,32,48],zbl [110,101,119,32,99,101,108,108],zbl [115,101,116,32,109,97,105,110,32,119],zbl [116,97,107,101,32,48],zbl [103,101,116,32,109,97,105,110,32,119],zbl [99,97,108,108,32,116,111,112,32,103,101,116],zbl [111,117,116],zbl [110,117,109,32,48],zbl [114,101,116]]
def blk7:List Str:=[zbl [99,108,97,115,115,32,116,111,112,32,45],zbl [102,105,101,108,100,32,118,32,116,111,112],zbl [109,101,116,104,111,100,32,103,101,116,32,49,32,49,32,35],zbl [110,117,109,32,56],zbl [114,101,116]]
def blk8:List Str:=[zbl [99,108,97,115,115,32,99,101,108,108,32,116,111,112],zbl [109,101,116,104,111,100,32,103,101,116,32,50,32,49,32,35,32,35],zbl [110,117,109,32,51],zbl [114,101,116]]
def blk9:List Str:=[zbl [99,108,97,115,115,32,109,97,105,110,32,45],zbl [109,101,116,104,111,100,32,114,117,110,32,50,32,50,32,35,32,35],zbl [116,97,107,101,32,49],zbl [99,97,108,108,32,109,97,105,110,32,114,117,110],zbl [114,101,116]]
def zss:List Str:=[zbl [99,108,97,115,115,32,109,97,105,110,32,45],zbl [109,101,116,104,111,100,32,114,117,110,32,50,32,50,32,35,32,35],zbl [116,97,107,101,32,48],zbl [111,117,116],zbl [110,117,109,32,49],zbl [114,101,116]]
def zst (k:Nat):List Str:=([blk0,blk1,blk2,blk3,blk4,blk5,blk6,blk7,blk8,blk9,zss]:List (List Str)).getD k []
def blkC (k:Nat):Cls:=match zst k with
 | l :: ls=>(zso (zql (zpV l)).1 ls).getD zqi
 | []=>zqi
def zsu (nm:Bs) (k:Nat):Bool:=match zst k with
 | l :: ls=>!(Str.l l == [107,101,101,112,101,114])&&zpW l == [99,108,97,115,115]&&(zql (zpV l)).2&&(zso (zql (zpV l)).1 ls).isSome&&Str.l (blkC k).name == nm&&clsB (blkC k)
 | []=>false
theorem zsv {nm:Bs} {k:Nat} (h:zsu nm k=true):Reads (zst k) (blkC k)∧Str.l (blkC k).name=nm∧clsB (blkC k)=true:=by
 unfold zsu at h
 split at h
 ·rename_i l ls hl
  simp only[lz5,Bool.not_eq_true',beq_eq_false_iff_ne,beq_iff_eq,ne_eq] at h
  obtain⟨⟨⟨⟨⟨h1,h2⟩,h3⟩,h4⟩,h5⟩,h6⟩:=h
  obtain⟨c,hc⟩:=Option.isSome_iff_exists.1 h4
  have e:blkC k=c:=by unfold blkC;rw[hl];simp[hc]
  rw[e] at h5 h6 ⊢
  rw[hl]
  exact⟨zsr h1 h2 (by rw[<-h3]) hc,h5,h6⟩
 ·cases h
theorem zsw:zsu [116,111,112] 0=true:=by decide +kernel
theorem zsx:zsu [99,101,108,108] 1=true:=by decide +kernel
theorem zsy:zsu [109,97,105,110] 2=true:=by decide +kernel
theorem zsz:zsu [109,97,105,110] 3=true:=by decide +kernel
theorem zsA:zsu [109,97,105,110] 4=true:=by decide +kernel
theorem zsB:zsu [109,97,105,110] 5=true:=by decide +kernel
theorem zsC:zsu [109,97,105,110] 6=true:=by decide +kernel
theorem zsD:zsu [116,111,112] 7=true:=by decide +kernel
theorem zsE:zsu [99,101,108,108] 8=true:=by decide +kernel
theorem zsF:zsu [109,97,105,110] 9=true:=by decide +kernel
theorem zsG:zsu [109,97,105,110] 10=true:=by decide +kernel
end Go.Proofs.YtbfmeklfpackjaaGreatDoor
