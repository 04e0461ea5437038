/- The program's verifier: takeObject; stack maps: mapAt, suffices, branch. -/
import Derived.Test.YthembcdcdnffeaaGreatEG36
import Derived.Test.YthembcdcdnffeaaGreatEG32
set_option maxHeartbeats 4000000
set_option maxRecDepth 100000
namespace Go.Proofs.YthembcdcdnffeaaGreat
open Go.RowKit
theorem zm3 (K:LkP) (E:LkE K) (n:Nat) (Z:Nat->Prop) (j:Int) (f:Frm) (vl vs:Value) (w:World) (h:LkS K n Z j f vl vs w) (hj:0≤j) (hj2:j<1000):
  Calls Tryz.prog 148 #[.pointer (some ⟨K.kb,0,none⟩)] w (ze0 K n Z j ((popR f.stack).map (⟨f.locals,·⟩)) w):=by
 have HT:=zdg K E n Z j f vl vs w h hj hj2
 unfold ze4 at HT
 cases ht:zcD f.stack with
 | none=>
  rw[ht] at HT
  dsimp only at HT
  have hv:popR f.stack=none:=by unfold popR;rw[ht]
  rw[hv]
  clear h ht hv
  go_enter Tryz.func148,Tryz.ntmps148
  go_wp2_with (go_at_call 142;refine HT.mono ?_;rintro e w1 ⟨c,rfl,hN⟩)
  exact⟨rfl,_,rfl,hN⟩
 | some q=>
  obtain⟨x,r⟩:=q
  rw[ht] at HT
  dsimp only at HT
  have hv:Hid (popR f.stack=if x.kind=2∨x.kind=3 then some r else none):=by show popR f.stack=_;unfold popR;rw[ht]
  have hcase:(x.kind=2∨x.kind=3)∨(¬x.kind=2∧¬x.kind=3):=by omega
  obtain⟨xk,xn⟩:=x
  dsimp only at hcase hv
  clear h ht
  rcases hcase with hc | ⟨hc1,hc2⟩
  ·have hv2:popR f.stack=some r:=hv.out.trans (if_pos hc)
   rw[hv2]
   clear hv hv2
   rcases hc with rfl|rfl
   all_goals
    go_enter Tryz.func148,Tryz.ntmps148
    go_wp2_with (go_at_call 142;refine HT.mono ?_;rintro e w1 ⟨rfl,hxn,_,hOk⟩)
    go_end0
    exact⟨rfl,hOk.to E frc⟩
  ·have hv2:popR f.stack=none:=hv.out.trans (if_neg (by omega))
   rw[hv2]
   clear hv hv2
   have e2:(xk != 2)=true:=by simpa using hc1
   have e3:(xk != 3)=true:=by simpa using hc2
   go_enter Tryz.func148,Tryz.ntmps148
   go_wp2_with (first
    | (go_at_call 142;refine HT.mono ?_;rintro e w1 ⟨rfl,hxn,_,Z',vl',vs',hS1,hz,hz',hf1⟩;replace hS1:=Lib.hid hS1)
    | (go_at_call 108;refine(zdf K n Z' j _ vl' vs' _ (hS1.out.keep E frc) hj hj2).mono ?_;rintro e w3 ⟨rfl,rfl⟩))
   exact⟨rfl,_,rfl,LkNo.then hz' hf1 ((hS1.out.keep E frc).no.from frc)⟩
theorem zm4 (K:LkP) (E:LkE K) (n:Nat) (Z:Nat->Prop) (j:Int) (f:Frm) (vl vs:Value) (w:World) (h:LkS K n Z j f vl vs w) (a:Int):
  Calls Tryz.prog 149 #[.pointer (some ⟨K.kb,0,none⟩),.int .i64 a] w (zir K.late (mapF K.m a) w):=by
 obtain⟨wA,hwA⟩:∃wA,wA=(w.alloc (.cells #[.int .i64 0,.slice none 0 0,.slice none 0 0] 93)):=⟨_,rfl⟩
 have hfA:Fr No w wA:=hwA▸frc
 have B1:=(hwA▸bxc:Bx wA w.heap.size 93 #[.int .i64 0,.slice none 0 0,.slice none 0 0])
 have hm:=E.maps_at h.anchor
 have hcells:=h.cells w (Fr.refl _ _)
 obtain⟨_,_,_,_,_,_,c9,_,_,_,_,hkl⟩:=hcells
 obtain⟨A3,c3,hvm,_,hlen⟩:=hm.form
 rw[hvm] at hm c9
 unfold maxLen at hlen
 have hF:mapF K.m a=K.m.maps.find? (fun x=>x.at_ == a):=rfl
 have hN:=fun(hn:∀x∈K.m.maps,(x.at_ == a)=false)=>(hF.trans (List.find?_eq_none.2 (fun x hx=>by simpa using hn x hx)):mapF K.m a=none)
 have hY:=fun(k:Nat) (hk:k<K.m.maps.length) (hn:∀x∈K.m.maps.take k,(x.at_ == a)=false) (h9:(K.m.maps[k].at_ == a)=true)=>(hF.trans (zis hk hn h9):mapF K.m a=some K.m.maps[k])
 clear hF h
 generalize mapF K.m a=o at *
 generalize K.m.maps=ms at *
 go_enter Tryz.func149,Tryz.ntmps149
 go_wp2
 rw[<-hwA]
 replace hwA:=Lib.hid hwA
 clear c9
 go_loopw [14] (fun i wr=>∃k:Nat,k≤ms.length∧i=.int .i64 k∧Hid (∀x∈ms.take k,(x.at_ == a)=false)∧Fr No wA wr) (fun i _=>ms.length-(intOf i).toNat)
 case atStart=>exact⟨0,Nat.zero_le _,rfl,by simp[Hid],Fr.refl _ _⟩
 case round=>
  obtain⟨k,hk,rfl,hn,hf⟩:=hrel
  obtain⟨r0,r1,r2⟩:=(B1.keep hf).c3
  have rf:=fun o=>(B1.keep hf).frozen o
  have rl:=(B1.keep hf).lt
  by_cases hlt:k<ms.length
  ·obtain⟨b,off,Al,cl,As,cs,rfl,_,e0,e1,e2,g1,g2,_⟩:=hm.map hlt
   have e0:=(hfA.trans0 hf).keep0 e0
   have e1:=(hfA.trans0 hf).keep0 e1
   have e2:=(hfA.trans0 hf).keep0 e2
   have el:=lt_of_cell e0
   clear hm hvm
   cases hq:(ms[k].at_ == a)
   ·have hV:Hid (∀x∈ms.take (k+1),(x.at_ == a)=false):=by
     intro x hx
     rw[List.take_add_one,List.mem_append] at hx
     rcases hx with hx|hx
     ·exact hn.out x hx
     ·rw[lz8 hlt] at hx
      simp only[Option.toList_some,List.mem_singleton] at hx
      rw[hx];exact hq
    clear hY hN hn g1 g2
    generalize ms[k]=x at *
    go_wp2
    go_roundw
    case rel=>exact⟨k+1,by omega,by go_num,hV,by exact frc⟩
    case measure=>simp[intOf];omega
   ·have hV:=hY k hlt hn.out hq
    clear hY hN hn
    generalize ms[k]=x at *
    rw[hV]
    go_wp2
    refine bodyPost_ret (v:=.tuple #[.agg #[.int .i64 x.at_,.slice Al x.locals.length cl,.slice As x.stack.length cs],.bool true]) (by simp[results,Tryz.results149,go_sem, *]) rfl ?_
    have hfz:Fr No w ((((wr.setCell ⟨w.heap.size,0,none⟩ (.int .i64 x.at_)).setCell ⟨w.heap.size,1,none⟩ (.slice Al x.locals.length cl)).setCell ⟨w.heap.size,2,none⟩ (.slice As x.stack.length cs)).alloc (.cells #[.int .i64 x.at_,.slice Al x.locals.length cl,.slice As x.stack.length cs] 93)):=frc
    exact⟨hfz,_,_,rfl,g1.k0 hfz,g2.k0 hfz⟩
  ·have hV:=hN (fun x hx=>hn.out x (by rwa [List.take_of_length_le (by omega)]))
   clear hY hN hn hm hvm
   go_wp2
   refine bodyPost_ret (v:=.tuple #[.agg #[.int .i64 0,.slice none 0 0,.slice none 0 0],.bool false]) (by simp[results,Tryz.results149,go_sem, *]) rfl ?_
   refine⟨frc,?_⟩
   rw[hV]
theorem zm5 {m:Mth} (h:mthB m=true):∀x∈m.maps,(x.locals.length:Int)=m.locals∧(x.stack.length:Int)≤m.stack:=by
 obtain⟨_,_,_,_,_,_,_,_,h9⟩:=ze7 h
 unfold zf4 at h9
 simp only[lz5] at h9
 have:∀(xs:List Mp) (len locals stack last:Int),zf3 len locals stack last xs=true->∀x∈xs,(x.locals.length:Int)=locals∧(x.stack.length:Int)≤stack:=by
  intro xs
  induction xs with
  | nil=>intro _ _ _ _ _ x hx;cases hx
  | cons y ys ih=>
   intro len locals stack last hh x hx
   rw[zf3] at hh
   simp only[lz5] at hh
   rcases List.mem_cons.1 hx with rfl|hx
   ·have:=hh.1
    unfold zfY at this
    simp only[lz5,decide_eq_true_eq] at this
    omega
   ·exact ih _ _ _ _ hh.2 x hx
 exact this _ _ _ _ _ h9.2
theorem zm6 {m:Mth} {j:Int} {x:Mp} (h:mapF m j=some x):x∈m.maps:=List.mem_of_find?_eq_some h
theorem zm7 (K:LkP) (E:LkE K) (n:Nat) (Z Y:Nat->Prop) (j:Int) (f:Frm) (vl vs:Value) (w:World) (h:LkS K n Z j f vl vs w) (x:Mp) (ml ms:Value) (hl:Sl Y w 2 TagC ml x.locals) (hs:Sl Y w 2 TagC ms x.stack) (hx:(x.locals.length:Int)=K.m.locals):
  Calls Tryz.prog 150 #[.pointer (some ⟨K.kb,0,none⟩),.agg #[.int .i64 x.at_,ml,ms]] w (zgm (zcH K.p K.k f x) w):=by
 have hV:zcH K.p K.k f x=(zen K.p K.k f.locals x.locals&&zen K.p K.k f.stack x.stack):=rfl
 have hll:f.locals.length=x.locals.length:=by have:=h.ll;omega
 obtain⟨A1,c1,rfl,_,hm1⟩:=hl.form
 obtain⟨A2,c2,rfl,_,hm2⟩:=hs.form
 obtain⟨wA,hwA⟩:∃wA,wA=(w.alloc (.cells #[.int .i64 x.at_,.slice A1 x.locals.length c1,.slice A2 x.stack.length c2] 93)):=⟨_,rfl⟩
 have hfA:Fr No w wA:=hwA▸frc
 have B0:=(hwA▸bxc:Bx wA w.heap.size 93 #[.int .i64 x.at_,.slice A1 x.locals.length c1,.slice A2 x.stack.length c2])
 have hA:=h.keep E hfA
 have hlA:=hl.k0 hfA
 have hsA:=hs.k0 hfA
 have hLS:=hA.loc.sl (X:=No) (fun _ _ h=>h)
 have hSS:=hA.stk.sl (X:=No) (fun _ _ h=>h)
 obtain⟨Al,cl,rfl,_,hml⟩:=hLS.form
 obtain⟨As,cs,rfl,_,hms⟩:=hSS.form
 unfold maxLen at hm1 hm2 hml hms
 have KC:=hA.cells
 have K0:=B0.r3
 obtain⟨g,hLo,_⟩:=hA.lg
 have HM:=fun(a b:Tag) (ha:a.name.size≤maxLen) (hb:b.name.size≤maxLen) W (hW:Fr No wA W)=>zde K.l K.bl n K.p g K.k a b W (hLo.keep hW) ha hb
 rw[hV]
 clear hV h hA hl hs
 by_cases hle:x.stack.length=f.stack.length
 ·have hne:((x.stack.length:Int) != (f.stack.length:Int))=false:=by simp[hle]
  have hY1:=fun(hm:∀(i:Nat) (h1:i<f.locals.length) (h2:i<x.locals.length),mayK K.p K.k f.locals[i] x.locals[i]=true)=>zep hll hm
  have hN1:=fun(i:Nat) (h1:i<f.locals.length) (h2:i<x.locals.length) (hm:mayK K.p K.k f.locals[i] x.locals[i]=false)=>zeq i h1 h2 hm
  have hY2:=fun(hm:∀(i:Nat) (h1:i<f.stack.length) (h2:i<x.stack.length),mayK K.p K.k f.stack[i] x.stack[i]=true)=>zep hle.symm hm
  have hN2:=fun(i:Nat) (h1:i<f.stack.length) (h2:i<x.stack.length) (hm:mayK K.p K.k f.stack[i] x.stack[i]=false)=>zeq i h1 h2 hm
  replace hle:=Lib.hid hle
  replace hll:=Lib.hid hll
  generalize zen K.p K.k f.locals x.locals=V1 at *
  generalize zen K.p K.k f.stack x.stack=V2 at *
  go_enter Tryz.func150,Tryz.ntmps150
  go_wp2_with fail
  rw[<-hwA]
  replace hwA:=Lib.hid hwA
  (refine zgc (X:=No) (by kernel_rfl) (by kernel_rfl) ?_)
  (repeat((first|go_big_quiet_skip|(go_big_quiet_want;(apply Exists.intro;refine⟨fun W hW=>?_,?_⟩);(focus (exact fqc));go_big_quiet_on));(try simp only[Act.put,lz0,lz1,lz2])));refine wpQuiet_nil ?_
  intro w1 hf1
  have q1:Fr No wA w1:=hf1
  obtain⟨k0,k1,k2,kf,kl⟩:=K0 w1 hf1
  go_wp2
  clear k0 k1 k2 kf kl
  go_loopw [21,4] (fun i r wr=>∃a:Nat,a≤x.locals.length∧i=.int .i64 a∧r=.bool false∧Hid (∀(i:Nat) (h1:i<f.locals.length) (h2:i<x.locals.length),i<a->mayK K.p K.k f.locals[i] x.locals[i]=true)∧Fr No wA wr) (fun i _ _=>x.locals.length-(intOf i).toNat)
  case atStart=>exact⟨0,Nat.zero_le _,rfl,rfl,fun i _ _ h=>by omega,q1⟩
  case round=>
   obtain⟨a,ha,rfl,rfl,hn,hf⟩:=hrel
   by_cases hlt2:a<x.locals.length
   ·clear hY2 hN2
    have hlt:a<f.locals.length:=by have:=hll.out;omega
    obtain⟨b,bf,rfl,_,c0,c1,z⟩:=(hLS.k0 hf).tag hlt
    obtain⟨d,df,rfl,_,e0,e1,y⟩:=(hlA.k0 hf).tag hlt2
    have el:=lt_of_cell e0
    have H:=fun W (hW:Fr No wr W)=>HM f.locals[a] x.locals[a] z y W (hf.trans0 hW)
    have hN3:=hN1 a hlt hlt2
    have hn2:mayK K.p K.k f.locals[a] x.locals[a]=true->Hid (∀(i:Nat) (h1:i<f.locals.length) (h2:i<x.locals.length),i<a+1->mayK K.p K.k f.locals[i] x.locals[i]=true):=fun hm i h1 h2 hi=>by
     by_cases he:i=a
     ·subst he;exact hm
     ·exact hn.out i h1 h2 (by omega)
    clear hn HM hN1 hY1 hLS hlA hSS hsA
    generalize mayK K.p K.k f.locals[a] x.locals[a]=M at *
    generalize f.locals[a]=t1 at *
    generalize x.locals[a]=t2 at *
    obtain⟨W0,hW0⟩:∃W0,W0=(wr.alloc (.cells #[.int .i64 t2.kind,.string t2.name] 116)):=⟨_,rfl⟩
    have hf0:Fr No wr W0:=hW0▸frc
    have B1:=(hW0▸bxc:Bx W0 wr.heap.size 116 #[.int .i64 t2.kind,.string t2.name])
    have C0:=cr (hf0.keep0 c0)
    have C1:=cr (hf0.keep0 c1)
    have K1:=B1.r2
    have KC1:=fun W (hW:Fr No W0 W)=>KC W ((hf.trans0 hf0).trans0 hW)
    have H1:=fun W (hW:Fr No W0 W)=>H W (hf0.trans0 hW)
    clear c0 c1 KC H K0
    go_wp2_with fail
    rw[<-hW0]
    replace hW0:=Lib.hid hW0
    clear e0 e1 el
    (refine zgc (X:=No) (by kernel_rfl) (by kernel_rfl) ?_)
    (repeat((first|go_big_quiet_skip|(go_big_quiet_want;(apply Exists.intro;refine⟨fun W hW=>?_,?_⟩);(focus (first|exact fqc|(go_simp;first|(go_at_call 176;exact(H1 W hW).mono (fun _ _ h=>⟨h.1,hW.trans0 h.2⟩)))));go_big_quiet_on));(try simp only[Act.put,lz0,lz1,lz2])));refine wpQuiet_nil ?_
    intro w2 hf2
    clear C0 C1 K1 KC1 H1
    cases M
    ·have hV:=hN3 rfl
     clear hN3 hn2
     go_wp2
     go_ret
     exact .mk (by rw[hV];rfl) (((hfA.trans0 hf).trans0 hf0).trans0 hf2)
    ·have hV:=hn2 rfl
     clear hN3 hn2
     go_wp2
     go_roundw
     case rel=>exact⟨a+1,by omega,by go_num,rfl,hV,(hf.trans0 hf0).trans0 hf2⟩
     case measure=>simp[intOf];omega
   ·have hV1:=hY1 (fun i h1 h2=>hn.out i h1 h2 (by omega))
    subst hV1
    clear hY1 hN1 hn hLS hlA
    obtain⟨k0,k1,k2,kf,kl⟩:=K0 wr hf
    go_wp2
    clear k0 k1 k2 kf kl
    go_loopw [48,4] (fun i r wq=>∃a:Nat,a≤x.stack.length∧i=.int .i64 a∧r=.bool false∧Hid (∀(i:Nat) (h1:i<f.stack.length) (h2:i<x.stack.length),i<a->mayK K.p K.k f.stack[i] x.stack[i]=true)∧Fr No wA wq) (fun i _ _=>x.stack.length-(intOf i).toNat)
    case atStart=>exact⟨0,Nat.zero_le _,rfl,rfl,fun i _ _ h=>by omega,hf⟩
    case round=>
     clear hf
     obtain⟨a,ha,rfl,rfl,hn,hf⟩:=hrel
     by_cases hlt2:a<x.stack.length
     ·have hlt:a<f.stack.length:=by have:=hle.out;omega
      obtain⟨b,bf,rfl,_,c0,c1,z⟩:=(hSS.k0 hf).tag hlt
      obtain⟨d,df,rfl,_,e0,e1,y⟩:=(hsA.k0 hf).tag hlt2
      have el:=lt_of_cell e0
      have H:=fun W (hW:Fr No wr W)=>HM f.stack[a] x.stack[a] z y W (hf.trans0 hW)
      have hN3:=hN2 a hlt hlt2
      have hn2:mayK K.p K.k f.stack[a] x.stack[a]=true->Hid (∀(i:Nat) (h1:i<f.stack.length) (h2:i<x.stack.length),i<a+1->mayK K.p K.k f.stack[i] x.stack[i]=true):=fun hm i h1 h2 hi=>by
       by_cases he:i=a
       ·subst he;exact hm
       ·exact hn.out i h1 h2 (by omega)
      clear hn HM hN2 hY2 hSS hsA
      generalize mayK K.p K.k f.stack[a] x.stack[a]=M at *
      generalize f.stack[a]=t1 at *
      generalize x.stack[a]=t2 at *
      obtain⟨W0,hW0⟩:∃W0,W0=(wr.alloc (.cells #[.int .i64 t2.kind,.string t2.name] 116)):=⟨_,rfl⟩
      have hf0:Fr No wr W0:=hW0▸frc
      have B1:=(hW0▸bxc:Bx W0 wr.heap.size 116 #[.int .i64 t2.kind,.string t2.name])
      have C0:=cr (hf0.keep0 c0)
      have C1:=cr (hf0.keep0 c1)
      have K1:=B1.r2
      have KC1:=fun W (hW:Fr No W0 W)=>KC W ((hf.trans0 hf0).trans0 hW)
      have H1:=fun W (hW:Fr No W0 W)=>H W (hf0.trans0 hW)
      clear c0 c1 KC H K0
      go_wp2_with fail
      rw[<-hW0]
      replace hW0:=Lib.hid hW0
      clear e0 e1 el
      (refine zgc (X:=No) (by kernel_rfl) (by kernel_rfl) ?_)
      (repeat((first|go_big_quiet_skip|(go_big_quiet_want;(apply Exists.intro;refine⟨fun W hW=>?_,?_⟩);(focus (first|exact fqc|(go_simp;first|(go_at_call 176;exact(H1 W hW).mono (fun _ _ h=>⟨h.1,hW.trans0 h.2⟩)))));go_big_quiet_on));(try simp only[Act.put,lz0,lz1,lz2])));refine wpQuiet_nil ?_
      intro w2 hf2
      clear C0 C1 K1 KC1 H1
      cases M
      ·have hV:=hN3 rfl
       clear hN3 hn2
       go_wp2
       go_ret
       exact .mk (by rw[hV];rfl) (((hfA.trans0 hf).trans0 hf0).trans0 hf2)
      ·have hV:=hn2 rfl
       clear hN3 hn2
       go_wp2
       go_roundw
       case rel=>exact⟨a+1,by omega,by go_num,rfl,hV,(hf.trans0 hf0).trans0 hf2⟩
       case measure=>simp[intOf];omega
     ·have hV:=hY2 (fun i h1 h2=>hn.out i h1 h2 (by omega))
      clear hY2 hN2 hn hSS hsA HM KC K0
      go_wp2
      go_ret
      exact .mk (by rw[hV];rfl) (hfA.trans0 hf)
 ·have hne:((x.stack.length:Int) != (f.stack.length:Int))=true:=by
   simp only[bne_iff_ne,ne_eq];omega
  have hV:=zeo (p:=K.p) (k:=K.k) (xs:=f.stack) (ys:=x.stack) (fun h=>hle h.symm)
  clear HM hLS hSS hlA hsA
  go_enter Tryz.func150,Tryz.ntmps150
  go_wp2_with fail
  rw[<-hwA]
  replace hwA:=Lib.hid hwA
  (refine zgc (X:=No) (by kernel_rfl) (by kernel_rfl) ?_)
  (repeat((first|go_big_quiet_skip|(go_big_quiet_want;(apply Exists.intro;refine⟨fun W hW=>?_,?_⟩);(focus (exact fqc));go_big_quiet_on));(try simp only[Act.put,lz0,lz1,lz2])));refine wpQuiet_nil ?_
  intro w1 hf1
  clear KC K0
  go_wp2
  go_ret
  exact .mk (by rw[hV,Bool.and_false]) (hfA.trans0 hf1)
theorem zm8 (A:Option Addr) (n c:Nat) (w:World):(binOp .eql 75 (.slice A n c) (.slice none 0 0)).run Tryz.prog w=.ok (.bool A.isNone) w:=by
 simp[binOp,run_equal_slice_nil w 75 116 A n c Tryz.underlying75]
def zm9 (xs:List Tag) (w:World) (e:Ending) (w':World):Prop:=
 ∃v,e=.returned v∧zcX w' tTag v xs∧(∀q,zcP v=some q->w.heap.size≤q∧0<xs.length)∧Fr No w w'
theorem zna (X:Nat->Prop) (v:Value) (xs:List Tag) (w:World) (h:Sl X w 2 TagC v xs) (hl:xs.length≤1000):
  Calls Tryz.prog 107 #[v] w (zm9 xs w):=by
 have hsm:=h.small
 have hnil:=zm8
 obtain⟨A,cap,rfl,_,_⟩:=h.form
 cases A with
 | none=>
  have h0:xs=[]:=by
   obtain⟨A',cap',he,_,_,h3⟩:=h
   rcases Nat.eq_zero_or_pos xs.length with h0|h0
   ·exact List.eq_nil_of_length_eq_zero h0
   ·obtain⟨b,off,hA,_⟩:=h3 h0
    cases he
    cases hA
  subst h0
  go_enter Tryz.func107,Tryz.ntmps107
  go_wp2
  refine bodyPost_ret (v:=.slice none 0 0) (by simp[results,Tryz.results107,go_sem]) rfl ?_
  exact⟨_,rfl,⟨RowV.nil _ _ _,fun _ h=>absurd h (by simp)⟩,(fun _ hq=>by cases hq),Fr.refl _ _⟩
 | some a=>
  obtain⟨i0,hi,hz0,hz1,hz2⟩:=info_parts ze8
  have hlen:xs.length=0∨0<xs.length:=by omega
  rcases hlen with h0|h0
  ·obtain rfl:=List.eq_nil_of_length_eq_zero h0
   have hrun:=fun(ty:TypeId) (w:World) (b:Addr) (c:Nat)=>zcT (P:=Tryz.prog) w 75 ty 116 i0 Tryz.underlying75 hi (some b) (some a) c
   go_enter Tryz.func107,Tryz.ntmps107
   go_wp2_with fail
   refine bodyPost_ret (v:=.slice (some ⟨w.heap.size,0,none⟩) 0 0) (by simp[results,Tryz.results107,go_sem]) rfl ?_
   exact⟨_,rfl,⟨.inr ⟨rfl,rfl,_,rfl⟩,fun _ h=>absurd h (by simp)⟩,(fun _ hq=>by rw[zcQ,if_pos rfl] at hq;cases hq),frc⟩
  ·obtain⟨b,off,cs,hA,_,_,_⟩:=h.cells h0
   cases hA
   have hnews:=(h.keep (R':=TagC) (show Fr No w (w.alloc (.cells #[] 116)) from frc) zN (fun _ _ _ h=>h)).news
   replace hi:=Lib.hid hi
   replace hz0:=Lib.hid hz0
   replace hz1:=Lib.hid hz1
   replace hz2:=Lib.hid hz2
   replace hnews:=Lib.hid hnews
   go_enter Tryz.func107,Tryz.ntmps107
   go_wp2_with (at_builtin;refine zcS _ rfl _ _ 75 rfl 116 i0 (.agg #[.int .i64 0,.string ⟨#[]⟩]) 2 24 Tryz.underlying75 hi.out hz0.out hz1.out hz2.out rfl (by decide) (.slice (some ⟨w.heap.size,0,none⟩) 0 0) 0 [] rfl (.inr ⟨rfl,rfl,_,rfl⟩) ⟨b,off,none⟩ xs.length cap (xs.flatMap zcU) rfl (zcW xs) hnews.out (by intro u hu;obtain⟨t,_,ht⟩:=List.mem_flatMap.1 hu;simp only[zcU,List.mem_cons,List.not_mem_nil,or_false] at ht;rcases ht with rfl|rfl<;>rfl) h0 (by unfold maxLen;omega) (by omega) ?_;intro g' cap' w2 hrow hcap hgf hor)
   simp only[Nat.zero_add,List.nil_append] at hrow hcap
   have hor2:w.heap.size≤g':=by
    rcases hor with h9|h9
    ·rw[zcQ,if_pos rfl] at h9;cases h9
    ·rw[h9];simp
   have hgf2:Fr No w w2:=(show Fr No w (w.alloc (.cells #[] 116)) from frc).trans hgf (fun _ _ e=>by rw[zcQ,if_pos rfl] at e;cases e)
   refine bodyPost_ret (v:=.slice (some ⟨g',0,none⟩) xs.length cap') (by simp[results,Tryz.results107,go_sem, *]) rfl ?_
   exact⟨_,rfl,⟨hrow,hsm⟩,(fun q hq=>by rw[zcQ,if_neg (by omega)] at hq;cases hq;exact⟨hor2,h0⟩),hgf2⟩
def brB (K:LkP) (f:Frm) (a:Int):Bool:=match mapF K.m a with
 | none=>false
 | some x=>zcH K.p K.k f x
theorem znb (K:LkP) (E:LkE K) (n:Nat) (Z:Nat->Prop) (j:Int) (f:Frm) (vl vs:Value) (w:World) (h:LkS K n Z j f vl vs w) (hj:0≤j) (hj2:j<1000) (a:Int):
  Calls Tryz.prog 147 #[.pointer (some ⟨K.kb,0,none⟩),.int .i64 a] w (ze0 K n Z j (if brB K f a then some f else none) w):=by
 have HM:=zm4 K E n Z j f vl vs w h a
 have hV:Hid (brB K f a=match mapF K.m a with|none=>false|some x=>zcH K.p K.k f x):=rfl
 have hmem:=fun(x:Mp)=>zm6 (m:=K.m) (j:=a) (x:=x)
 unfold zir at HM
 generalize brB K f a=V at *
 generalize mapF K.m a=o at *
 have HW:=fun W (hW:Fr No w W)=>zdf K n Z j f vl vs W (h.keep E hW) hj hj2
 have hN:=fun W (hW:Fr No w W)=>((h.keep E hW).no).from hW
 cases o with
 | none=>
  obtain rfl:V=false:=hV.out
  dsimp only at HM
  clear h hV hmem
  go_enter Tryz.func147,Tryz.ntmps147
  go_wp2_with (first
   | (go_at_call 149;refine HM.mono ?_;rintro e w1 ⟨hf1,rfl⟩)
   | (go_at_call 108;refine(HW _ frc).mono ?_;rintro e w3 ⟨rfl,rfl⟩))
  exact⟨rfl,_,rfl,hN _ frc⟩
 | some x=>
  dsimp only at HM
  have hfit:=zm5 E.ok x (hmem x rfl)
  have HS:=fun(ml ms:Value) W (hW:Fr No w W) (hl:Sl K.late W 2 TagC ml x.locals) (hs:Sl K.late W 2 TagC ms x.stack)=>zm7 K E n Z K.late j f vl vs W (h.keep E hW) x ml ms hl hs hfit.1
  have hV2:V=zcH K.p K.k f x:=hV.out
  have hOk:=fun W (hW:Fr No w W)=>LkOk.mk (h.keep E hW) hW.of0
  clear hV hmem h
  generalize zcH K.p K.k f x=S at *
  subst hV2
  cases V
  ·simp only[Bool.false_eq_true,if_false]
   go_enter Tryz.func147,Tryz.ntmps147
   go_wp2_with (first
    | (go_at_call 149;refine HM.mono ?_;rintro e w1 ⟨hf1,ml,ms,rfl,hl,hs⟩;obtain⟨Al,cl,rfl,_,_⟩:=hl.form;obtain⟨As,cs,rfl,_,_⟩:=hs.form)
    | (go_at_call 150;refine(HS _ _ _ frc (hl.keep (R':=TagC) (show Fr No w1 (w1.alloc (.cells #[.int .i64 x.at_,.slice Al x.locals.length cl,.slice As x.stack.length cs] 93)) from frc) zN (fun _ _ _ h=>h)) (hs.keep (R':=TagC) (show Fr No w1 (w1.alloc (.cells #[.int .i64 x.at_,.slice Al x.locals.length cl,.slice As x.stack.length cs] 93)) from frc) zN (fun _ _ _ h=>h))).mono ?_;rintro e w3 ⟨rfl,hf3⟩)
    | (go_at_call 108;refine(HW _ frc).mono ?_;rintro e w4 ⟨rfl,rfl⟩))
   exact⟨rfl,_,rfl,hN _ frc⟩
  ·simp only[if_true]
   go_enter Tryz.func147,Tryz.ntmps147
   go_wp2_with (first
    | (go_at_call 149;refine HM.mono ?_;rintro e w1 ⟨hf1,ml,ms,rfl,hl,hs⟩;obtain⟨Al,cl,rfl,_,_⟩:=hl.form;obtain⟨As,cs,rfl,_,_⟩:=hs.form)
    | (go_at_call 150;refine(HS _ _ _ frc (hl.keep (R':=TagC) (show Fr No w1 (w1.alloc (.cells #[.int .i64 x.at_,.slice Al x.locals.length cl,.slice As x.stack.length cs] 93)) from frc) zN (fun _ _ _ h=>h)) (hs.keep (R':=TagC) (show Fr No w1 (w1.alloc (.cells #[.int .i64 x.at_,.slice Al x.locals.length cl,.slice As x.stack.length cs] 93)) from frc) zN (fun _ _ _ h=>h))).mono ?_;rintro e w3 ⟨rfl,hf3⟩))
   go_end0
   exact⟨rfl,hOk _ frc⟩
theorem znc (K:LkP) (E:LkE K) (n:Nat) (Z:Nat->Prop) (j:Int) (f:Frm) (vl vs:Value) (w:World) (h:LkS K n Z j f vl vs w) (hj:0≤j) (hj2:j<1000) (goes:Bool):
  Calls Tryz.prog 106 #[.pointer (some ⟨K.kb,0,none⟩),.bool goes] w (ze0 K n Z j (zcJ K.p K.k K.m j f goes) w):=by
 have HM:=zm4 K E n Z j f vl vs w h j
 have hV:Hid (zcJ K.p K.k K.m j f goes=match mapF K.m j with|some x=>(if goes&&!zcH K.p K.k f x then none else some ⟨x.locals,x.stack⟩)|none=>if goes then some f else none):=rfl
 have hmem:=fun(x:Mp)=>zm6 (m:=K.m) (j:=j) (x:=x)
 unfold zir at HM
 generalize zcJ K.p K.k K.m j f goes=V at *
 generalize mapF K.m j=o at *
 have HW:=fun W (hW:Fr No w W)=>zdf K n Z j f vl vs W (h.keep E hW) hj hj2
 have hN:=fun W (hW:Fr No w W)=>((h.keep E hW).no).from hW
 obtain⟨_,_,_,_,_,_,_,c10,_,_,_,hkl⟩:=h.cells w (Fr.refl _ _)
 cases o with
 | none=>
  dsimp only at HM
  have hOk:=fun W (hW:Fr No w W)=>LkOk.mk (h.keep E hW) hW.of0
  clear h hmem
  cases goes
  ·obtain rfl:V=none:=hV.out
   clear hV
   go_enter Tryz.func106,Tryz.ntmps106
   go_wp2_with (first
    | (go_at_call 149;refine HM.mono ?_;rintro e w1 ⟨hf1,rfl⟩)
    | (go_at_call 108;refine(HW _ frc).mono ?_;rintro e w3 ⟨rfl,rfl⟩))
   exact⟨rfl,_,rfl,hN _ frc⟩
  ·obtain rfl:V=some f:=hV.out
   clear hV
   go_enter Tryz.func106,Tryz.ntmps106
   go_wp2_with (go_at_call 149;refine HM.mono ?_;rintro e w1 ⟨hf1,rfl⟩)
   first
    | go_end0
    | refine bodyPost_ret (results_none rfl _ _ _) rfl ?_
   exact⟨rfl,hOk _ frc⟩
 | some x=>
  dsimp only at HM
  have hfit:=zm5 E.ok x (hmem x rfl)
  have hV2:Hid (V=if goes&&!zcH K.p K.k f x then none else some ⟨x.locals,x.stack⟩):=hV.out
  have hlc:=E.locals_le
  have hsc:=E.stack_le
  have HS:=fun(ml ms:Value) W (hW:Fr No w W) (hl:Sl K.late W 2 TagC ml x.locals) (hs:Sl K.late W 2 TagC ms x.stack)=>zm7 K E n Z K.late j f vl vs W (h.keep E hW) x ml ms hl hs hfit.1
  generalize zcH K.p K.k f x=S at *
  clear hV hmem
  have hh:=Lib.hid h
  clear h
  go_enter Tryz.func106,Tryz.ntmps106
  have hcase:(goes=true∧S=false)∨((goes&&!S)=false):=by cases goes<;>cases S<;>simp
  rcases hcase with ⟨rfl,rfl⟩|hgs
  ·obtain rfl:V=none:=hV2.out
   clear hV2
   go_wp2_with (first
    | (go_at_call 149;refine HM.mono ?_;rintro e w1 ⟨hf1,ml,ms,rfl,hl,hs⟩;obtain⟨Al,cl,rfl,_,_⟩:=hl.form;obtain⟨As,cs,rfl,_,_⟩:=hs.form)
    | (go_at_call 150;refine(HS _ _ _ frc (hl.keep (R':=TagC) (show Fr No w1 (w1.alloc (.cells #[.int .i64 x.at_,.slice Al x.locals.length cl,.slice As x.stack.length cs] 93)) from frc) zN (fun _ _ _ h=>h)) (hs.keep (R':=TagC) (show Fr No w1 (w1.alloc (.cells #[.int .i64 x.at_,.slice Al x.locals.length cl,.slice As x.stack.length cs] 93)) from frc) zN (fun _ _ _ h=>h))).mono ?_;rintro e w3 ⟨rfl,hf3⟩)
    | (go_at_call 108;refine(HW _ frc).mono ?_;rintro e w4 ⟨rfl,rfl⟩))
   exact⟨rfl,_,rfl,hN _ frc⟩
  ·obtain rfl:V=some ⟨x.locals,x.stack⟩:=hV2.out.trans (by rw[hgs];rfl)
   clear hV2
   have hcase2:goes=false∨(goes=true∧S=true):=by cases goes<;>cases S<;>simp_all
   have hW:=HW
   rcases hcase2 with rfl | ⟨rfl,rfl⟩
   all_goals
    go_wp2_with (first
     | (go_at_call 149;refine HM.mono ?_;rintro e w1 ⟨hf1,ml,ms,rfl,hl,hs⟩;obtain⟨Al,cl,rfl,_,_⟩:=hl.form;obtain⟨As,cs,rfl,_,_⟩:=hs.form)
     | (go_at_call 150;refine(HS _ _ _ frc (hl.keep (R':=TagC) (show Fr No w1 (w1.alloc (.cells #[.int .i64 x.at_,.slice Al x.locals.length cl,.slice As x.stack.length cs] 93)) from frc) zN (fun _ _ _ h=>h)) (hs.keep (R':=TagC) (show Fr No w1 (w1.alloc (.cells #[.int .i64 x.at_,.slice Al x.locals.length cl,.slice As x.stack.length cs] 93)) from frc) zN (fun _ _ _ h=>h))).mono ?_;rintro e w3 ⟨rfl,hf3⟩;have hB3:=(bxc:Bx (w1.alloc (.cells #[.int .i64 x.at_,.slice Al x.locals.length cl,.slice As x.stack.length cs] 93)) w1.heap.size 93 #[.int .i64 x.at_,.slice Al x.locals.length cl,.slice As x.stack.length cs]).keep hf3;have hB3l:=hB3.lt;obtain⟨m0,m1,m2⟩:=hB3.c3))
    refine zdP (fun W=>Fr No w W∧Bx W w1.heap.size 93 #[.int .i64 x.at_,.slice Al x.locals.length cl,.slice As x.stack.length cs]∧Fr No w1 W) ?_ ?_
    ·first
      | exact⟨frc,bxc,frc⟩
      | exact⟨frc,(bxc:Bx (w1.alloc (.cells #[.int .i64 x.at_,.slice Al x.locals.length cl,.slice As x.stack.length cs] 93)) w1.heap.size 93 #[.int .i64 x.at_,.slice Al x.locals.length cl,.slice As x.stack.length cs]).keep hf3,frc⟩
    rintro Wc ⟨hWc,hBx,hw1⟩
    refine(zna K.late _ x.locals Wc (hl.k0 hw1) (by omega)).mono ?_
    rintro e w5 ⟨v1,rfl,ht1,hq1,hf5⟩
    obtain⟨Av1,cv1,rfl,_,_⟩:=ht1.1.form
    have h5:=hh.out.keep E (hWc.trans0 hf5)
    have hwc:=hWc.size
    have han:=hh.out.anchor.size
    have hlt:=fun b hz=>hh.out.lt (b:=b) hz
    obtain⟨Z1,hS1,hz1,hz1',hfz1⟩:=h5.newLoc E ht1 hfit.1 (fun q hq=>⟨by have:=hq1 q hq;omega,fun hz=>by have:=hlt q hz;have:=hq1 q hq;omega⟩) (fun b=>w.heap.size≤b) (fun q hq=>by have:=hq1 q hq;omega)
    obtain⟨_,_,_,_,_,_,_,_,d11,_,df,dl⟩:=h5.cells w5 (Fr.refl _ _)
    have hB5:=hBx.keep hf5
    obtain⟨b0,b1,b2⟩:=hB5.c3
    have bl:=hB5.lt
    have hl1:=hf1.size
    have hs7:=((hs.keep (R':=TagC) (hw1.trans0 hf5) zN (fun _ _ _ h=>h)).keep (R':=TagC) (Fr.one w5 K.kb 11 (.slice Av1 x.locals.length cv1)) (fun b hb=>by subst hb;exact .inr h5.kb) (fun _ _ _ h=>h))
    have hfrm:Fr Z w (w5.setCell ⟨K.kb,11,none⟩ (.slice Av1 x.locals.length cv1)):=(hWc.trans0 hf5).of0.same hfz1
    have hanb:=h5.anchor.size
    replace hS1:=Lib.hid hS1
    clear h5 hBx hB5 HS HM hW hN
    go_wp2_with fail
    refine(zna K.late _ x.stack _ hs7 (by omega)).mono ?_
    rintro e w8 ⟨v2,rfl,ht2,hq2,hf8⟩
    obtain⟨Av2,cv2,rfl,_,_⟩:=ht2.1.form
    have h8:=hS1.out.keep E hf8
    have hlt1:=fun b hz=>hS1.out.lt (b:=b) hz
    obtain⟨Z2,hS2,hz2,hz2',hfz2⟩:=h8.newStk E ht2 hfit.2 (fun q hq=>⟨by have:=hq2 q hq;simp at this;omega,fun hz=>by have:=hlt1 q hz;have:=hq2 q hq;omega⟩) (fun b=>(w5.setCell ⟨K.kb,11,none⟩ (.slice Av1 x.locals.length cv1)).heap.size≤b) (fun q hq=>(hq2 q hq).1)
    have hfin:=LkOk.then hz1 hz1' hfrm ⟨Z2,_,_,hS2,hz2,hz2',hf8.of0.same hfz2⟩
    obtain⟨_,_,_,_,_,_,_,_,_,e12,ef,el⟩:=h8.cells w8 (Fr.refl _ _)
    replace hfin:=Lib.hid hfin
    clear h8 hS2 hs7
    go_wp2
    go_end0
    exact⟨rfl,hfin.out⟩
end Go.Proofs.YthembcdcdnffeaaGreat
