/- What may be turned (a change), as data; the laws' own size, copy and comparison of it. -/
import Derived.Test.YtpghfhjhjlmljaaGreatPG22
import Derived.Test.YtpghfhjhjlmljaaGreatPG23
import Derived.Test.YtpghfhjhjlmljaaGreatPG19
import Derived.Test.YtpghfhjhjlmljaaGreatPG18
import Derived.Deep.Light
set_option maxHeartbeats 4000000
set_option maxRecDepth 100000
namespace Go.Proofs.YtpghfhjhjlmljaaGreat
open Go.RowKit
structure Chg where
 kind:Int
 keeper:Int
 name:Str
 tq:Int
 cls:Cls
def ChgC (X:Nat->Prop) (w:World) (cs:List Value) (c:Chg):Prop:=
 ∃vf vm,cs=[.int .i64 c.kind,.int .i64 c.keeper,.string c.name,.int .i64 c.tq,.string c.cls.name,.string c.cls.super,vf,vm]∧c.name.size≤maxLen∧c.cls.name.size≤maxLen∧c.cls.super.size≤maxLen ∧
  Sl X w 3 FldC vf c.cls.fields∧Sl X w 8 (MthC X w) vm c.cls.methods
section
variable {X Y:Nat->Prop} {w w':World} {cs:List Value}
theorem ChgC.keep {c:Chg} (h:ChgC X w cs c) (hf:Fr Y w w') (hXY:∀b,Y b->X b):ChgC X w' cs c:=by
 obtain⟨vf,vm,rfl,h1,h2,h3,h4,h5⟩:=h
 exact⟨vf,vm,rfl,h1,h2,h3,h4.keep hf hXY (fun _ _ _ h=>h),h5.keep hf hXY (fun _ _ _ h=>h.keep hf hXY)⟩
theorem ChgC.weaken {c:Chg} (h:ChgC X w cs c) (hYX:∀b,Y b->X b):ChgC Y w cs c:=by
 obtain⟨vf,vm,rfl,h1,h2,h3,h4,h5⟩:=h
 exact⟨vf,vm,rfl,h1,h2,h3,h4.weaken hYX (fun _ _ _ h=>h),h5.weaken hYX (fun _ _ _ h=>h.weaken hYX)⟩
end
def zAW (x:Chg):Nat:=x.name.size+zhR x.cls
theorem zAX (X:Nat->Prop) (x:Chg) (cs:List Value) (left:Int) (w:World) (h:ChgC X w cs x) (h0:0≤left) (h1:left≤1048576):
  Calls Tryz.prog 5 #[.agg cs.toArray,.int .i64 left] w (zhz (zAW x) left w):=by
 obtain⟨v_fields,v_methods,rfl,hz0,hz1,hz2,h_fields,h_methods⟩:=h
 have HC:ClsC X w [.string x.cls.name,.string x.cls.super,v_fields,v_methods] x.cls:=⟨_,_,rfl,hz1,hz2,h_fields,h_methods⟩
 have H:=fun W l (h:Fr No w W)=>zhS X x.cls _ l W (HC.keep h zN)
 unfold maxLen at hz0
 obtain⟨A_fields,c_fields,rfl,p_fields,q_fields⟩:=h_fields.form
 obtain⟨A_methods,c_methods,rfl,p_methods,q_methods⟩:=h_methods.form
 clear h_fields h_methods HC
 go_enter Tryz.func5,Tryz.ntmps5
 go_wp2_with (first
  | (go_at_call 16;refine(H _ _ ?_ ?_ ?_).mono ?_;(focus (exact frc));omega;omega;rintro e w0 ⟨n0,rfl,hn0,hf0⟩;have hnb0:n0≤1048576:=(by have:=hn0.out;omega);have hw0:Fr No w w0:=(by exact frc)))
 all_goals go_ret
 all_goals refine zhz.mk _ ?_ (by exact frc)
 all_goals ((try unfold zAW at *);(try unfold Hid at *);omega)
theorem zAY (X Y:Nat->Prop) (x:Chg) (cs cs1:List Value) (w:World) (h:ChgC X w cs x) (h1:ChgC Y w cs1 x):
  Calls Tryz.prog 11 #[.agg cs.toArray,.agg cs1.toArray] w (zgm true w):=by
 obtain⟨v_fields,v_methods,rfl,z0,z1,z2,h_fields,h_methods⟩:=h
 obtain⟨u_fields,u_methods,rfl,_,_,_,g_fields,g_methods⟩:=h1
 have HC:ClsC X w [.string x.cls.name,.string x.cls.super,v_fields,v_methods] x.cls:=⟨_,_,rfl,z1,z2,h_fields,h_methods⟩
 have GC:ClsC Y w [.string x.cls.name,.string x.cls.super,u_fields,u_methods] x.cls:=⟨_,_,rfl,z1,z2,g_fields,g_methods⟩
 have H:=fun W (h:Fr No w W)=>zj0 X Y x.cls _ _ W (HC.keep h zN) (GC.keep h zN)
 obtain⟨A_fields,c_fields,rfl,_,_⟩:=h_fields.form
 obtain⟨B_fields,d_fields,rfl,_,_⟩:=g_fields.form
 obtain⟨A_methods,c_methods,rfl,_,_⟩:=h_methods.form
 obtain⟨B_methods,d_methods,rfl,_,_⟩:=g_methods.form
 clear h_fields g_fields h_methods g_methods HC GC
 go_enter Tryz.func11,Tryz.ntmps11
 go_wp2_with (go_at_call 27;refine(H _ ?_).mono ?_;(focus (exact frc));rintro e w1 ⟨rfl,hf1⟩;have hw1:Fr No w w1:=(by exact frc))
 go_ret
 exact .mk rfl (by exact frc)
theorem eqF0 (A:Option Addr) (n cap:Nat) (w:World) (hn:n≤maxLen):
  Calls Tryz.prog 79 #[.slice A n cap,.slice none 0 0] w (zgl (decide ((n:Int)=0)) w):=by
 unfold maxLen at hn
 by_cases h0:n=0
 ·have hd:Hid (decide ((n:Int)=0)=true):=decide_eq_true (by omega)
  subst h0
  generalize decide (((0:Nat):Int)=0)=d at *
  go_enter Tryz.func79,Tryz.ntmps79
  go_wp2
  go_loop [13] (fun i=>i=.int .i64 0) (fun _=>0)
  case atStart=>rfl
  case round=>
   obtain rfl:=hrel
   go_wp2
   go_ret
   exact .mk hd.out.symm
 ·have hd:Hid (decide ((n:Int)=0)=false):=decide_eq_false (by omega)
  have hq:((n:Int) != 0)=true:=by simp;omega
  generalize decide ((n:Int)=0)=d at *
  go_enter Tryz.func79,Tryz.ntmps79
  go_wp2
  go_ret
  exact .mk hd.out.symm
theorem eqM0 (A:Option Addr) (n cap:Nat) (F:Value) (w:World) (hn:n≤maxLen):
  Calls Tryz.prog 80 #[.slice A n cap,.slice none 0 0,F] w (zgl (decide ((n:Int)=0)) w):=by
 unfold maxLen at hn
 by_cases h0:n=0
 ·have hd:Hid (decide ((n:Int)=0)=true):=decide_eq_true (by omega)
  subst h0
  generalize decide (((0:Nat):Int)=0)=d at *
  go_enter Tryz.func80,Tryz.ntmps80
  go_wp2
  go_loop [17] (fun i=>i=.int .i64 0) (fun _=>0)
  case atStart=>rfl
  case round=>
   obtain rfl:=hrel
   go_wp2
   go_ret
   exact .mk hd.out.symm
 ·have hd:Hid (decide ((n:Int)=0)=false):=decide_eq_false (by omega)
  have hq:((n:Int) != 0)=true:=by simp;omega
  generalize decide ((n:Int)=0)=d at *
  go_enter Tryz.func80,Tryz.ntmps80
  go_wp2
  go_ret
  exact .mk hd.out.symm
theorem zAZ (X:Nat->Prop) (c:Cls) (cs:List Value) (w:World) (h:ClsC X w cs c):
  Calls Tryz.prog 47 #[.agg cs.toArray,.agg #[.string ⟨#[]⟩,.string ⟨#[]⟩,.slice none 0 0,.slice none 0 0]] w (zgm (zAU c) w):=by
 obtain⟨vf,vm,rfl,hn,hsn,hf,hm⟩:=h
 obtain⟨Af,cf,rfl,hcf,hfl⟩:=hf.form
 obtain⟨Am,cm,rfl,hcm,hml⟩:=hm.form
 clear hf hm
 have HF:=fun W=>eqF0 Af c.fields.length cf W hfl
 have HM:=fun W F=>eqM0 Am c.methods.length cm F W hml
 have hb:Hid (zAU c=(c.name.toList.isEmpty&&c.super.toList.isEmpty&&decide ((c.fields.length:Int)=0)&&decide ((c.methods.length:Int)=0))):=rfl
 generalize hnb:zAU c=nb at *
 have hcase:c.name.toList.isEmpty=false∨(c.name.toList.isEmpty=true∧c.super.toList.isEmpty=false)∨(c.name.toList.isEmpty=true∧c.super.toList.isEmpty=true∧decide ((c.fields.length:Int)=0)=false) ∨
   (c.name.toList.isEmpty=true∧c.super.toList.isEmpty=true∧decide ((c.fields.length:Int)=0)=true∧decide ((c.methods.length:Int)=0)=false) ∨
   (c.name.toList.isEmpty=true∧c.super.toList.isEmpty=true∧decide ((c.fields.length:Int)=0)=true∧decide ((c.methods.length:Int)=0)=true):=by
  cases c.name.toList.isEmpty<;>cases c.super.toList.isEmpty<;>cases decide ((c.fields.length:Int)=0)<;>cases decide ((c.methods.length:Int)=0)<;>simp
 clear hnb
 rcases hcase with g1 | ⟨g1,g2⟩ | ⟨g1,g2,g3⟩ | ⟨g1,g2,g3,g4⟩ | ⟨g1,g2,g3,g4⟩
 all_goals
  have hb:Hid (nb=_):=hb
  try rw[g3] at HF
  try rw[g4] at HM
  try have g3:=Lib.hid g3
  try have g4:=Lib.hid g4
  have e1:=Lib.hid g1
  try have e2:=Lib.hid g2
  try(have k1:c.name.toList=[]:=by simpa using g1)
  try(have k2:c.super.toList=[]:=by simpa using g2)
  go_enter Tryz.func47,Tryz.ntmps47
  go_wp2_with (first
   | (go_at_call 79;refine(HF _).mono ?_;rintro e w' ⟨rfl,rfl⟩)
   | (go_at_call 80;refine(HM _ _).mono ?_;rintro e w' ⟨rfl,rfl⟩))
  go_ret
  refine .mk ?_ (by exact frc)
  rw[hb.out]
  first
   | (rw[e1.out,e2.out,g3.out,g4.out];done)
   | (rw[e1.out,e2.out,g3.out,g4.out];rfl)
   | (rw[e1.out,e2.out,g3.out];rfl)
   | (rw[e1.out,e2.out];rfl)
   | (rw[e1.out];rfl)
def chgB (c:Chg):Bool:=
 decide (0≤c.keeper)&&decide (c.keeper≤2)&&namB c.name &&
 (if c.kind=1 then decide (c.tq=0)&&clsB c.cls&&c.cls.name.toList == c.name.toList
  else zAU c.cls&&(if c.kind=3 then decide (0≤c.tq)&&decide (c.tq≤2) else (decide (c.kind=2) || decide (c.kind=4))&&decide (c.tq=0)))
def zA0 (c:Chg) (vf vm:Value):Value:=
 if chgB c then (if c.kind=1 then .iface 92 (.agg #[.string c.cls.name,.string c.cls.super,vf,vm])
  else if c.kind=3 then .iface 94 (.agg #[.string c.name,.int .i64 c.tq])
  else if c.kind=2 then .iface 96 (.agg #[.string c.name])
  else .iface 97 (.agg #[.string c.name]))
 else .nilIface
theorem zA1 (X:Nat->Prop) (c:Chg) (vf vm:Value) (w:World) (h:ChgC X w [.int .i64 c.kind,.int .i64 c.keeper,.string c.name,.int .i64 c.tq,.string c.cls.name,.string c.cls.super,vf,vm] c):
  Calls Tryz.prog 23 #[.agg #[.int .i64 c.kind,.int .i64 c.keeper,.string c.name,.int .i64 c.tq,.string c.cls.name,.string c.cls.super,vf,vm]] w (Gives (zA0 c vf vm) w):=by
 obtain⟨vf',vm',he,hz0,hz1,hz2,hf,hm⟩:=h
 simp only[List.cons.injEq,and_true,true_and] at he
 obtain⟨rfl,rfl⟩:=he
 have hR:ClsC X w [.string c.cls.name,.string c.cls.super,vf,vm] c.cls:=⟨_,_,rfl,hz1,hz2,hf,hm⟩
 obtain⟨Af,cf,rfl,_,_⟩:=hf.form
 obtain⟨Am,cm,rfl,_,_⟩:=hm.form
 clear hf hm
 have HN:=fun W=>zeE c.name W hz0
 have HC:=fun W (h:Fr No w W)=>zeO X c.cls _ W (hR.keep h zN)
 have HS:=fun W (h:Fr No w W)=>zAZ X c.cls _ W (hR.keep h zN)
 clear hR
 have hB:=Bx.new w 44 #[.int .i64 c.kind,.int .i64 c.keeper,.string c.name,.int .i64 c.tq,.string c.cls.name,.string c.cls.super,.slice Af c.cls.fields.length cf,.slice Am c.cls.methods.length cm]
 obtain⟨V,hV⟩:∃V,V=zA0 c (.slice Af c.cls.fields.length cf) (.slice Am c.cls.methods.length cm):=⟨_,rfl⟩
 rw[<-hV]
 unfold zA0 chgB at hV
 obtain⟨kd,kp,nm,tq,cl⟩:=c
 dsimp only at *
 generalize clsB cl=bc at *
 generalize zAU cl=bn at *
 generalize namB nm=bm at *
 replace hV:=Lib.hid hV
 have ht:tq=0∨(tq != 0)=true:=by
  by_cases h:tq=0
  ·exact .inl h
  ·exact .inr (by simpa using h)
 rcases ht with rfl|ht
 all_goals
  go_enter Tryz.func23,Tryz.ntmps23
  go_wp2_with (first
   | (go_at_call 45;refine(HN _).mono ?_;rintro e w' ⟨rfl,rfl⟩)
   | (go_at_call 46;refine(HC _ (by exact frc)).mono ?_;rintro e w1 ⟨rfl,hf1⟩;obtain⟨e0,e1,e2,e3,e4,e5,e6,e7⟩:=(hB.keep hf1).c8;have hl1:=(hB.keep hf1).lt)
   | (go_at_call 47;refine(HS _ (by exact frc)).mono ?_;rintro e w1 ⟨rfl,hf1⟩;obtain⟨e0,e1,e2,e3,e4,e5,e6,e7⟩:=(hB.keep hf1).c8;have hl1:=(hB.keep hf1).lt))
 all_goals refine bodyPost_ret (v:=V) ?_ rfl (.mk rfl (by exact frc))
 all_goals simp[results,Tryz.results23,go_sem]
 all_goals rw[hV.out]
 all_goals clear HN HC HS hB hV
 all_goals go_light
 all_goals try clear e0 e1 e2 e3 e4 e5 e6 e7
 all_goals simp at *
 all_goals (repeat' split)
 all_goals simp_all
 all_goals first|omega|(intro h1 h2;exfalso;subst h2;simp only[Bool.true_eq_false,or_false] at *;omega)
theorem zze (p:Plan) (v:Value) (w:World) (h:Sl No w 2 (KprC No w) v p.keepers):Calls Tryz.prog 24 #[.agg #[v]] w (zgm (lodB p) w):=by
 obtain⟨A,cap,rfl,_,_⟩:=h.form
 have hf1:Fr No w (w.alloc (.cells #[.slice A p.keepers.length cap] 35)):=frc
 have HN:=zgH p _ _ (h.keep (R':=KprC No _) hf1 zN (fun _ _ _ h=>h.keep hf1 zN))
 clear h
 unfold zgG at HN
 go_enter Tryz.func24,Tryz.ntmps24
 go_wp2_with fail
 refine HN.mono ?_
 rintro e w1 ⟨hf2,⟨hb,rfl⟩ | ⟨hb,l,bl,rfl,_⟩⟩
 ·replace hb:=Lib.hid hb
  clear HN
  go_wp2_with fail
  go_ret
  exact .mk hb.out.symm (hf1.trans0 hf2)
 ·replace hb:=Lib.hid hb
  clear HN
  go_wp2_with fail
  go_ret
  exact .mk hb.out.symm (hf1.trans0 hf2)
def zA2 (c:Chg) (k:Kpr):Kpr:=
 if c.kind=1 then ⟨k.owns.filter (kCls c.name) ++ [c.cls],k.asks⟩
 else if c.kind=2 then ⟨k.owns.filter (kCls c.name),k.asks⟩
 else if c.kind=3 then ⟨k.owns,k.asks.filter (kAsk c.name) ++ [⟨c.name,c.tq⟩]⟩
 else ⟨k.owns,k.asks.filter (kAsk c.name)⟩
def zA3 (p:Plan) (c:Chg):Plan:=⟨p.keepers.set c.keeper.toNat (zA2 c (p.keepers.getD c.keeper.toNat ⟨[],[]⟩))⟩
def zA4 (p:Plan) (c:Chg):Bool:=chgB c&&lodB p&&decide (c.keeper<p.keepers.length)&&lodB (zA3 p c)
def zA5 (p:Plan) (c:Chg):List Kpr:=if zA4 p c then (zA3 p c).keepers else []
theorem zA6 {m:Mth} (h:mthB m=true):SmM m:=by
 unfold mthB zfW zf4 at h
 simp only[lz5,decide_eq_true_eq] at h
 have hg:∀(xs:List Mp) (last:Int),zf3 m.code.length m.locals m.stack last xs=true->∀x∈xs,x.locals.length≤1000∧x.stack.length≤1000:=by
  intro xs
  induction xs with
  | nil=>intro _ _ x hx;simp at hx
  | cons y ys ih=>
   intro last hm x hx
   rw[zf3,lz5] at hm
   rcases List.mem_cons.1 hx with rfl|hx
   ·have h1:=hm.1
    unfold zfY at h1
    simp only[lz5,decide_eq_true_eq] at h1
    constructor<;>omega
   ·exact ih _ hm.2 x hx
 exact⟨by omega,by omega,by omega,hg _ _ h.2.2⟩
theorem zA7 {c:Cls} (h:clsB c=true):SmC c:=by
 have hmm:=zg1 h
 unfold clsB at h
 simp only[lz5,decide_eq_true_eq] at h
 exact⟨by omega,by omega,fun m hm=>zA6 (hmm m hm)⟩
theorem zA8 {p:Plan} (h:lodB p=true):p.keepers.length≤1000∧∀k∈p.keepers,SmK k:=by
 unfold lodB at h
 simp only[lz5,List.all_eq_true,decide_eq_true_eq] at h
 refine⟨by omega,fun k hk=>?_⟩
 have h9:=h.2 k hk
 unfold kprB at h9
 simp only[lz5,decide_eq_true_eq] at h9
 exact⟨by omega,by omega,fun c hc=>zA7 (zgW _ _ h9.1.2 c hc)⟩
theorem zA9 {s t:Str} (h:(s.toList == t.toList)=true):kCls s=kCls t:=by
 funext x
 have e:s.toList=t.toList:=by simpa using h
 unfold kCls
 rw[e]
theorem zym {P:Program} {f:FuncId} (h:(P.funcs[f]?).map (fun fn=>(fn.name == "runtime.NumGoroutine",fn.body.isNone))=some (false,false)) (args:Array Value) (W:World):(callFunc f args).run P W=.ok (.enter f args) W:=by
 cases hf:P.funcs[f]? with
 | none=>rw[hf] at h;cases h
 | some fn=>
  rw[hf] at h
  simp only[Option.map_some,Option.some.injEq,Prod.mk.injEq] at h
  have h1:¬fn.name="runtime.NumGoroutine":=by simpa using h.1
  have h2:¬fn.body=none:=fun e=>by rw[e] at h;exact absurd h.2 (by decide)
  simp[callFunc,go_sem,hf,h1,h2]
end Go.Proofs.YtpghfhjhjlmljaaGreat
