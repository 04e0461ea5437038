/- The program's verifier: any instruction, by its number. -/
import Derived.Test.YthembcdcdnffeaaGreatEG43
import Derived.Laws.EntriesVeiled
set_option maxHeartbeats 8000000
set_option maxRecDepth 100000
namespace Go.Proofs.YthembcdcdnffeaaGreat
open Go.RowKit
def opFn (o:Int):FuncId:=
 if o=1 then 91 else if o=2 then 92 else if o=3 then 93
 else if o=4 then 94 else if o=5 then 95 else if o=6 then 96
 else if o=7 then 97 else if o=8 then 98 else if o=9 then 99
 else if o=10 then 100 else if o=11 then 101 else if o=12 then 102
 else if o=13 then 103 else if o=14 then 104 else 105
def zhY:Array Value:=#[.nilFunc,.func (.func (opFn 1)) #[] #[],.func (.func (opFn 2)) #[] #[],.func (.func (opFn 3)) #[] #[],.func (.func (opFn 4)) #[] #[],.func (.func (opFn 5)) #[] #[],.func (.func (opFn 6)) #[] #[],.func (.func (opFn 7)) #[] #[],.func (.func (opFn 8)) #[] #[],.func (.func (opFn 9)) #[] #[],.func (.func (opFn 10)) #[] #[],.func (.func (opFn 11)) #[] #[],.func (.func (opFn 12)) #[] #[],.func (.func (opFn 13)) #[] #[],.func (.func (opFn 14)) #[] #[],.func (.func (opFn 15)) #[] #[]]
def opF (p:Plan) (k:Int) (m:Mth) (f:Frm) (i:Ins):Option Frm:=(insF p k m f i).bind fun h=>if zcI p k m h i then some h else none
theorem zhZ {i:Ins} (h:insB i=true):i.op=1∨i.op=2∨i.op=3∨i.op=4∨i.op=5∨i.op=6∨i.op=7∨i.op=8∨i.op=9∨i.op=10∨i.op=11∨i.op=12∨i.op=13∨i.op=14∨i.op=15:=by
 unfold insB at h
 split at h
 ·rename_i h1;simp[zft] at h1;omega
 ·split at h
  ·rename_i h1;simp[zfu] at h1;omega
  ·split at h
   ·rename_i h1;simp[zfv] at h1;omega
   ·simp[zfw] at h;omega
theorem ze0.mono {K:LkP} {n m:Nat} {Z:Nat->Prop} {j:Int} {o:Option Frm} {w:World} {e:Ending} {w':World} (h:ze0 K n Z j o w e w') (hm:n≤m):ze0 K m Z j o w e w':=by
 cases o with
 | none=>obtain⟨c,h1,h2⟩:=h;exact⟨c,h1,h2.mono hm⟩
 | some f=>exact⟨h.1,h.2.mono hm⟩
theorem zh0 {K:LkP} {n m:Nat} {Z:Nat->Prop} {j:Int} {R o:Option Frm} {w:World} {g:FuncId} {args:Array Value} (hm:n≤m) (h:Calls Tryz.prog g args w (ze0 K n Z j R w)) (e:o=R):Calls Tryz.prog g args w (ze0 K m Z j o w):=by
 subst e
 exact h.mono fun _ _ h=>h.mono hm
theorem zh1 (K:LkP) (E:LkE K) (n:Nat) (Z:Nat->Prop) (j:Int) (f:Frm) (vl vs:Value) (w:World) (h:LkS K n Z j f vl vs w) (hj:0≤j) (hj2:j<1000) (i:Ins) (h1:i.name.size≤maxLen) (h2:i.member.size≤maxLen) (hn:n<999999) (len:Int) (hi:zfV K.m.locals len i=true) (hop:opsL.contains i.op=true):
  Calls Tryz.prog (opFn i.op) #[.pointer (some ⟨K.kb,0,none⟩),.agg #[.int .i64 i.op,.int .i64 i.a,.string i.name,.string i.member]] w (ze0 K (n+2) Z j (opF K.p K.k K.m f i) w):=by
 unfold zfV at hi
 rw[lz5] at hi
 obtain⟨hb,ha⟩:=hi
 have ho:=zn4 hop
 have hlead:∀{g:Option Frm},insF K.p K.k K.m f i=g->¬(i.op=11∨i.op=12∨i.op=13)->opF K.p K.k K.m f i=g:=fun {g} hg hne=>by
  unfold opF
  rw[hg]
  have:∀h:Frm,zcI K.p K.k K.m h i=true:=fun h=>by unfold zcI;rw[if_neg hne]
  cases g<;>simp[this]
 have hbr:∀{g:Option (List Tag)},insF K.p K.k K.m f i=g.map (⟨f.locals,·⟩)->(i.op=11∨i.op=12∨i.op=13)->opF K.p K.k K.m f i=g.bind fun s=>if brB K ⟨f.locals,s⟩ i.a then some ⟨f.locals,s⟩ else none:=fun {g} hg hne=>by
  unfold opF
  rw[hg]
  cases g with
  | none=>rfl
  | some s=>
   simp only[Option.map_some,Option.bind_some]
   have:zcI K.p K.k K.m ⟨f.locals,s⟩ i=brB K ⟨f.locals,s⟩ i.a:=by unfold zcI brB;rw[if_pos hne];cases mapF K.m i.a<;>rfl
   rw[this]
 have hgo:i.op=13->opF K.p K.k K.m f i=if brB K f i.a then some f else none:=fun ho=>by
  unfold opF
  have e:insF K.p K.k K.m f i=some f:=by unfold insF;simp[ho]
  have:zcI K.p K.k K.m f i=brB K f i.a:=by unfold zcI brB;rw[if_pos (by omega)];cases mapF K.m i.a<;>rfl
  rw[e,Option.bind_some,this]
 have hnum:i.op=2∨i.op=3->0≤i.a∧i.a≤5:=fun h9=>by
  unfold insB at hb
  rcases h9 with h9|h9<;>· simp[zft,zfx,zfy,h9] at hb;omega
 have hloc:i.op=2∨i.op=3->i.a<K.m.locals:=fun h9=>by
  rcases h9 with h9|h9<;>simpa[h9] using ha
 rcases ho with ho|ho|ho|ho|ho|ho|ho|ho|ho|ho|ho|ho|ho|ho|ho
 ·rw[show opFn i.op=91 from by rw[ho];rfl]
  exact zh0 (by omega) (zpR K E n Z j f vl vs w h hj hj2 i h1).1 (hlead (by unfold insF;simp[ho]) (by omega))
 ·rw[show opFn i.op=92 from by rw[ho];rfl]
  exact zh0 (by omega) (zmL K E n Z j f vl vs w h hj hj2 i (by exact(hnum (by omega)).1) (by exact(hloc (by omega)))) (hlead (by unfold insF;simp[ho]) (by omega))
 ·rw[show opFn i.op=93 from by rw[ho];rfl]
  exact zh0 (by omega) (zmN K E n Z j f vl vs w h hj hj2 i (by exact(hnum (by omega)).1) (by exact(hloc (by omega)))) (hlead (by unfold insF;simp[ho]) (by omega))
 ·rw[show opFn i.op=94 from by rw[ho];rfl]
  exact zh0 (by omega) (zev K E n Z j f vl vs w h hj hj2 i h1) (hlead (by unfold insF;simp[ho]) (by omega))
 ·rw[show opFn i.op=95 from by rw[ho];rfl]
  exact zh0 (by omega) (zpR K E n Z j f vl vs w h hj hj2 i h1).2.1 (hlead (by unfold insF;simp[ho]) (by omega))
 ·rw[show opFn i.op=96 from by rw[ho];rfl]
  exact zh0 (by omega) (zpR K E n Z j f vl vs w h hj hj2 i h1).2.2 (hlead (by unfold insF;simp[ho]) (by omega))
 ·rw[show opFn i.op=97 from by rw[ho];rfl]
  exact zh0 (by omega) (zmO K E n Z j f vl vs w h hj hj2 i h1 h2 hn) (hlead (by unfold insF;simp[ho]) (by omega))
 ·rw[show opFn i.op=98 from by rw[ho];rfl]
  exact zh0 (by omega) (zmP K E n Z j f vl vs w h hj hj2 i h1 h2 hn) (hlead (by unfold insF;simp[ho]) (by omega))
 ·rw[show opFn i.op=99 from by rw[ho];rfl]
  exact zh0 (by omega) (zkE K E n Z j f vl vs w h hj hj2 i h1 h2 hn) (hlead (by unfold insF;simp[ho]) (by omega))
 ·rw[show opFn i.op=100 from by rw[ho];rfl]
  exact zh0 (by omega) (zpS K E n Z j f vl vs w h hj hj2 i h1).1 (hlead (by unfold insF;simp[ho]) (by omega))
 ·rw[show opFn i.op=101 from by rw[ho];rfl]
  exact zh0 (by omega) (zeB K E n Z j f vl vs w h hj hj2 i h1) (hbr (by unfold insF;simp[ho]) (by omega))
 ·rw[show opFn i.op=102 from by rw[ho];rfl]
  exact zh0 (by omega) (zeC K E n Z j f vl vs w h hj hj2 i h1) (hbr (by unfold insF;simp[ho]) (by omega))
 ·rw[show opFn i.op=103 from by rw[ho];rfl]
  exact zh0 (by omega) (zeD K E n Z j f vl vs w h hj hj2 i h1) (hgo ho)
 ·rw[show opFn i.op=104 from by rw[ho];rfl]
  exact zh0 (by omega) (zpS K E n Z j f vl vs w h hj hj2 i h1).2 (hlead (by unfold insF;simp[ho]) (by omega))
 ·rw[show opFn i.op=105 from by rw[ho];rfl]
  exact zh0 (by omega) (zeA K E n Z j f vl vs w h hj hj2 i h1) (hlead (by unfold insF;simp[ho]) (by omega))
def zh2 (K:LkP) (n:Nat) (Z:Nat->Prop) (r:List Frm×Int) (w:World) (e:Ending) (w':World):Prop:=
 (r.2=0∧∃v,e=.returned v∧Frms w' (fun q=>w.heap.size≤q) v r.1∧Lg w' K.l K.bl n K.p∧Fr K.late K.w0 w'∧Fr Z w w') ∨
  (r.2≠0∧r.1=[]∧∃c,e=.panicked c∧LkNo K n Z (r.2-1) c w w')
def FrI (K:LkP) (n:Nat) (Z:Nat->Prop) (f:Frm) (wA:World) (j:Nat) (goes:Bool) (kn:Value) (W:World):Prop:=
 ∃(g:Frm) (Z':Nat->Prop) (ul us:Value) (jn:Int) (fs:List Frm),LkS K (n+2 * j) Z' jn g ul us W∧(∀b,Z b->Z' b)∧(∀b,Z' b->Z b∨wA.heap.size≤b)∧Fr Z wA W ∧
  Frms W (fun q=>wA.heap.size≤q∧¬Z' q) kn fs∧fs.length=j∧zcL K.p K.k K.m 0 K.m.code f true []=zcL K.p K.k K.m j (K.m.code.drop j) g goes fs
theorem zh3 {m:Mth} (h:mthB m=true):m.code.length≤16∧∀i∈m.code,zfV m.locals m.code.length i=true:=by
 have h9:=(ze7 h).2.2.2.2.2.2.2.1
 unfold zfW at h9
 simp only[lz5,decide_eq_true_eq,List.all_eq_true] at h9
 exact⟨h9.1.2,h9.2⟩
theorem zh4 {P:Program} {f:FuncId} (h:(P.funcs[f]?).map (fun fn=>(fn.name == "runtime.NumGoroutine",fn.body.isNone))=some (false,false)) (args:Array Value) (W:World):(callFunc f args).run P W=.ok (.enter f args) W:=by
 cases hf:P.funcs[f]? with
 | none=>rw[hf] at h;cases h
 | some fn=>
  rw[hf] at h
  simp only[Option.map_some,Option.some.injEq,Prod.mk.injEq] at h
  have h1:¬fn.name="runtime.NumGoroutine":=by simpa using h.1
  have h2:¬fn.body=none:=fun e=>by rw[e] at h;exact absurd h.2 (by decide)
  simp[callFunc,go_sem,hf,h1,h2]
theorem zh5 {o:Nat} (h:1≤o∧o≤15) (args:Array Value) (W:World):(callFunc (opFn (o:Int)) args).run Tryz.prog W=.ok (.enter (opFn (o:Int)) args) W:=by
 have h15:o=1∨o=2∨o=3∨o=4∨o=5∨o=6∨o=7∨o=8∨o=9∨o=10∨o=11∨o=12∨o=13∨o=14∨o=15:=by omega
 rcases h15 with rfl|rfl|rfl|rfl|rfl|rfl|rfl|rfl|rfl|rfl|rfl|rfl|rfl|rfl|rfl
 ·exact zh4 (by kernel_rfl) args W
 ·exact zh4 (by kernel_rfl) args W
 ·exact zh4 (by kernel_rfl) args W
 ·exact zh4 (by kernel_rfl) args W
 ·exact zh4 (by kernel_rfl) args W
 ·exact zh4 (by kernel_rfl) args W
 ·exact zh4 (by kernel_rfl) args W
 ·exact zh4 (by kernel_rfl) args W
 ·exact zh4 (by kernel_rfl) args W
 ·exact zh4 (by kernel_rfl) args W
 ·exact zh4 (by kernel_rfl) args W
 ·exact zh4 (by kernel_rfl) args W
 ·exact zh4 (by kernel_rfl) args W
 ·exact zh4 (by kernel_rfl) args W
 ·exact zh4 (by kernel_rfl) args W
theorem zh6:101≠tFrm:=by decide
theorem zh7:(Tryz.prog.info? 77).map (fun i=>(i.zero,i.size,i.bytes))=some (some (.agg #[.slice none 0 0,.slice none 0 0]),2,48):=by kernel_rfl
theorem zh8 {xs:List Tag} {base:Nat} {w w':World} {e:Ending} (hb:base≤w.heap.size) (h:zm9 xs w e w'):∃v,e=.returned v∧Fr No w w'∧cloV xs base v w'∧(0<xs.length->w.heap.size≤bk v):=by
 obtain⟨v,rfl,h1,h2,h3⟩:=h
 obtain⟨A,c,rfl,_,_⟩:=h1.1.form
 have h4:cloV xs base (.slice A xs.length c) w':=⟨A,c,rfl,h1,fun q hq=>⟨Nat.le_trans hb (h2 q hq).1,(h2 q hq).2⟩⟩
 exact⟨_,rfl,h3,h4,fun h0=>(h2 _ (zdB h4 h0).1).1⟩
theorem zh9 (K:LkP) (E:LkE K) (n:Nat) (Z:Nat->Prop) (j0:Int) (f:Frm) (vl vs:Value) (w:World) (h:LkS K n Z j0 f vl vs w) (hn:n<999900):
  Calls Tryz.prog 62 #[.pointer (some ⟨K.kb,0,none⟩)] w (zh2 K (n+34) Z (zcL K.p K.k K.m 0 K.m.code f true []) w):=by
 obtain⟨wA,hwA⟩:∃wA,wA=(w.alloc (.cells zhY 151)):=⟨_,rfl⟩
 have hfA:Fr No w wA:=hwA▸frc
 have B0:=(hwA▸bxc:Bx wA w.heap.size 151 zhY)
 have hA:=h.keep E hfA
 obtain⟨_,_,_,_,_,c8,_,_,_,_,_,hkl⟩:=h.cells w (Fr.refl _ _)
 have hcode:=E.code_at h.anchor
 obtain⟨A3,c3,hvm,_,hlen⟩:=hcode.form
 obtain⟨hc16,hins⟩:=zh3 E.ok
 rw[hvm] at hcode c8
 have hwlt:=fun b (hb:Z b)=>h.lt hb
 replace h:=Lib.hid h
 replace hA:=Lib.hid hA
 have hsA:=hfA.size
 have hB0lt:=B0.lt
 obtain⟨R,hR⟩:∃R,R=zcL K.p K.k K.m 0 K.m.code f true []:=⟨_,rfl⟩
 have hI0:FrI K n Z f wA 0 true (.slice none 0 0) wA:=⟨f,Z,vl,vs,j0,[],hA.out,fun _ h=>h,fun _ h=>.inl h,Fr.refl _ _,Frms.nil _ _,rfl,rfl⟩
 rw[<-hR]
 go_enter Tryz.func62,Tryz.ntmps62
 go_wp2_with fail
 refine zaE (fun W=>W=wA) (by rw[hwA];rfl) ?_
 rintro W0 hW0
 rw[hW0]
 clear hW0
 replace hwA:=Lib.hid hwA
 clear c8 hkl
 go_loopw [15,4,5] (fun i kn gs wr=>∃(j:Nat) (goes:Bool),j≤K.m.code.length∧i=.int .i64 j∧gs=.bool goes∧Hid (FrI K n Z f wA j goes kn wr)) (fun i _ _ _=>K.m.code.length-(intOf i).toNat)
 case atStart=>exact⟨0,true,Nat.zero_le _,rfl,rfl,hI0⟩
 case round=>
  clear hI0
  obtain⟨j,goes,hj,rfl,rfl,hI⟩:=hrel
  obtain⟨g,Z',ul,us,jn,fs,hS,hz1,hz2,hf,hFr,hfl,hgo⟩:=hI.out
  clear hI
  rw[<-hR] at hgo
  replace hR:=Lib.hid hR
  obtain⟨Ak,ck,rfl,hkc,hkm⟩:=hFr.form
  have hfl:=Lib.hid hfl
  by_cases hlt:j<K.m.code.length
  ·have hcw:=E.code_at hS.anchor
   rw[hvm] at hcw
   obtain⟨bc,oc,rfl,_,i0,i1,i2,i3,zi1,zi2⟩:=hcw.ins hlt
   have hia:=hins _ (List.getElem_mem hlt)
   have hopi:=E.ops _ (List.getElem_mem hlt)
   rw[List.drop_eq_getElem_cons hlt,zcL] at hgo
   clear hcw hcode hins
   generalize K.m.code[j]=i at *
   obtain⟨_,_,_,_,_,_,_,_,_,_,kf,hkl⟩:=hS.cells wr (Fr.refl _ _)
   obtain⟨hS1,hf1⟩:=hS.at_ E (j:Int)
   obtain⟨w2,hw2⟩:∃w2,w2=(wr.setCell ⟨K.kb,10,none⟩ (.int .i64 (j:Int))).alloc (.cells #[.int .i64 i.op,.int .i64 i.a,.string i.name,.string i.member] 101):=⟨_,rfl⟩
   have hS2:=hw2▸hS1.keep E ((Fr.refl No _).alloc (.cells #[.int .i64 i.op,.int .i64 i.a,.string i.name,.string i.member] 101))
   have BI:Bx w2 wr.heap.size 101 #[.int .i64 i.op,.int .i64 i.a,.string i.name,.string i.member]:=by
    have h9:=(Bx.new (wr.setCell ⟨K.kb,10,none⟩ (.int .i64 (j:Int))) 101 #[.int .i64 i.op,.int .i64 i.a,.string i.name,.string i.member])
    rw[<-hw2,World.size_setCell] at h9
    exact h9
   have hf02:Fr Z' wr w2:=hw2▸hf1.same (((Fr.refl No _).alloc _).of0)
   have HM:=znc K E (n+2 * j) Z' j g ul us w2 hS2 (by omega) (by omega) goes
   clear hS1 hf1
   cases hme:zcJ K.p K.k K.m j g goes with
   | none=>
    rw[hme] at hgo HM
    obtain⟨c,HM⟩:∃c,Calls Tryz.prog 106 #[.pointer (some ⟨K.kb,0,none⟩),.bool goes] w2 (fun e w'=>e=.panicked c∧LkNo K (n+2 * j) Z' j c w2 w'):=⟨zeZ j,HM.mono (by rintro e w' ⟨c,rfl,h⟩;exact⟨by rw[h.1],h.1▸h⟩)⟩
    replace hgo:=Lib.hid hgo
    have hfin:∀w',LkNo K (n+2 * j) Z' j c w2 w'->zh2 K (n+34) Z R w (.panicked c) w':=fun w' h'=>by
     rw[hgo.out]
     refine .inr ⟨by simp only;omega,rfl,c,rfl,?_⟩
     simp only[Int.add_sub_cancel]
     refine LkNo.from hfA ⟨h'.1,h'.2.1,(h'.2.2.1).mono (by omega),?_⟩
     exact hf.trans (hf02.trans h'.2.2.2 (fun _ _ h=>h)) (fun b hb h=>(hz2 b h).resolve_right (by omega))
    clear hme
    replace hfin:=Lib.hid hfin
    go_wp2_with fail
    rw[<-hw2]
    replace hw2:=Lib.hid hw2
    refine HM.mono ?_
    rintro e w3 ⟨rfl,hno⟩
    exact⟨rfl,hfin.out _ hno⟩
   | some g2=>
    rw[hme] at hgo HM
    obtain⟨hgl2,hgs2⟩:True∧True:=⟨trivial,trivial⟩
    replace hgo:=Lib.hid hgo
    clear hme
    go_wp2_with fail
    rw[<-hw2]
    replace hw2:=Lib.hid hw2
    refine HM.mono ?_
    rintro e w3 ⟨rfl,Z2,ul2,us2,hS3,hz3,hz4,hf23⟩
    have hf3:Fr Z wA w3:=hf.trans (hf02.trans hf23 (fun _ _ h=>h)) (fun b hb h=>(hz2 b h).resolve_right (by omega))
    have hFr3:Frms w3 (fun q=>wA.heap.size≤q∧¬Z2 q) (.slice Ak fs.length ck) fs:=hFr.keep (hf02.trans hf23 (fun _ _ h=>h)) (fun b hb _=>hb.2) (fun b hb hlt'=>⟨hb.1,fun h2=>(hz4 b h2).elim hb.2 (fun h9=>by have:=hf02.size;omega)⟩)
    have hsz3:=hf3.size
    have hBIlt:=BI.lt
    have BI3:=BI.keepX hf23 (fun h=>by have:=hS.lt h;omega)
    have B3:=B0.keepX hf3 (fun h=>by have:=hwlt _ h;omega)
    have T3:=hS3.cells
    have hl3:=hS3.loc
    have hs3:=hS3.stk
    have hll:=hS3.ll
    have hsl:=hS3.sl
    have hk6:=E.locals_le
    have hk5:=E.stack_le
    obtain⟨Al,cl,rfl,_,_⟩:=hl3.1.form
    obtain⟨As,cs,rfl,_,_⟩:=hs3.1.form
    have hcl:=fun W (hW:Fr No w3 W)=>zna No _ g2.locals W ((hl3.keep hW (fun _ _ h=>h)).sl (fun _ _ h=>h)) (by omega)
    have hcs:=fun W (hW:Fr No w3 W)=>zna No _ g2.stack W ((hs3.keep hW (fun _ _ h=>h)).sl (fun _ _ h=>h)) (by omega)
    obtain⟨BS,hBS⟩:∃b:Bool,b=decide (0<g2.stack.length):=⟨_,rfl⟩
    have hLpos:0<g2.locals.length:=by omega
    replace hS3:=Lib.hid hS3
    replace hS:=Lib.hid hS
    replace hS2:=Lib.hid hS2
    clear BI B0 hl3 hs3
    go_wp2_with fail
    refine zn0 11 38 [mE (mV (.slice Ak j ck)),mV (.pointer (some ⟨K.kb,0,none⟩)),mV (.pointer (some ⟨K.kb,0,none⟩)),mV (.pointer (some ⟨K.kb,11,none⟩)),mV (.slice Al g2.locals.length cl),mA (true) (cloV g2.locals w3.heap.size) (zdA _ _) (fun hb v W h=>zdC rfl (decide_eq_true hLpos).symm h),mV (.pointer (some ⟨K.kb,0,none⟩)),mV (.pointer (some ⟨K.kb,0,none⟩)),mV (.pointer (some ⟨K.kb,12,none⟩)),mV (.slice As g2.stack.length cs),mA (BS) (cloV g2.stack w3.heap.size) (zdA _ _) (fun hb v W h=>zdC hb hBS h)] (by kernel_rfl) (by kernel_rfl) (by simp) ?_ ?_
    ·refine hc4 ?_ ?_ ?_ ?_ <| hc4 ?_ ?_ ?_ ?_ <| hopC ?_ <| hopC ?_ <| hopC ?_ <| hopZ
     all_goals (intro a' W hW hoff hdep;have hbs:=hW.size;have H4:=hoff 4 rfl;have H0:=hoff 0 rfl)
     ·exact yE rfl ⟨.slice Ak j ck,fun W=>by simp[execOp,Act.eval,H4,go_sem],rfl,rfl⟩
     ·refine nE rfl ?_;simp[execOp,Act.eval,H0,go_sem,zaa];exact fr1 rfl
     ·have D28:_=_:=hdep 1 28 rfl;refine nE rfl ?_;simp[execOp,Act.eval,D28,go_sem,zaa];exact fr1 rfl
     ·have D29:_=_:=hdep 2 29 rfl;refine nE rfl ?_;simp[execOp,Act.eval,D29,go_sem,zaa];exact fr1 rfl
     ·have D30:_=_:=hdep 3 30 rfl;refine nE rfl ?_;clear hoff hdep;simp[execOp,Act.eval,go_sem,zaa, *];exact fr1 rfl
     ·have D31:_=_:=hdep 4 31 rfl;refine nE rfl ?_;simp[Act.eval,D31,go_sem,zaa];exact(hcl _ hW).mono (by intro e w9 h;obtain⟨v,rfl,h3,h4,h5⟩:=zh8 hbs h;exact⟨v,rfl,h3,h4,h5 hLpos⟩)
     ·refine nE rfl ?_;simp[execOp,Act.eval,H0,go_sem,zaa];exact fr1 rfl
     ·have D33:_=_:=hdep 6 33 rfl;refine nE rfl ?_;simp[execOp,Act.eval,D33,go_sem,zaa];exact fr1 rfl
     ·have D34:_=_:=hdep 7 34 rfl;refine nE rfl ?_;simp[execOp,Act.eval,D34,go_sem,zaa];exact fr1 rfl
     ·have D35:_=_:=hdep 8 35 rfl;refine nE rfl ?_;clear hoff hdep;simp[execOp,Act.eval,go_sem,zaa, *];exact fr1 rfl
     ·have D36:_=_:=hdep 9 36 rfl;refine nE rfl ?_;simp[Act.eval,D36,go_sem,zaa];exact(hcs _ hW).mono (by intro e w9 h;obtain⟨v,rfl,h3,h4,h5⟩:=zh8 hbs h;exact⟨v,rfl,h3,h4,fun hb=>h5 (by rw[hb] at hBS;exact of_decide_eq_true hBS.symm)⟩)
    intro vs WR hWR hv hne
    obtain⟨AR5,cR5,e5,htR5,hqR5⟩:=hv 5 (by omega)
    obtain⟨AR10,cR10,e10,htR10,hqR10⟩:=hv 10 (by omega)
    simp only[lz6,List.drop_zero,znO,znL,znK,znR,Nat.zero_add,Nat.reduceAdd,e5,e10]
    simp only[Act.put,lz0,lz1,lz2]
    clear hv
    rw[e5] at htR5 hqR5
    rw[e10] at htR10 hqR10
    have hdis:∀q,zcP (.slice AR5 g2.locals.length cR5)=some q->zcP (.slice AR10 g2.stack.length cR10)=some q->False:=fun q h1 h2=>by
     have hS0:=(hqR10 _ h2).2
     have h9:=hne 5 10 (by omega) (by omega) (by omega) rfl (by show BS=true;rw[hBS];exact decide_eq_true hS0)
     rw[e5,e10] at h9
     have q5:=(zdB (base:=w3.heap.size) ⟨AR5,cR5,rfl,htR5,hqR5⟩ hLpos).1
     have q10:=(zdB (base:=w3.heap.size) ⟨AR10,cR10,rfl,htR10,hqR10⟩ hS0).1
     rw[h1] at q5
     rw[h2] at q10
     exact h9 ((Option.some.inj q5).symm.trans (Option.some.inj q10))
    clear hne e5 e10
    obtain⟨kvs,k1,k2,k3,k4,k5,k6⟩:=hFr3
    have hfl2:=hfl.out
    rw[hfl2] at k1 k6
    have k1R:=(k1.keep0 hWR).keep0 (show Fr No WR (WR.alloc (.cells #[.slice AR5 g2.locals.length cR5,.slice AR10 g2.stack.length cR10] 77)) from frc)
    have hnews:=(bxc:Bx (WR.alloc (.cells #[.slice AR5 g2.locals.length cR5,.slice AR10 g2.stack.length cR10] 77)) WR.heap.size 77 [Value.slice AR5 g2.locals.length cR5,Value.slice AR10 g2.stack.length cR10].toArray).news
    have k1w:=k1
    replace k1:=Lib.hid k1
    replace k3:=Lib.hid k3
    replace k4:=Lib.hid k4
    replace k5:=Lib.hid k5
    replace k6:=Lib.hid k6
    replace hdis:=Lib.hid hdis
    replace hqR5:=Lib.hid hqR5
    replace hqR10:=Lib.hid hqR10
    replace hnews:=Lib.hid hnews
    obtain⟨i0',hi,hz0,hz1',hz2'⟩:=info_parts zh7
    replace hi:=Lib.hid hi
    replace hz0:=Lib.hid hz0
    replace hz1':=Lib.hid hz1'
    replace hz2':=Lib.hid hz2'
    have BIR:=BI3.keep hWR
    go_wp2_with (at_builtin;refine zcS _ rfl _ _ 40 rfl 77 i0' (.agg #[.slice none 0 0,.slice none 0 0]) 2 48 Tryz.underlying40 hi.out hz0.out hz1'.out hz2'.out rfl (by decide) (.slice Ak j ck) j (kvs.flatMap kvC) rfl k1R ⟨WR.heap.size,0,none⟩ 1 1 [Value.slice AR5 g2.locals.length cR5,Value.slice AR10 g2.stack.length cR10] rfl rfl hnews.out (by simp[Value.oneCell']) (by decide) (by unfold maxLen;omega) (by omega) ?_;intro g' cap' w5 hrow hcap hgf hor)
    have hfW:Fr No w3 (WR.alloc (.cells #[.slice AR5 g2.locals.length cR5,.slice AR10 g2.stack.length cR10] 77)):=hWR.trans0 frc
    have hlt2:=fun b (hb:Z2 b)=>hS3.out.lt hb
    have hFr5:Frms w5 (fun q=>wA.heap.size≤q∧¬Z2 q) (.slice (some ⟨g',0,none⟩) (j+1) cap') (fs ++ [g2]):=by
     have hnw:∀b,w3.heap.size≤b->wA.heap.size≤b∧¬Z2 b:=fun b hb=>⟨by omega,fun h=>by have:=hlt2 b h;omega⟩
     refine Frms.snoc (g':=g') (f:=g2) (by rw[hfl2];exact k1.out) k2 k3.out k4.out k5.out (fun q hq=>k6.out q hq) hfW (htR5.keep frc (fun _ _ h=>h)) (htR10.keep frc (fun _ _ h=>h)) (fun q hq=>⟨(hqR5.out q hq).1,hnw q (hqR5.out q hq).1⟩) (fun q hq=>⟨(hqR10.out q hq).1,hnw q (hqR10.out q hq).1⟩) hdis.out ?_ hgf hor ?_ hnw
     ·rw[hfl2];exact hrow
     ·rw[zcQ,if_neg (by omega)]
    have hS5:=(hS3.out.keep E hfW).far E hgf (fun b hb=>⟨by have:=hA.out.anchor.size;have:=(k6.out b hb).1;omega,(k6.out b hb).2⟩)
    have hf5:Fr Z wA w5:=(hf3.trans0 hfW).trans hgf (fun b hb h=>by have:=(k6.out b h).1;omega)
    have BI5:=(BIR.keep frc).keepX hgf (fun h=>(k1.out.ne BI3 zh6.symm h) rfl)
    have B5:=(B3.keep hfW).keepX hgf (fun h=>by have:=(k6.out _ h).1;have:=hB0lt;omega)
    have HO:=fun W (hW:Fr No w5 W)=>zh1 K E (n+2 * j) Z2 j g2 _ _ W (hS5.keep E hW) (by omega) (by omega) i zi1 zi2 (by omega) K.m.code.length hia hopi
    have ho15:=zhZ (by unfold zfV at hia;rw[lz5] at hia;exact hia.1)
    obtain⟨o,hoe⟩:∃o:Nat,i.op=o:=⟨i.op.toNat,by omega⟩
    have hgo2:R=(match opF K.p K.k K.m g2 i with|none=>([],(j:Int)+1)|some h=>zcL K.p K.k K.m (j+1) (K.m.code.drop (j+1)) h (zcK i) (fs ++ [g2])):=by
     rw[hgo.out]
     unfold opF
     cases insF K.p K.k K.m g2 i with
     | none=>rfl
     | some h=>
      simp only[Option.bind_some]
      cases zcI K.p K.k K.m h i<;>rfl
    have hgoes:zcK i=(decide (o≠10)&&decide (o≠13)):=by
     unfold zcK
     rw[hoe]
     congr 1<;>(congr 1;simp;omega)
    rw[hoe] at BI5 HO ho15
    have KI:=BI5.r4
    have KO:∀W,Fr No w5 W->W.cell? ⟨w.heap.size,o,none⟩=some (.func (.func (opFn o)) #[] #[])∧W.frozen? ⟨w.heap.size,o,none⟩=false∧w.heap.size<W.heap.size:=fun W hW=>by
     have B:=B5.keep hW
     have h15:o=1∨o=2∨o=3∨o=4∨o=5∨o=6∨o=7∨o=8∨o=9∨o=10∨o=11∨o=12∨o=13∨o=14∨o=15:=by omega
     rcases h15 with rfl|rfl|rfl|rfl|rfl|rfl|rfl|rfl|rfl|rfl|rfl|rfl|rfl|rfl|rfl
     all_goals exact⟨B.cell _,B.frozen _,B.lt⟩
    have ho16:o<16:=by omega
    have ho15':1≤o∧o≤15:=by omega
    have hwBI:=BI5.lt
    have BIkeep:=fun(W W':World) (hW:Fr No w5 W) (hf:Fr Z2 W W')=>(BI5.keep hW).keepX hf (fun h=>(hz4 _ h).elim (fun h=>by have:=hS.out.lt h;omega) (fun h=>by have:=hBIlt;omega))
    replace BIkeep:=Lib.hid BIkeep
    replace hS5:=Lib.hid hS5
    replace hFr5:=Lib.hid hFr5
    replace hgo2:=Lib.hid hgo2
    replace hgoes:=Lib.hid hgoes
    replace hrow:=Lib.hid hrow
    replace HO:=Lib.hid HO
    clear BI5 BIR BI3 T3 hgo hcl hcs HM k1R k1w hi hz0 hz1' hz2' hnews hdis k1 k3 k4 k5 hqR5 hqR10 htR5 htR10
    cases hop:opF K.p K.k K.m g2 i with
    | none=>
     rw[hop] at HO hgo2
     have hfin:∀W w' c,Fr No w5 W->LkNo K (n+2 * j+2) Z2 j c W w'->zh2 K (n+34) Z R w (.panicked c) w':=fun W w' c hW h'=>by
      rw[hgo2.out]
      refine .inr ⟨by simp only;omega,rfl,c,rfl,?_⟩
      simp only[Int.add_sub_cancel]
      refine LkNo.from hfA ⟨h'.1,h'.2.1,(h'.2.2.1).mono (by omega),?_⟩
      exact(hf5.trans0 hW).trans h'.2.2.2 (fun b hb h=>(hz4 b h).elim (fun h=>(hz2 b h).resolve_right (by omega)) (fun h=>by have:=hf02.size;have:=hf.size;omega))
     replace hfin:=Lib.hid hfin
     clear hop
     refine zn1 6 47 [mV (.pointer (some ⟨wr.heap.size,0,none⟩)),mV (.int .i64 (o:Int)),mV (.pointer (some ⟨w.heap.size,o,none⟩)),mV (.func (.func (opFn o)) #[] #[]),mV (.pointer (some ⟨K.kb,0,none⟩)),mV (.agg #[.int .i64 o,.int .i64 i.a,.string i.name,.string i.member])] (fun c W=>zh2 K (n+34) Z R w (.panicked c) W) (by kernel_rfl) (by kernel_rfl) (by simp) ?_ ?_ ?_
     ·refine hc4 ?_ ?_ ?_ ?_ <| hopC ?_ <| hopC ?_ <| hopZ
      all_goals (intro a' W hW hoff hdep;have hbs:=hW.size;have H7:=hoff 7 rfl;have H3:=hoff 3 rfl;have H0:=hoff 0 rfl;refine nE rfl ?_)
      ·simp[execOp,Act.eval,H7,go_sem,zaa];exact fr1 rfl
      ·have D41:_=_:=hdep 0 41 rfl;clear hoff hdep;simp[execOp,Act.eval,go_sem,zaa, *];exact fr1 rfl
      ·have D42:_=_:=hdep 1 42 rfl;clear hoff hdep;simp[execOp,Act.eval,go_sem,zaa,↓IntWalk.iteOmega, *];exact fr1 rfl
      ·have D43:_=_:=hdep 2 43 rfl;clear hoff hdep;simp[execOp,Act.eval,go_sem,zaa, *];exact fr1 rfl
      ·simp[execOp,Act.eval,H0,go_sem,zaa];exact fr1 rfl
      ·exact gx0
     ·exact fun c a' W hd h=>⟨hd,h⟩
     intro vs WR hWR hv hne
     simp only[lz6,List.drop_zero,znK,znR,Nat.zero_add,Nat.reduceAdd]
     simp only[Act.put,lz0,lz1,lz2]
     clear hv
     clear hne
     have HQ:=HO.out WR hWR
     go_wp2_with fail
     rw[zh5 ho15',Oper.upon_enter]
     refine HQ.mono ?_
     rintro e w7 ⟨c,rfl,hno⟩
     exact .inr ⟨c,rfl,rfl,hfin.out _ _ _ hWR hno⟩
    | some h2=>
     rw[hop] at HO hgo2
     clear hop
     refine zn0 6 47 [mV (.pointer (some ⟨wr.heap.size,0,none⟩)),mV (.int .i64 (o:Int)),mV (.pointer (some ⟨w.heap.size,o,none⟩)),mV (.func (.func (opFn o)) #[] #[]),mV (.pointer (some ⟨K.kb,0,none⟩)),mV (.agg #[.int .i64 o,.int .i64 i.a,.string i.name,.string i.member])] (by kernel_rfl) (by kernel_rfl) (by simp) ?_ ?_
     ·refine hc4 ?_ ?_ ?_ ?_ <| hopC ?_ <| hopC ?_ <| hopZ
      all_goals (intro a' W hW hoff hdep;have hbs:=hW.size;have H7:=hoff 7 rfl;have H3:=hoff 3 rfl;have H0:=hoff 0 rfl;refine nE rfl ?_)
      ·simp[execOp,Act.eval,H7,go_sem,zaa];exact fr1 rfl
      ·have D41:_=_:=hdep 0 41 rfl;clear hoff hdep;simp[execOp,Act.eval,go_sem,zaa, *];exact fr1 rfl
      ·have D42:_=_:=hdep 1 42 rfl;clear hoff hdep;simp[execOp,Act.eval,go_sem,zaa,↓IntWalk.iteOmega, *];exact fr1 rfl
      ·have D43:_=_:=hdep 2 43 rfl;clear hoff hdep;simp[execOp,Act.eval,go_sem,zaa, *];exact fr1 rfl
      ·simp[execOp,Act.eval,H0,go_sem,zaa];exact fr1 rfl
      ·exact gx0
     intro vs WR hWR hv hne
     simp only[lz6,List.drop_zero,znK,znR,Nat.zero_add,Nat.reduceAdd]
     simp only[Act.put,lz0,lz1,lz2]
     clear hv
     clear hne
     have HQ:=HO.out WR hWR
     go_wp2_with fail
     rw[zh5 ho15',Oper.upon_enter]
     refine HQ.mono ?_
     rintro e w7 ⟨rfl,Z3,ul3,us3,hS7,hz5,hz6,hf67⟩
     have hf57:Fr Z2 w5 w7:=hWR.of0.same hf67
     have hf7:Fr Z wA w7:=hf5.trans hf57 (fun b hb h=>(hz4 b h).elim (fun h=>(hz2 b h).resolve_right (by omega)) (fun h=>by have:=hf02.size;have:=hf.size;omega))
     have hFr7:Frms w7 (fun q=>wA.heap.size≤q∧¬Z3 q) (.slice (some ⟨g',0,none⟩) (j+1) cap') (fs ++ [g2]):=(hFr5.out.keep0 hWR).keep hf67 (fun b hb _=>hb.2) (fun b hb hlt'=>⟨hb.1,fun h2=>(hz6 b h2).elim hb.2 (fun h9=>by omega)⟩)
     have B7:=BIkeep.out _ _ hWR hf67
     obtain⟨y0,_,_,_⟩:=B7.c4
     have yf:=fun i=>B7.frozen i
     have yl:=B7.lt
     have hI7:FrI K n Z f wA (j+1) (zcK i) (.slice (some ⟨g',0,none⟩) (j+1) cap') w7:=⟨h2,Z3,ul3,us3,j,fs ++ [g2],hS7.mono (by omega),fun b h=>hz5 b (hz3 b (hz1 b h)),fun b h=>(hz6 b h).elim (fun h=>(hz4 b h).elim (fun h=>hz2 b h) (fun h=>.inr (by have:=hf02.size;have:=hf.size;omega))) (fun h=>.inr (by have:=hf5.size;have:=hWR.size;omega)),hf7,hFr7,by simp[hfl2],by rw[<-hR.out];exact hgo2.out⟩
     rw[hgoes.out] at hI7
     have hadd:IntKind.i64.wrap ((j:Int)+1)=((j+1:Nat):Int):=by rw[IntWalk.i64_in _ (by omega)];simp
     clear B7 hFr7 hS7 HO HQ hR
     by_cases ho10:o=10
     ·subst ho10
      have hI8:Hid (FrI K n Z f wA (j+1) false (.slice (some ⟨g',0,none⟩) (j+1) cap') w7):=hI7
      clear hI7
      go_wp2_with fail
      exact⟨⟨j+1,_,by omega,by simp,rfl,hI8⟩,by simp[intOf];omega⟩
     ·by_cases ho13:o=13
      ·subst ho13
       have hI8:Hid (FrI K n Z f wA (j+1) false (.slice (some ⟨g',0,none⟩) (j+1) cap') w7):=hI7
       clear hI7
       go_wp2_with fail
       exact⟨⟨j+1,_,by omega,by simp,rfl,hI8⟩,by simp[intOf];omega⟩
      ·have hI8:Hid (FrI K n Z f wA (j+1) true (.slice (some ⟨g',0,none⟩) (j+1) cap') w7):=by
        have h9:(decide (o≠10)&&decide (o≠13))=true:=by simp[ho10,ho13]
        rw[h9] at hI7
        exact hI7
       have ho10':¬((o:Int)=10):=by omega
       have ho13':¬((o:Int)=13):=by omega
       have hgg:((o:Int) != 10&&(o:Int) != 13)=true:=by simp;omega
       clear hI7
       go_wp2_with fail
       exact⟨⟨j+1,true,by omega,by simp,rfl,hI8⟩,by simp[intOf];omega⟩
  ·obtain rfl:j=K.m.code.length:=by omega
   rw[List.drop_length,zcL] at hgo
   obtain⟨_,_,_,_,_,_,_,_,_,_,kf,hkl⟩:=hS.cells wr (Fr.refl _ _)
   obtain⟨hS1,hf1⟩:=hS.at_ E (K.m.code.length:Int)
   obtain⟨w2,hw2⟩:∃w2,w2=(wr.setCell ⟨K.kb,10,none⟩ (.int .i64 (K.m.code.length:Int))):=⟨_,rfl⟩
   rw[<-hw2] at hS1 hf1
   have HW:=zdf K _ _ _ _ _ _ w2 hS1 (by omega) (by omega)
   have hno:=hS1.no
   have T2:=hS.cells
   cases goes
   ·have hfin:zh2 K (n+34) Z R w (.returned (.slice Ak fs.length ck)) wr:=by
     rw[hgo]
     refine .inl ⟨rfl,_,rfl,?_,hS.lg.mono (by omega),hS.anchor,hfA.of0.same hf⟩
     exact hFr.keep0 (Fr.refl _ _) |>.keep (X:=No) (Fr.refl _ _) (fun _ _ _ h=>h) (fun b hb _=>by have:=hb.1;omega)
    replace hfin:=Lib.hid hfin
    replace hgo:=Lib.hid hgo
    replace hS:=Lib.hid hS
    replace hS1:=Lib.hid hS1
    replace hw2:=Lib.hid hw2
    go_wp2_with fail
    refine bodyPost_ret (v:=.slice Ak fs.length ck) (by simp[results,Tryz.results62,go_sem]) rfl ?_
    exact hfin.out
   ·have hfin:∀c,LkNo K (n+2 * K.m.code.length) Z' (K.m.code.length:Int) c w2 w2->zh2 K (n+34) Z R w (.panicked c) w2:=fun c h'=>by
     rw[hgo]
     refine .inr ⟨by simp only[if_true];omega,rfl,c,rfl,?_⟩
     simp only[if_true,Int.add_sub_cancel]
     refine LkNo.from hfA ⟨h'.1,h'.2.1,(h'.2.2.1).mono (by omega),?_⟩
     exact hf.trans hf1 (fun b hb h=>(hz2 b h).resolve_right (by omega))
    replace hfin:=Lib.hid hfin
    replace hgo:=Lib.hid hgo
    replace hS:=Lib.hid hS
    replace hS1:=Lib.hid hS1
    replace hno:=Lib.hid hno
    go_wp2_with fail
    rw[<-hw2]
    refine HW.mono ?_
    rintro e w3 ⟨rfl,rfl⟩
    exact⟨rfl,hfin.out _ hno.out⟩
end Go.Proofs.YthembcdcdnffeaaGreat
