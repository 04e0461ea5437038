/- TagOf of both: what is known of a thing of a kind. -/
import Derived.Test.YthembcdcdnffeaaGreatEG25
set_option maxHeartbeats 8000000
set_option maxRecDepth 100000
namespace Go.Proofs.YthembcdcdnffeaaGreat
open Go.RowKit
theorem zkL (k:Knd) (w:World) (hs:k.name.size≤maxLen):
  Calls Tryz.prog 60 #[.agg #[.int .i64 k.kind,.string k.name]] w (Gives (.agg #[.int .i64 (zel k).kind,.string (zel k).name]) w):=by
 obtain⟨wA,hwA⟩:∃wA,wA=((w.alloc (.cells #[.int .i64 k.kind,.string k.name] 56)).alloc (.cells #[.int .i64 0,.string ⟨#[]⟩] 116)):=⟨_,rfl⟩
 have hfA:Fr No w wA:=hwA▸frc
 have B0:=(hwA▸bxc:Bx wA w.heap.size 56 #[.int .i64 k.kind,.string k.name])
 have B1:=(hwA▸bxc:Bx wA (w.heap.size+1) 116 #[.int .i64 0,.string ⟨#[]⟩])
 have HK:=zfn k wA hs
 have hV:Hid (zel k=if kndB k=true then ⟨k.kind,k.name⟩ else noT):=rfl
 generalize zel k=t at *
 generalize kndB k=b at *
 obtain⟨kk,kn⟩:=k
 dsimp only at *
 go_enter Tryz.func60,Tryz.ntmps60
 go_wp2_with fail
 rw[<-hwA]
 replace hwA:=Lib.hid hwA
 refine HK.mono ?_
 rintro e w1 ⟨rfl,hf1⟩
 obtain⟨y0,y1⟩:=(B0.keep hf1).c2
 obtain⟨r0,r1⟩:=(B1.keep hf1).c2
 have rf:=fun o=>(B1.keep hf1).frozen o
 have yl:=(B0.keep hf1).lt
 have rl:=(B1.keep hf1).lt
 clear HK B0 B1
 cases b
 ·have hE:t=noT:=by rw[hV.out];rfl
  clear hV
  subst hE
  go_wp2
  refine bodyPost_ret (v:=.agg #[.int .i64 0,.string ⟨#[]⟩]) (by simp[results,Tryz.results60,go_sem, *]) rfl ?_
  exact .mk rfl frc
 ·have hE:t=⟨kk,kn⟩:=by rw[hV.out];rfl
  clear hV
  subst hE
  go_wp2
  refine bodyPost_ret (v:=.agg #[.int .i64 kk,.string kn]) (by simp[results,Tryz.results60,go_sem, *]) rfl ?_
  exact .mk rfl frc
theorem zkM (k:Knd) (w:World) (hs:k.name.size≤maxLen):
  Calls Tryz.prog 72 #[.agg #[.int .i64 k.kind,.string k.name]] w (Gives (.agg #[.int .i64 (zel k).kind,.string (zel k).name]) w):=by
 obtain⟨wA,hwA⟩:∃wA,wA=((w.alloc (.cells #[.int .i64 k.kind,.string k.name] 56)).alloc (.cells #[.int .i64 0,.string ⟨#[]⟩] 116)):=⟨_,rfl⟩
 have hfA:Fr No w wA:=hwA▸frc
 have B0:=(hwA▸bxc:Bx wA w.heap.size 56 #[.int .i64 k.kind,.string k.name])
 have B1:=(hwA▸bxc:Bx wA (w.heap.size+1) 116 #[.int .i64 0,.string ⟨#[]⟩])
 have HK:=zlw k wA hs
 have hV:Hid (zel k=if kndB k=true then ⟨k.kind,k.name⟩ else noT):=rfl
 generalize zel k=t at *
 generalize kndB k=b at *
 obtain⟨kk,kn⟩:=k
 dsimp only at *
 go_enter Tryz.func72,Tryz.ntmps72
 go_wp2_with fail
 rw[<-hwA]
 replace hwA:=Lib.hid hwA
 refine HK.mono ?_
 rintro e w1 ⟨rfl,hf1⟩
 obtain⟨y0,y1⟩:=(B0.keep hf1).c2
 obtain⟨r0,r1⟩:=(B1.keep hf1).c2
 have rf:=fun o=>(B1.keep hf1).frozen o
 have yl:=(B0.keep hf1).lt
 have rl:=(B1.keep hf1).lt
 clear HK B0 B1
 cases b
 ·have hE:t=noT:=by rw[hV.out];rfl
  clear hV
  subst hE
  go_wp2
  refine bodyPost_ret (v:=.agg #[.int .i64 0,.string ⟨#[]⟩]) (by simp[results,Tryz.results72,go_sem, *]) rfl ?_
  exact .mk rfl frc
 ·have hE:t=⟨kk,kn⟩:=by rw[hV.out];rfl
  clear hV
  subst hE
  go_wp2
  refine bodyPost_ret (v:=.agg #[.int .i64 kk,.string kn]) (by simp[results,Tryz.results72,go_sem, *]) rfl ?_
  exact .mk rfl frc
abbrev tFr:TypeId:=77
theorem zkN:tTag≠tFr:=by decide
theorem zfa.store {vl vs:Value} {o:Option Frm} {n b:Nat} {A1 A2:Option Addr} {n1 n2 c1 c2:Nat} {ok:Bool} {w:World} {cs:Array Value} (hB:Bx w b tFr cs)
  (h:zfa vl vs o n (.returned (.tuple #[.agg #[.slice A1 n1 c1,.slice A2 n2 c2],.bool ok])) w):
  zfa vl vs o n (.returned (.tuple #[.agg #[.slice A1 n1 c1,.slice A2 n2 c2],.bool ok])) ((w.setCell ⟨b,0,none⟩ (.slice A1 n1 c1)).setCell ⟨b,1,none⟩ (.slice A2 n2 c2)):=by
 have hz:Fr (fun x=>x=b) w ((w.setCell ⟨b,0,none⟩ (.slice A1 n1 c1)).setCell ⟨b,1,none⟩ (.slice A2 n2 c2)):=((Fr.refl (fun x=>x=b) w).setCellX (p:=⟨b,0,none⟩) (Eq.refl b) _).setCellX (p:=⟨b,1,none⟩) (Eq.refl b) _
 exact h.keep hz (fun ul us q hq ⟨g,hg⟩ e=>by subst e;exact hg.ne hB zkN hq) rfl
theorem zfa.some' {vl vs:Value} {g:Frm} {n:Nat} {e:Ending} {w:World} (h:zfa vl vs (some g) n e w):∃Al cl As cs,e=.returned (.tuple #[.agg #[.slice Al g.locals.length cl,.slice As g.stack.length cs],.bool true])∧FrmI w (.slice Al g.locals.length cl) (.slice As g.stack.length cs) g∧∀q,rB (.slice Al g.locals.length cl) (.slice As g.stack.length cs) q->rB vl vs q∨n≤q:=h
theorem zfa.form {vl vs:Value} {o:Option Frm} {n:Nat} {e:Ending} {w:World} (h:zfa vl vs o n e w):∃A1 n1 c1 A2 n2 c2 ok,e=.returned (.tuple #[.agg #[.slice A1 n1 c1,.slice A2 n2 c2],.bool ok]):=by
 cases o with
 | none=>obtain⟨A1,n1,c1,A2,n2,c2,h⟩:=h;exact⟨A1,n1,c1,A2,n2,c2,false,h⟩
 | some g=>obtain⟨A1,c1,A2,c2,h,_⟩:=h;exact⟨A1,_,c1,A2,_,c2,true,h⟩
theorem zkO (X Y:Nat->Prop) (p:Plan) (v vl vs:Value) (k0:Nat) (m:Mth) (ms:List Value) (f:Frm) (a b:Tag) (w:World) (hp:lodB p=true) (h:Sl X w 2 (KprC X w) v p.keepers) (hk0:k0<p.keepers.length) (hm:MthC Y w ms m) (h5:m.stack≤5) (hI:FrmI w vl vs f) (hl:f.stack.length≤1000) (ha:a.name.size≤maxLen) (hb:b.name.size≤maxLen):
  Calls Tryz.prog 125 #[.agg #[v],.int .i64 k0,.agg ms.toArray,.agg #[vl,vs],.agg #[.int .i64 a.kind,.string a.name],.agg #[.int .i64 b.kind,.string b.name]] w (FrmN vl vs (((popF p k0 f.stack a).bind fun s=>zcE m.stack s b).map (⟨f.locals,·⟩)) w):=by
 have HP:=fun W (hW:Fr No w W)=>zkJ X p v vl vs k0 f a W hp (h.keep (R':=KprC X W) hW zN (fun _ _ _ h=>h.keep hW zN)) hk0 (hI.keep0 hW) hl ha
 have HS:=fun(vs':Value) (s:List Tag) W (hW:Fr No w W) (hJ:FrmI W vl vs' ⟨f.locals,s⟩)=>zfh Y m ms vl vs' ⟨f.locals,s⟩ b W (hm.keep hW zN) h5 hJ hb
 obtain⟨A,cap,rfl,_,_⟩:=h.form
 obtain⟨va,vc,vm,rfl,_,_,har,hcr,hxr⟩:=hm
 obtain⟨Aa,ca,rfl,_,_⟩:=har.form
 obtain⟨Ac,cc,rfl,_,_⟩:=hcr.form
 obtain⟨Ax,cx,rfl,_,_⟩:=hxr.form
 obtain⟨Al,cl,As,cs,rfl,rfl,_,_,_,_⟩:=hI.form
 clear h har hcr hxr
 obtain⟨wA,hwA⟩:∃wA,wA=((((((w.alloc (.cells #[.slice A p.keepers.length cap] 32)).alloc (.cells #[.string m.name,.slice Aa m.args.length ca,.int .i64 m.ret.kind,.string m.ret.name,.int .i64 m.locals,.int .i64 m.stack,.slice Ac m.code.length cc,.slice Ax m.maps.length cx] 60)).alloc (.cells #[.slice Al f.locals.length cl,.slice As f.stack.length cs] tFr)).alloc (.cells #[.int .i64 a.kind,.string a.name] tTag)).alloc (.cells #[.int .i64 b.kind,.string b.name] tTag)).alloc (.cells #[.slice none 0 0,.slice none 0 0] tFr)):=⟨_,rfl⟩
 have hfA:Fr No w wA:=hwA▸frc
 have hsA:wA.heap.size=w.heap.size+6:=by rw[hwA];simp
 have B1:=(hwA▸bxc:Bx wA (w.heap.size+1) 60 #[.string m.name,.slice Aa m.args.length ca,.int .i64 m.ret.kind,.string m.ret.name,.int .i64 m.locals,.int .i64 m.stack,.slice Ac m.code.length cc,.slice Ax m.maps.length cx])
 have B2:=(hwA▸bxc:Bx wA (w.heap.size+2) tFr #[.slice Al f.locals.length cl,.slice As f.stack.length cs])
 have B4:=(hwA▸bxc:Bx wA (w.heap.size+4) tTag #[.int .i64 b.kind,.string b.name])
 have B5:=(hwA▸bxc:Bx wA (w.heap.size+5) tFr #[.slice none 0 0,.slice none 0 0])
 have HPA:=HP wA hfA
 clear HP
 cases ho:popF p k0 f.stack a with
 | none=>
  rw[ho] at HPA
  simp only[Option.map_none,Option.bind_none] at HPA ⊢
  clear HS ho
  go_enter Tryz.func125,Tryz.ntmps125
  go_wp2_with (go_at_call 75;rw[<-hwA];refine HPA.mono ?_;rintro e w1 ⟨hf1,rfl⟩;replace hwA:=Lib.hid hwA;have C2:=B2.keep hf1;have C5:=B5.keep hf1;obtain⟨d0,d1⟩:=C2.c2;have dl:=C2.lt;obtain⟨e0,e1⟩:=C5.c2;have ef:=(fun i=>C5.frozen i);have el:=C5.lt)
  refine bodyPost_ret (v:=.tuple #[.agg #[.slice Al f.locals.length cl,.slice As f.stack.length cs],.bool false]) (by simp[results,Tryz.results125,go_sem, *]) rfl ?_
  exact⟨frc,_,_,_,_,_,_,rfl⟩
 | some s=>
  rw[ho] at HPA
  simp only[Option.map_some,Option.bind_some] at HPA ⊢
  clear ho
  go_enter Tryz.func125,Tryz.ntmps125
  go_wp2_with (go_at_call 75;rw[<-hwA];refine HPA.mono ?_;rintro e w1 ⟨hf1,As',cs',rfl,hJ,hq⟩;replace hwA:=Lib.hid hwA;have C1:=B1.keep hf1;obtain⟨m0,m1,m2,m3,m4,m5,m6,m7⟩:=C1.c8;have ml:=C1.lt;have C4:=B4.keep hf1;obtain⟨t0,t1⟩:=C4.c2;have tl:=C4.lt)
  have q2:Fr No w1 (w1.alloc (.cells #[.slice Al f.locals.length cl,.slice As' s.length cs'] tFr)):=frc
  refine(HS _ s _ ((hfA.trans0 hf1).trans0 q2) (hJ.keep0 q2)).mono ?_
  rintro e w3 ⟨hf3,_,hres⟩
  have C5:=(B5.keep (hf1.trans0 q2)).keepX hf3 (fun e=>by have:=hq _ e;omega)
  have hF3:Fr No w w3:=((hfA.trans0 hf1).trans0 q2).trans hf3 (fun b hb e=>by have:=hq _ e;omega)
  have hres':=hres.then (vl:=.slice Al f.locals.length cl) (vs:=.slice As f.stack.length cs) (w0:=w) ((hfA.trans0 hf1).trans0 q2).size (fun q h=>h.elim (fun h=>.inl (.inl h)) (fun h=>.inr (by have:=hq q h;omega)))
  obtain⟨A1,n1,c1,A2,n2,c2,ok,rfl⟩:=hres.form
  clear m0 m1 m2 m3 m4 m5 m6 m7 ml t0 t1 tl
  obtain⟨e0,e1⟩:=C5.c2
  have ef:=fun i=>C5.frozen i
  have el:=C5.lt
  replace hres':=Lib.hid hres'
  go_wp2
  refine bodyPost_ret (v:=.tuple #[.agg #[.slice A1 n1 c1,.slice A2 n2 c2],.bool ok]) (by simp[results,Tryz.results125,go_sem, *]) rfl ?_
  exact⟨frc,hres'.out.store C5⟩
def popV (vl:Value) (locs st:List Tag) (base:Nat):Value->World->Prop:=fun v W=>∃As cs,v=.tuple #[.agg #[vl,.slice As st.length cs],.bool true]∧FrmI W vl (.slice As st.length cs) ⟨locs,st⟩∧∀q,zcP (.slice As st.length cs)=some q->base≤q
def popA (vl:Value) (locs st:List Tag) (base:Nat):Value->World->Prop:=fun v W=>∃As cs,v=.agg #[vl,.slice As st.length cs]∧FrmI W vl (.slice As st.length cs) ⟨locs,st⟩∧∀q,zcP (.slice As st.length cs)=some q->base≤q
theorem zkP (vl:Value) (locs st:List Tag) (base:Nat):MonP (popV vl locs st base):=fun _ _ _ ⟨As,cs,h1,h2,h3⟩ hf=>⟨As,cs,h1,h2.keep0 hf,h3⟩
theorem zkQ (vl:Value) (locs st:List Tag) (base:Nat):MonP (popA vl locs st base):=fun _ _ _ ⟨As,cs,h1,h2,h3⟩ hf=>⟨As,cs,h1,h2.keep0 hf,h3⟩
theorem zkR {vl vs:Value} {g:Frm} {base:Nat} {w w':World} {e:Ending} (hb:base≤w.heap.size) (h:PopP vl vs (some g) w e w'):∃v,e=.returned v∧Fr No w w'∧popV vl g.locals g.stack base v w':=by
 obtain⟨h1,As,cs,h2,h3,h4⟩:=h
 exact⟨_,h2,h1,As,cs,rfl,h3,fun q hq=>Nat.le_trans hb (h4 q hq)⟩
theorem zkS {k:Knd} (h:k.name.size≤maxLen):(zel k).name.size≤maxLen:=by
 unfold zel
 split
 ·exact h
 ·exact Nat.zero_le _
theorem zkT {p:Plan} {k:Int} {st:List Tag} {args:List Knd} {j:Nat} (hj:j<args.length):zcF p k st (args.take (j+1)).reverse=match popF p k st (zel args[j]) with
  | none=>none
  | some r=>zcF p k r (args.take j).reverse:=by
 rw[List.take_succ_eq_append_getElem hj,List.reverse_append]
 rfl
theorem zkU {p:Plan} {k:Int} {st r:List Tag} {t:Tag} (h:popF p k st t=some r):r.length≤st.length:=by
 rcases ze2 st with ⟨_,h1⟩ | ⟨ys,x,h0,h1⟩
 ·rw[zkF h1] at h;cases h
 ·rw[zkG h1] at h
  split at h
  ·cases h;rw[h0];simp
  ·cases h
structure zkV (p:Plan) (k0:Nat) (f:Frm) (args:List Knd) (vl vs:Value) (w wA:World) (j:Nat) (st:List Tag) (As:Option Addr) (cs:Nat) (wr:World):Prop where
 own:FrmI wr vl (.slice As st.length cs) ⟨f.locals,st⟩
 box:Bx wr (w.heap.size+1) tFr #[vl,.slice As st.length cs]
 go:zcF p k0 f.stack args.reverse=zcF p k0 st (args.take j).reverse
 blk:∀q,zcP (.slice As st.length cs)=some q->zcP vs=some q∨w.heap.size≤q
 len:st.length≤1000
 fr:Fr (fun b=>b=w.heap.size+1) wA wr
theorem zkW (X Y:Nat->Prop) (p:Plan) (v va vl vs:Value) (k0:Nat) (f:Frm) (args:List Knd) (w:World) (hp:lodB p=true) (h:Sl X w 2 (KprC X w) v p.keepers) (hk0:k0<p.keepers.length) (ha:Sl Y w 2 KndC va args) (hI:FrmI w vl vs f) (hl:f.stack.length≤1000) (hal:args.length≤1000):
  Calls Tryz.prog 124 #[.agg #[v],.int .i64 k0,.agg #[vl,vs],va] w (FrmN vl vs ((zcF p k0 f.stack args.reverse).map (⟨f.locals,·⟩)) w):=by
 have HP:=fun(st:List Tag) (As:Option Addr) (cs:Nat) (t:Tag) W (hW:Fr No w W) (hJ:FrmI W vl (.slice As st.length cs) ⟨f.locals,st⟩) (hl:st.length≤1000) (ht:t.name.size≤maxLen)=>zkJ X p v vl _ k0 ⟨f.locals,st⟩ t W hp (h.keep (R':=KprC X W) hW zN (fun _ _ _ h=>h.keep hW zN)) hk0 hJ hl ht
 obtain⟨A,cap,rfl,_,_⟩:=h.form
 obtain⟨Aa,ca,rfl,_,_⟩:=ha.form
 obtain⟨Al,cl,As,cs,rfl,rfl,_,_,_,_⟩:=hI.form
 clear h
 obtain⟨wA,hwA⟩:∃wA,wA=(((w.alloc (.cells #[.slice A p.keepers.length cap] 32)).alloc (.cells #[.slice Al f.locals.length cl,.slice As f.stack.length cs] tFr)).alloc (.cells #[.slice none 0 0,.slice none 0 0] tFr)):=⟨_,rfl⟩
 have hfA:Fr No w wA:=hwA▸frc
 have hsA:wA.heap.size=w.heap.size+3:=by rw[hwA];simp
 have B0:=(hwA▸bxc:Bx wA w.heap.size 32 #[.slice A p.keepers.length cap])
 have B1:=(hwA▸bxc:Bx wA (w.heap.size+1) tFr #[.slice Al f.locals.length cl,.slice As f.stack.length cs])
 have B2:=(hwA▸bxc:Bx wA (w.heap.size+2) tFr #[.slice none 0 0,.slice none 0 0])
 have hsub:IntKind.i64.wrap ((args.length:Int)-1)=(args.length:Int)-1:=IntWalk.i64_in _ (by omega)
 have hI0:zkV p k0 f args (.slice Al f.locals.length cl) (.slice As f.stack.length cs) w wA args.length f.stack As cs wA:=
  ⟨hI.keep0 hfA,B1,by rw[List.take_of_length_le (Nat.le_refl _)],fun _ h=>.inl h,hl,Fr.refl _ _⟩
 obtain⟨R,hR⟩:∃R,R=zcF p k0 f.stack args.reverse:=⟨_,rfl⟩
 rw[<-hR]
 clear hI hl
 go_enter Tryz.func124,Tryz.ntmps124
 go_wp2_with fail
 refine zaE (fun W=>W=wA) (by rw[hwA]) ?_
 rintro W0 hW0
 rw[hW0]
 clear hW0
 replace hwA:=Lib.hid hwA
 go_loopw [10] (fun i wr=>∃(j:Nat) (st:List Tag) (As':Option Addr) (cs':Nat),j≤args.length∧i=.int .i64 ((j:Int)-1)∧Hid (zkV p k0 f args (.slice Al f.locals.length cl) (.slice As f.stack.length cs) w wA j st As' cs' wr)) (fun i _=>(intOf i+1).toNat)
 case atStart=>exact⟨args.length,f.stack,As,cs,Nat.le_refl _,rfl,hI0⟩
 case round=>
  clear hI0
  obtain⟨j,st,As',cs',hj,rfl,hM⟩:=hrel
  obtain⟨hJ,C1,hgo,hblk,hst,hfr⟩:=hM.out
  rw[<-hR] at hgo
  have hF:Fr No w wr:=hfA.trans hfr (fun b hb e=>by omega)
  have hsz:=hfr.size
  have C0:=B0.keepX hfr (by omega)
  have C2:=B2.keepX hfr (by omega)
  rcases j with _|j
  ·obtain⟨d0,d1⟩:=C1.c2
   have dl:=C1.lt
   obtain⟨e0,e1⟩:=C2.c2
   have ef:=fun i=>C2.frozen i
   have el:=C2.lt
   have hR2:R=some st:=hgo.trans (by simp[zcF])
   clear hR hgo hM
   go_wp2
   refine bodyPost_ret (v:=.tuple #[.agg #[.slice Al f.locals.length cl,.slice As' st.length cs'],.bool true]) (by simp[results,Tryz.results124,go_sem, *]) rfl ?_
   rw[hR2]
   have h0:zfa (.slice Al f.locals.length cl) (.slice As f.stack.length cs) (some ⟨f.locals,st⟩) w.heap.size (.returned (.tuple #[.agg #[.slice Al f.locals.length cl,.slice As' st.length cs'],.bool true])) wr:=⟨_,_,_,_,rfl,hJ,fun q h=>h.elim (fun h=>.inl (.inl h)) (fun h=>(hblk q h).imp .inr id)⟩
   exact⟨frc,h0.store C2⟩
  ·have hlt:j<args.length:=by omega
   obtain⟨b,off,rfl,_,c0,c1,z⟩:=(ha.k0 hF).knd hlt
   rw[zkT hlt] at hgo
   have e1:((j+1:Nat):Int)-1=(j:Int):=by omega
   rw[e1]
   have HT:=fun W=>zkM args[j] W z
   have hts:=zkS z
   have HPr:=fun W (hW:Fr No wr W)=>HP st As' cs' (zel args[j]) W (hF.trans0 hW) (hJ.keep0 hW) hst hts
   clear HP ha z e1 hts
   generalize args[j]=kd at *
   generalize hto:zel kd=tg at *
   clear hto
   have KA:=C0.r1
   have KF:=C1.r2
   have KX0:=cr c0
   have KX1:=cr c1
   have hbl:=lt_of_cell c0
   cases ho:popF p k0 st tg with
   | none=>
    simp only[ho,Option.map_none] at hgo HPr
    subst hgo
    clear ho hM
    go_wp2_with fail
    refine zn0 13 32 [mV (.agg #[.slice A p.keepers.length cap]),mV (.int .i64 k0),mV (.agg #[.slice Al f.locals.length cl,.slice As' st.length cs']),mV (.slice (some ⟨b,off,none⟩) args.length ca),mV (.int .i64 j),mV (.pointer (some ⟨b,off+j * 2,none⟩)),mV (.agg #[.int .i64 kd.kind,.string kd.name]),mV (.agg #[.int .i64 tg.kind,.string tg.name]),mV (.tuple #[.agg #[.slice Al f.locals.length cl,.slice As' st.length cs'],.bool false]),mV (.tuple #[.agg #[.slice Al f.locals.length cl,.slice As' st.length cs'],.bool false]),mV (.agg #[.slice Al f.locals.length cl,.slice As' st.length cs']),mE (mV (.bool false)),mB 77 (#[.slice none 0 0,.slice none 0 0]) wr.heap.size] (by kernel_rfl) (by kernel_rfl) (by simp) ?_ ?_
    ·refine hc4 ?_ ?_ ?_ ?_ <| hc4 ?_ ?_ ?_ ?_ <| hc4 ?_ ?_ ?_ ?_ <| hopC ?_ <| hopZ
     all_goals (intro a' W hW hoff hdep;have hbs:=hW.size;have H4:=hoff 4 rfl;have H1:=hoff 1 rfl;have H6:=hoff 6 rfl;have H3:=hoff 3 rfl;have H10:=hoff 10 rfl)
     ·exact nE rfl gx0
     ·refine nE rfl ?_;simp[execOp,Act.eval,H1,go_sem,zaa];exact fr1 rfl
     ·exact nE rfl gx0
     ·refine nE rfl ?_;simp[execOp,Act.eval,H3,go_sem,zaa];exact fr1 rfl
     ·refine nE rfl ?_;simp[execOp,Act.eval,H10,go_sem,zaa];exact fr1 rfl
     ·have D24:_=_:=hdep 3 24 rfl;have D25:_=_:=hdep 4 25 rfl;refine nE rfl ?_;clear hoff hdep;simp[execOp,Act.eval,go_sem,zaa, *];exact fr1 rfl
     ·have D26:_=_:=hdep 5 26 rfl;refine nE rfl ?_;clear hoff hdep;simp[execOp,Act.eval,go_sem,zaa, *];exact fr1 rfl
     ·have D27:_=_:=hdep 6 27 rfl;refine nE rfl ?_;simp[Act.eval,D27,go_sem,zaa];exact(HT W).mono fun e w'' h=>⟨_,h.1,h.2,rfl⟩
     ·have D21:_=_:=hdep 0 21 rfl;have D22:_=_:=hdep 1 22 rfl;have D23:_=_:=hdep 2 23 rfl;have D28:_=_:=hdep 7 28 rfl;refine nE rfl ?_;simp[Act.eval,D21,D22,D23,D28,go_sem,zaa];exact(HPr _ hW).mono fun e w'' h=>⟨_,h.2,h.1,rfl⟩
     ·have D29:_=_:=hdep 8 29 rfl;refine nE rfl ?_;simp[execOp,Act.eval,D29,go_sem,zaa];exact fr1 rfl
     ·have D20:_=_:=hdep 9 20 rfl;refine nE rfl ?_;simp[execOp,Act.eval,D20,go_sem,zaa];exact fr1 rfl
     ·have D20:_=_:=hdep 9 20 rfl;exact yE rfl ⟨.bool false,fun W=>by simp[execOp,Act.eval,D20,go_sem],rfl,rfl⟩
     ·refine nE rfl ?_;simp[execOp,go_sem,zaa];exact⟨(Fr.refl _ _).alloc _,⟨_,rfl,Bx.new_ rfl,hbs⟩,Nat.le_refl _⟩
    intro vs WR hWR hv hne
    obtain⟨b12,e12,hb12,hl12⟩:=hv 12 (by omega)
    simp only[lz6,List.drop_zero,znP,znL,znK,znR,Nat.zero_add,Nat.reduceAdd,e12]
    simp only[Act.put,lz0,lz1,lz2]
    clear e12 hv
    obtain⟨g0,g1⟩:=hb12.c2
    have gf:=fun i=>hb12.frozen i
    have gl:=hb12.lt
    obtain⟨d0,d1⟩:=(C1.keep hWR).c2
    have dl:=(C1.keep hWR).lt
    obtain⟨e0,e1⟩:=(C2.keep hWR).c2
    have ef:=fun i=>(C2.keep hWR).frozen i
    have el:=(C2.keep hWR).lt
    clear KA KF KX0 KX1 HT HPr C0
    go_wp2
    refine bodyPost_ret (v:=.tuple #[.agg #[.slice Al f.locals.length cl,.slice As' st.length cs'],.bool false]) (by simp[results,Tryz.results124,go_sem, *]) rfl ?_
    exact⟨frc,_,_,_,_,_,_,rfl⟩
   | some r=>
    have hrl:=zkU ho
    simp only[ho,Option.map_some] at hgo HPr
    clear ho hM
    replace hgo:=Lib.hid hgo
    go_wp2_with fail
    refine zn0 13 32 [mV (.agg #[.slice A p.keepers.length cap]),mV (.int .i64 k0),mV (.agg #[.slice Al f.locals.length cl,.slice As' st.length cs']),mV (.slice (some ⟨b,off,none⟩) args.length ca),mV (.int .i64 j),mV (.pointer (some ⟨b,off+j * 2,none⟩)),mV (.agg #[.int .i64 kd.kind,.string kd.name]),mV (.agg #[.int .i64 tg.kind,.string tg.name]),mC (popV (.slice Al f.locals.length cl) f.locals r wr.heap.size) (zkP _ _ _ _),mC (popV (.slice Al f.locals.length cl) f.locals r wr.heap.size) (zkP _ _ _ _),mC (popA (.slice Al f.locals.length cl) f.locals r wr.heap.size) (zkQ _ _ _ _),mE (mV (.bool true)),mB 77 (#[.slice none 0 0,.slice none 0 0]) wr.heap.size] (by kernel_rfl) (by kernel_rfl) (by simp) ?_ ?_
    ·refine hc4 ?_ ?_ ?_ ?_ <| hc4 ?_ ?_ ?_ ?_ <| hc4 ?_ ?_ ?_ ?_ <| hopC ?_ <| hopZ
     all_goals (intro a' W hW hoff hdep;have hbs:=hW.size;have H4:=hoff 4 rfl;have H1:=hoff 1 rfl;have H6:=hoff 6 rfl;have H3:=hoff 3 rfl;have H10:=hoff 10 rfl)
     ·exact nE rfl gx0
     ·refine nE rfl ?_;simp[execOp,Act.eval,H1,go_sem,zaa];exact fr1 rfl
     ·exact nE rfl gx0
     ·refine nE rfl ?_;simp[execOp,Act.eval,H3,go_sem,zaa];exact fr1 rfl
     ·refine nE rfl ?_;simp[execOp,Act.eval,H10,go_sem,zaa];exact fr1 rfl
     ·have D24:_=_:=hdep 3 24 rfl;have D25:_=_:=hdep 4 25 rfl;refine nE rfl ?_;clear hoff hdep;simp[execOp,Act.eval,go_sem,zaa, *];exact fr1 rfl
     ·have D26:_=_:=hdep 5 26 rfl;refine nE rfl ?_;clear hoff hdep;simp[execOp,Act.eval,go_sem,zaa, *];exact fr1 rfl
     ·have D27:_=_:=hdep 6 27 rfl;refine nE rfl ?_;simp[Act.eval,D27,go_sem,zaa];exact(HT W).mono fun e w'' h=>⟨_,h.1,h.2,rfl⟩
     ·have D21:_=_:=hdep 0 21 rfl;have D22:_=_:=hdep 1 22 rfl;have D23:_=_:=hdep 2 23 rfl;have D28:_=_:=hdep 7 28 rfl;refine nE rfl ?_;simp[Act.eval,D21,D22,D23,D28,go_sem,zaa];exact(HPr _ hW).mono fun e w'' h=>zkR hbs h
     ·obtain⟨As9,cs9,D29,hI9,hq9⟩:(popV (.slice Al f.locals.length cl) f.locals r wr.heap.size) _ W:=hdep 8 29 rfl;refine nE rfl ?_;simp[execOp,Act.eval,D29,go_sem,zaa];exact⟨Fr.refl _ _,_,_,rfl,hI9,hq9⟩
     ·obtain⟨As9,cs9,D20,hI9,hq9⟩:(popV (.slice Al f.locals.length cl) f.locals r wr.heap.size) _ W:=hdep 9 20 rfl;refine nE rfl ?_;simp[execOp,Act.eval,D20,go_sem,zaa];exact⟨Fr.refl _ _,_,_,rfl,hI9,hq9⟩
     ·obtain⟨As9,cs9,D20,hI9,hq9⟩:(popV (.slice Al f.locals.length cl) f.locals r wr.heap.size) _ W:=hdep 9 20 rfl;exact yE rfl ⟨.bool true,fun W=>by simp[execOp,Act.eval,D20,go_sem],rfl,rfl⟩
     ·refine nE rfl ?_;simp[execOp,go_sem,zaa];exact⟨(Fr.refl _ _).alloc _,⟨_,rfl,Bx.new_ rfl,hbs⟩,Nat.le_refl _⟩
    intro vs WR hWR hv hne
    obtain⟨As9R8,cs9R8,e8,hI9R8,hq9R8⟩:=hv 8 (by omega)
    obtain⟨As9R9,cs9R9,e9,hI9R9,hq9R9⟩:=hv 9 (by omega)
    obtain⟨As9R10,cs9R10,e10,hI9R10,hq9R10⟩:=hv 10 (by omega)
    obtain⟨b12,e12,hb12,hl12⟩:=hv 12 (by omega)
    simp only[lz6,List.drop_zero,znP,znM,znL,znK,znR,Nat.zero_add,Nat.reduceAdd,e8,e9,e10,e12]
    simp only[Act.put,lz0,lz1,lz2]
    clear e8 e9 e10 e12 hv
    obtain⟨g0,g1⟩:=hb12.c2
    have gf:=fun i=>hb12.frozen i
    have gl:=hb12.lt
    have C1':=C1.keep hWR
    obtain⟨d0,d1⟩:=C1'.c2
    have df:=fun i=>C1'.frozen i
    have dl:=C1'.lt
    have C1l:=C1.lt
    clear KA KF KX0 KX1 HT HPr C0
    go_wp2
    go_roundw
    case rel=>
     have hz:Fr (fun x=>x=b12∨x=w.heap.size+1) WR _:=(((((Fr.refl _ WR).setCellX (p:=⟨b12,0,none⟩) (.inl rfl) (.slice Al f.locals.length cl)).setCellX (p:=⟨b12,1,none⟩) (.inl rfl) (.slice As9R10 r.length cs9R10)).setCellX (p:=⟨w.heap.size+1,0,none⟩) (.inr rfl) (.slice Al f.locals.length cl)).setCellX (p:=⟨w.heap.size+1,1,none⟩) (.inr rfl) (.slice As9R10 r.length cs9R10))
     have hne:w.heap.size+1≠b12:=by omega
     have hBB:=Bx.setc (i:=1) (u:=.slice As9R10 r.length cs9R10) (cs':=#[.slice Al f.locals.length cl,.slice As9R10 r.length cs9R10]) (Bx.setc (i:=0) (u:=.slice Al f.locals.length cl) (cs':=#[.slice Al f.locals.length cl,.slice As' st.length cs']) ((C1'.far (p:=⟨b12,0,none⟩) hne (.slice Al f.locals.length cl)).far (p:=⟨b12,1,none⟩) hne (.slice As9R10 r.length cs9R10)) rfl) rfl
     refine⟨j,r,As9R10,cs9R10,by omega,by go_num,?_⟩
     refine⟨hI9R10.keep hz (fun q hq=>?_),hBB,hR.symm.trans hgo.out,fun q hq=>.inr ?_,by omega,?_⟩
     ·rintro(rfl|rfl)
      ·exact hI9R10.ne hb12 zkN hq
      ·exact hI9R10.ne C1' zkN hq
     ·have:=hq9R10 q hq;omega
     ·exact(hfr.trans0 hWR).trans hz (fun q hq h=>h.elim (fun h=>by omega) id)
    case measure=>simp[intOf]
end Go.Proofs.YthembcdcdnffeaaGreat
