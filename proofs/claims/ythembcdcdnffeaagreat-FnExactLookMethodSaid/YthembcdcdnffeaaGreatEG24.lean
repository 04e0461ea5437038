/- What is known ahead of instructions, as a row of frames in memory. -/
import Derived.Test.YthembcdcdnffeaaGreatEG23
import Derived.WalkLawsBesides
set_option maxHeartbeats 4000000
set_option maxRecDepth 100000
namespace Go.Proofs.YthembcdcdnffeaaGreat
open Go.RowKit
abbrev tFrm:TypeId:=77
def kvC (p:Value×Value):List Value:=[p.1,p.2]
def kvB (p:Value×Value):List Nat:=(zcP p.1).toList ++ (zcP p.2).toList
def FrmR (W:World) (p:Value×Value) (f:Frm):Prop:=zcX W tTag p.1 f.locals∧zcX W tTag p.2 f.stack
def Frms (W:World) (Y:Nat->Prop) (v:Value) (fs:List Frm):Prop:=
 ∃kvs:List (Value×Value),RowV W tFrm 2 v fs.length (kvs.flatMap kvC)∧kvs.length=fs.length∧(∀x∈kvs.zip fs,FrmR W x.1 x.2)∧(kvs.flatMap kvB).Nodup∧(∀q∈kvs.flatMap kvB,Y q)∧(∀q,zcP v=some q->Y q)
theorem zdx {p:Value×Value} {q:Nat}:q∈kvB p↔zcP p.1=some q∨zcP p.2=some q:=by
 unfold kvB
 rw[List.mem_append,Option.mem_toList,Option.mem_toList]
section
variable {W W':World} {Y Y' X:Nat->Prop} {v:Value} {fs:List Frm}
theorem FrmR.keep {p:Value×Value} {f:Frm} (h:FrmR W p f) (hf:Fr X W W') (hX:∀q∈kvB p,¬X q):FrmR W' p f:=
 ⟨h.1.keep hf (fun q hq=>hX q (zdx.2 (.inl hq))),h.2.keep hf (fun q hq=>hX q (zdx.2 (.inr hq)))⟩
theorem FrmR.lt {p:Value×Value} {f:Frm} (h:FrmR W p f) {q:Nat} (hq:q∈kvB p):q<W.heap.size:=by
 rcases zdx.1 hq with hq|hq
 ·exact h.1.1.lt hq
 ·exact h.2.1.lt hq
theorem zdy {α β:Type}:∀{xs:List α} {ys:List β} (_:xs.length=ys.length) {x:α} (_:x∈xs),∃y,(x,y)∈xs.zip ys
 | x :: xs,y :: ys,hl,z,hz=>by
  rcases List.mem_cons.1 hz with rfl|hz
  ·exact⟨y,by simp⟩
  ·obtain⟨y',h'⟩:=zdy (xs:=xs) (ys:=ys) (by simpa using hl) hz
   exact⟨y',List.mem_cons_of_mem _ h'⟩
theorem Frms.nil (W:World) (Y:Nat->Prop):Frms W Y (.slice none 0 0) []:=⟨[],RowV.nil _ _ _,rfl,by simp,by simp,by simp,fun q hq=>by cases hq⟩
theorem Frms.lt (_:Frms W Y v fs) {kvs:List (Value×Value)} (hl:kvs.length=fs.length) (hr:∀x∈kvs.zip fs,FrmR W x.1 x.2) {q:Nat} (hq:q∈kvs.flatMap kvB):q<W.heap.size:=by
 obtain⟨p,hp,hq⟩:=List.mem_flatMap.1 hq
 obtain⟨f,hf⟩:=zdy hl hp
 exact(hr _ hf).lt hq
theorem Frms.keep (h:Frms W Y v fs) (hf:Fr X W W') (hX:∀b,Y b->b<W.heap.size->¬X b) (hY:∀b,Y b->b<W.heap.size->Y' b):Frms W' Y' v fs:=by
 obtain⟨kvs,h1,h2,h3,h4,h5,h6⟩:=h
 have hlt:∀q∈kvs.flatMap kvB,q<W.heap.size:=fun q hq=>Frms.lt (Y:=Y) ⟨kvs,h1,h2,h3,h4,h5,h6⟩ h2 h3 hq
 refine⟨kvs,h1.keep hf (fun q hq=>hX q (h6 q hq) (h1.lt hq)),h2,fun x hx=>(h3 x hx).keep hf (fun q hq=>?_),h4,fun q hq=>hY q (h5 q hq) (hlt q hq),fun q hq=>hY q (h6 q hq) (h1.lt hq)⟩
 have hm:q∈kvs.flatMap kvB:=List.mem_flatMap.2 ⟨x.1,(List.of_mem_zip hx).1,hq⟩
 exact hX q (h5 q hm) (hlt q hm)
theorem Frms.keep0 (h:Frms W Y v fs) (hf:Fr No W W'):Frms W' Y v fs:=h.keep hf (fun _ _ _ h=>h) (fun _ h _=>h)
theorem Frms.form (h:Frms W Y v fs):∃A c,v=.slice A fs.length c∧fs.length≤c∧c≤maxLen:=by
 obtain⟨kvs,h1,_⟩:=h
 exact h1.form
theorem RowV.box {e:TypeId} {sz n:Nat} {xs:List Value} (h:RowV W e sz v n xs) {q:Nat} (hq:zcP v=some q):∃cs,Bx W q e cs:=by
 rcases h with ⟨_,⟨rfl,rfl⟩ | ⟨g,cap,cur,rfl,_,hb,_⟩⟩ | ⟨rfl,rfl,A,rfl⟩
 ·cases hq
 ·rw[zcQ] at hq
  split at hq
  ·cases hq
  ·cases hq;exact⟨_,hb⟩
 ·rw[zcQ,if_pos rfl] at hq;cases hq
theorem zdz:tTag≠tFrm:=by decide
theorem Frms.snoc {w W2:World} {kvs:List (Value×Value)} {v1 v2 v':Value} {g':Nat} {f:Frm} (h1:RowV w tFrm 2 v fs.length (kvs.flatMap kvC)) (h2:kvs.length=fs.length) (h3:∀x∈kvs.zip fs,FrmR w x.1 x.2) (h4:(kvs.flatMap kvB).Nodup) (h5:∀q∈kvs.flatMap kvB,Y q) (h6:∀q,zcP v=some q->Y q)
  (hf0:Fr No w W) (hl:zcX W tTag v1 f.locals) (hs:zcX W tTag v2 f.stack) (hb1:∀q,zcP v1=some q->w.heap.size≤q∧Y q) (hb2:∀q,zcP v2=some q->w.heap.size≤q∧Y q) (hne:∀q,zcP v1=some q->zcP v2=some q->False)
  (hrow:RowV W2 tFrm 2 v' (fs.length+1) (kvs.flatMap kvC ++ [v1,v2])) (hf:Fr (fun b=>zcP v=some b) W W2) (hor:zcP v=some g'∨g'=W.heap.size) (hv':zcP v'=some g') (hYn:∀b,w.heap.size≤b->Y b):Frms W2 Y v' (fs ++ [f]):=by
 have hbk:∀{t:Value} {xs:List Tag},zcX W tTag t xs->∀q,zcP t=some q->¬zcP v=some q:=fun ht q hq hv=>by
  obtain⟨cs,hb⟩:=(h1.keep0 hf0).box hv
  exact ht.1.ne hb zdz hq rfl
 have hlt:∀q∈kvs.flatMap kvB,q<w.heap.size:=fun q hq=>Frms.lt (Y:=Y) ⟨kvs,h1,h2,h3,h4,h5,h6⟩ h2 h3 hq
 refine⟨kvs ++ [(v1,v2)],by simpa[kvC] using hrow,by simp[h2],fun x hx=>?_,?_,fun q hq=>?_,fun q hq=>?_⟩
 ·rw[List.zip_append h2,List.mem_append] at hx
  rcases hx with hx|hx
  ·have hr:=(h3 x hx).keep (X:=No) hf0 (fun _ _ h=>h)
   exact hr.keep hf (fun q hq=>by
    rcases zdx.1 hq with h9|h9
    ·exact hbk hr.1 q h9
    ·exact hbk hr.2 q h9)
  ·simp only[List.zip_cons_cons,List.zip_nil_left,List.mem_singleton] at hx
   subst hx
   exact⟨hl.keep hf (hbk hl),hs.keep hf (hbk hs)⟩
 ·rw[List.flatMap_append,List.nodup_append]
  refine⟨h4,?_,fun a ha b hb e=>?_⟩
  ·simp only[List.flatMap_cons,List.flatMap_nil,List.append_nil,kvB]
   cases e1:zcP v1 with
   | none=>cases e2:zcP v2<;>simp
   | some q1=>
    cases e2:zcP v2 with
    | none=>simp
    | some q2=>
     simp only[Option.toList_some,List.cons_append,List.nil_append,List.nodup_cons,List.mem_singleton,List.not_mem_nil,not_false_eq_true,List.nodup_nil,and_true]
     rintro rfl
     exact hne q1 e1 e2
  ·subst e
   have ha':=hlt a ha
   simp only[List.flatMap_cons,List.flatMap_nil,List.append_nil] at hb
   rcases zdx.1 hb with h9|h9
   ·have:=(hb1 a h9).1;omega
   ·have:=(hb2 a h9).1;omega
 ·rw[List.flatMap_append,List.mem_append] at hq
  rcases hq with hq|hq
  ·exact h5 q hq
  ·simp only[List.flatMap_cons,List.flatMap_nil,List.append_nil] at hq
   rcases zdx.1 hq with h9|h9
   ·exact(hb1 q h9).2
   ·exact(hb2 q h9).2
 ·rw[hv'] at hq
  cases hq
  rcases hor with h9|h9
  ·exact h6 _ h9
  ·rw[h9];exact hYn _ hf0.size
end
def cloV (xs:List Tag) (base:Nat):Value->World->Prop:=fun v W=>∃A c,v=.slice A xs.length c∧zcX W tTag v xs∧∀q,zcP v=some q->base≤q∧0<xs.length
theorem zdA (xs:List Tag) (base:Nat):MonP (cloV xs base):=fun _ _ _ ⟨A,c,h1,h2,h3⟩ hf=>⟨A,c,h1,h2.keep hf (fun _ _ h=>h),h3⟩
theorem zdB {xs:List Tag} {base:Nat} {v:Value} {W:World} (h:cloV xs base v W) (h0:0<xs.length):zcP v=some (bk v)∧bk v<W.heap.size:=by
 obtain⟨A,c,h1,h2,h3⟩:=h
 obtain⟨g,c',cur,rfl,_,_,hb,_,_,hq⟩:=h2.1.at_ h0
 exact⟨hq,h2.1.lt hq⟩
theorem zdC {xs:List Tag} {base:Nat} {v:Value} {W:World} {b:Bool} (hb:b=true) (hb2:b=decide (0<xs.length)) (h:cloV xs base v W):bk v<W.heap.size:=(zdB h (by rw[hb] at hb2;simpa using hb2.symm)).2
theorem ze9 {w:World} {ops:Array Oper} {rest:List Oper} {o:Oper} {a:Act} {Q:Exit->Act->World->Prop} (hgd:o.guard=none) (s x:Operand)
  (ho:o.op=.call { callee:=.builtin .append,args:=#[s,x],argTypes:=#[75,75] })
  (A0:Addr) (hs:a.eval s=.slice (some A0) 0 0) (X:Nat->Prop) (v:Value) (xs:List Tag) (hx:a.eval x=v) (h:Sl X w 2 TagC v xs) (hl:xs.length≤1000)
  (k:∀A c w',zcX w' tTag (.slice A xs.length c) xs->(∀q,zcP (.slice A xs.length c)=some q->w.heap.size≤q)->Fr No w w'->wpList Tryz.prog ops Q rest (a.put o.dst (.slice A xs.length c)) w'):wpList Tryz.prog ops Q (o :: rest) a w:=by
 have hsm:=h.small
 obtain⟨i0,hi,hz0,hz1,hz2⟩:=info_parts ze8
 rcases Nat.eq_zero_or_pos xs.length with h0|h0
 ·obtain rfl:=List.eq_nil_of_length_eq_zero h0
  obtain⟨A,cap,rfl,_,_⟩:=h.form
  refine wpList_plain hgd fun K hK=>?_
  have hr:=zcT (P:=Tryz.prog) w 75 o.type 116 i0 Tryz.underlying75 hi (some A0) A cap
  unfold Oper.wp execOp
  simp only[List.length_nil] at hx
  simp only[ho,resolve,invoke,builtin,Sem.run_bind,Sem.run_pure,Result.andThen_ok,List.map_toArray,List.map_cons,List.map_nil,hs,hx,hr]
  exact hK _ _ (k _ _ _ ⟨.inr ⟨rfl,rfl,_,rfl⟩,fun _ h=>absurd h (by simp)⟩ (fun q hq=>by simp only[List.length_nil] at hq;rw[zcQ,if_pos rfl] at hq;cases hq) (Fr.refl _ _))
 ·obtain⟨A,cap,rfl,_,_⟩:=h.form
  obtain⟨b,off,cs,hA,_,_,_⟩:=h.cells h0
  cases hA
  refine zcS w hgd s x 75 ho tTag i0 (.agg #[.int .i64 0,.string ⟨#[]⟩]) 2 24 Tryz.underlying75 hi hz0 hz1 hz2 rfl (by decide) (.slice (some A0) 0 0) 0 [] hs (.inr ⟨rfl,rfl,_,rfl⟩) ⟨b,off,none⟩ xs.length cap (xs.flatMap zcU) hx (zcW xs) h.news (by intro u hu;obtain⟨t,_,ht⟩:=List.mem_flatMap.1 hu;simp only[zcU,List.mem_cons,List.not_mem_nil,or_false] at ht;rcases ht with rfl|rfl<;>rfl) h0 (by unfold maxLen;omega) (by omega) ?_
  intro g' cap' w2 hrow hcap hgf hor
  simp only[Nat.zero_add,List.nil_append] at hrow hcap ⊢
  have hor2:g'=w.heap.size:=by
   rcases hor with h9|h9
   ·rw[zcQ,if_pos rfl] at h9;cases h9
   ·exact h9
  exact k _ _ _ ⟨hrow,hsm⟩ (fun q hq=>by rw[zcQ,if_neg (by omega)] at hq;cases hq;show _≤g';omega) (hgf.mono (fun _ _ e=>by rw[zcQ,if_pos rfl] at e;cases e))
def rB (vl vs:Value) (b:Nat):Prop:=zcP vl=some b∨zcP vs=some b
structure FrmI (w:World) (vl vs:Value) (f:Frm):Prop where
 loc:zcX w tTag vl f.locals
 stk:zcX w tTag vs f.stack
 apart:∀q,zcP vl=some q->¬zcP vs=some q
def zfa (vl vs:Value) (o:Option Frm) (n:Nat) (e:Ending) (w':World):Prop:=match o with
 | some g=>∃Al cl As cs,e=.returned (.tuple #[.agg #[.slice Al g.locals.length cl,.slice As g.stack.length cs],.bool true])∧FrmI w' (.slice Al g.locals.length cl) (.slice As g.stack.length cs) g∧∀q,rB (.slice Al g.locals.length cl) (.slice As g.stack.length cs) q->rB vl vs q∨n≤q
 | none=>∃A1 n1 c1 A2 n2 c2,e=.returned (.tuple #[.agg #[.slice A1 n1 c1,.slice A2 n2 c2],.bool false])
def zfb (vl vs:Value) (o:Option Frm) (w:World) (e:Ending) (w':World):Prop:=Fr (rB vl vs) w w'∧zfa vl vs o w.heap.size e w'
def FrmN (vl vs:Value) (o:Option Frm) (w:World) (e:Ending) (w':World):Prop:=Fr No w w'∧zfa vl vs o w.heap.size e w'
def PopP (vl vs:Value) (o:Option Frm) (w:World) (e:Ending) (w':World):Prop:=Fr No w w'∧match o with
 | some g=>∃As cs,e=.returned (.tuple #[.agg #[vl,.slice As g.stack.length cs],.bool true])∧FrmI w' vl (.slice As g.stack.length cs) g∧∀q,zcP (.slice As g.stack.length cs)=some q->w.heap.size≤q
 | none=>e=.returned (.tuple #[.agg #[vl,vs],.bool false])
section
variable {w w':World} {vl vs:Value} {f:Frm} {X:Nat->Prop}
theorem FrmI.lt (h:FrmI w vl vs f) {q:Nat} (hq:rB vl vs q):q<w.heap.size:=hq.elim (fun h'=>h.loc.1.lt h') (fun h'=>h.stk.1.lt h')
theorem FrmI.keep (h:FrmI w vl vs f) (hf:Fr X w w') (hX:∀q,rB vl vs q->¬X q):FrmI w' vl vs f:=
 ⟨h.loc.keep hf (fun q hq=>hX q (.inl hq)),h.stk.keep hf (fun q hq=>hX q (.inr hq)),h.apart⟩
theorem FrmI.keep0 (h:FrmI w vl vs f) (hf:Fr No w w'):FrmI w' vl vs f:=h.keep hf (fun _ _ h=>h)
theorem FrmI.form (h:FrmI w vl vs f):∃Al cl As cs,vl=.slice Al f.locals.length cl∧vs=.slice As f.stack.length cs∧f.locals.length≤cl∧cl≤maxLen∧f.stack.length≤cs∧cs≤maxLen:=by
 obtain⟨Al,cl,h1,h2,h3⟩:=h.loc.1.form
 obtain⟨As,cs,h4,h5,h6⟩:=h.stk.1.form
 exact⟨Al,cl,As,cs,h1,h4,h2,h3,h5,h6⟩
theorem FrmI.ne (h:FrmI w vl vs f) {b:Nat} {t:TypeId} {cs:Array Value} (hb:Bx w b t cs) (hne:tTag≠t):¬rB vl vs b:=by
 rintro(hq|hq)
 ·exact h.loc.1.ne hb hne hq rfl
 ·exact h.stk.1.ne hb hne hq rfl
theorem FrmN.post {o:Option Frm} {e:Ending} (h:FrmN vl vs o w e w'):zfb vl vs o w e w':=⟨h.1.of0,h.2⟩
theorem PopP.n {o:Option Frm} {e:Ending} (hI:FrmI w vl vs f) (h:PopP vl vs o w e w'):FrmN vl vs o w e w':=by
 obtain⟨h1,h2⟩:=h
 refine⟨h1,?_⟩
 cases o with
 | none=>
  obtain⟨Al,cl,As,cs,rfl,rfl,_⟩:=hI.form
  exact⟨_,_,_,_,_,_,h2⟩
 | some g=>
  obtain⟨As,cs,h3,h4,h5⟩:=h2
  obtain⟨Al,cl,_,_,rfl,_⟩:=h4.form
  exact⟨Al,cl,As,cs,h3,h4,fun q hq=>hq.elim (fun h=>.inl (.inl h)) (fun h=>.inr (h5 q h))⟩
theorem zfa.then {o:Option Frm} {e:Ending} {w0:World} {ul us:Value} (hs:w0.heap.size≤w.heap.size) (hb:∀q,rB ul us q->rB vl vs q∨w0.heap.size≤q) (h:zfa ul us o w.heap.size e w'):zfa vl vs o w0.heap.size e w':=by
 cases o with
 | none=>exact h
 | some g=>
  obtain⟨Al,cl,As,cs,h3,h4,h5⟩:=h
  refine⟨Al,cl,As,cs,h3,h4,fun q hq=>?_⟩
  rcases h5 q hq with h6|h6
  ·exact hb q h6
  ·exact .inr (by omega)
theorem zfb.then {o:Option Frm} {e:Ending} {w0:World} {ul us:Value} (h0:Fr (rB vl vs) w0 w) (hb:∀q,rB ul us q->rB vl vs q∨w0.heap.size≤q) (h:zfb ul us o w e w'):zfb vl vs o w0 e w':=
 ⟨h0.trans h.1 (fun b hb' h'=>(hb b h').resolve_right (by omega)),h.2.then h0.size hb⟩
theorem zfb.from {o:Option Frm} {e:Ending} {w0:World} (hf:Fr No w0 w) (h:zfb vl vs o w e w'):zfb vl vs o w0 e w':=zfb.then hf.of0 (fun _ h=>.inl h) h
theorem FrmN.from {o:Option Frm} {e:Ending} {w0:World} (hf:Fr No w0 w) (h:FrmN vl vs o w e w'):FrmN vl vs o w0 e w':=⟨hf.trans0 h.1,h.2.then hf.size (fun _ h=>.inl h)⟩
theorem zfa.keep {o:Option Frm} {e e':Ending} {n:Nat} {X:Nat->Prop} {W W':World} (h:zfa vl vs o n e W) (hf:Fr X W W') (hX:∀ul us q,rB ul us q->(∃g,FrmI W ul us g)->¬X q) (he:e'=e):zfa vl vs o n e' W':=by
 cases o with
 | none=>
  obtain⟨A1,n1,c1,A2,n2,c2,h1⟩:=h
  exact⟨A1,n1,c1,A2,n2,c2,he.trans h1⟩
 | some g=>
  obtain⟨Al,cl,As,cs,h3,h4,h5⟩:=h
  exact⟨Al,cl,As,cs,he.trans h3,h4.keep hf (fun q hq=>hX _ _ q hq ⟨g,h4⟩),h5⟩
end
def mthV (m:Mth) (va vc vm:Value):Value:=.agg #[.string m.name,va,.int .i64 m.ret.kind,.string m.ret.name,.int .i64 m.locals,.int .i64 m.stack,vc,vm]
theorem zfc (m:Mth) (Aa Ac Ax:Option Addr) (na nc nx ca cc cx:Nat) (Al As:Option Addr) (nl ns cl cs:Nat) (t:Tag) (w:World) (h:m.stack≤(ns:Int)):
  Calls Tryz.prog 127 #[mthV m (.slice Aa na ca) (.slice Ac nc cc) (.slice Ax nx cx),.agg #[.slice Al nl cl,.slice As ns cs],.agg #[.int .i64 t.kind,.string t.name]] w (Gives (.tuple #[.agg #[.slice Al nl cl,.slice As ns cs],.bool false]) w):=by
 unfold mthV
 go_enter Tryz.func127,Tryz.ntmps127
 go_wp2_with fail
 refine bodyPost_ret (v:=.tuple #[.agg #[.slice Al nl cl,.slice As ns cs],.bool false]) (by simp[results,Tryz.results127,go_sem]) rfl ?_
 exact⟨rfl,frx⟩
def zfd (Al As:Option Addr) (nl ns cl cs:Nat) (xs:List Tag) (w:World) (e:Ending) (w':World):Prop:=
 ∃g' cap',e=.returned (.tuple #[.agg #[.slice Al nl cl,.slice (some ⟨g',0,none⟩) (ns+1) cap'],.bool true])∧zcX w' tTag (.slice (some ⟨g',0,none⟩) (ns+1) cap') xs∧(zcP (.slice As ns cs)=some g'∨w.heap.size≤g')∧Fr (fun b=>zcP (.slice As ns cs)=some b) w w'
theorem zfe (m:Mth) (Aa Ac Ax:Option Addr) (na nc nx ca cc cx:Nat) (Al As:Option Addr) (nl cl cs:Nat) (st:List Tag) (t:Tag) (w:World) (h:(st.length:Int)<m.stack) (h5:m.stack≤5) (hs:zcX w tTag (.slice As st.length cs) st) (ht:t.name.size≤maxLen):
  Calls Tryz.prog 127 #[mthV m (.slice Aa na ca) (.slice Ac nc cc) (.slice Ax nx cx),.agg #[.slice Al nl cl,.slice As st.length cs],.agg #[.int .i64 t.kind,.string t.name]] w (zfd Al As nl st.length cl cs (st ++ [t]) w):=by
 unfold mthV
 obtain⟨wA,hwA⟩:∃wA,wA=((((w.alloc (.cells #[.string m.name,.slice Aa na ca,.int .i64 m.ret.kind,.string m.ret.name,.int .i64 m.locals,.int .i64 m.stack,.slice Ac nc cc,.slice Ax nx cx] 60)).alloc (.cells #[.slice Al nl cl,.slice As st.length cs] 77)).alloc (.cells #[.int .i64 t.kind,.string t.name] tTag)).alloc (.cells #[.slice none 0 0,.slice none 0 0] 77)):=⟨_,rfl⟩
 have hfA:Fr No w wA:=hwA▸frc
 have B3:Bx wA w.heap.size 60 #[.string m.name,.slice Aa na ca,.int .i64 m.ret.kind,.string m.ret.name,.int .i64 m.locals,.int .i64 m.stack,.slice Ac nc cc,.slice Ax nx cx]:=hwA▸bxc
 have B4:Bx wA (w.heap.size+1) 77 #[.slice Al nl cl,.slice As st.length cs]:=hwA▸bxc
 have B5:Bx wA (w.heap.size+1+1) tTag #[.int .i64 t.kind,.string t.name]:=hwA▸bxc
 have B6:Bx wA (w.heap.size+1+1+1) 77 #[.slice none 0 0,.slice none 0 0]:=hwA▸bxc
 obtain⟨i0,hi,hz0,hz1,hz2⟩:=info_parts ze8
 have hlt:=fun q (hq:zcP (.slice As st.length cs)=some q)=>hs.1.lt hq
 have hW:Fr No w (wA.alloc (.cells #[.int .i64 t.kind,.string t.name] tTag)):=hfA.trans0 frc
 have hrowR:=hs.1.keep0 hW
 have hsrc:=(bxc:Bx (wA.alloc (.cells #[.int .i64 t.kind,.string t.name] tTag)) wA.heap.size tTag [Value.int .i64 t.kind,Value.string t.name].toArray).news
 have C4:Bx (wA.alloc (.cells #[.int .i64 t.kind,.string t.name] tTag)) (w.heap.size+1) 77 #[.slice Al nl cl,.slice As st.length cs]:=B4.keep frc
 have C6:Bx (wA.alloc (.cells #[.int .i64 t.kind,.string t.name] tTag)) (w.heap.size+1+1+1) 77 #[.slice none 0 0,.slice none 0 0]:=B6.keep frc
 have hsW:=hW.size
 have hsm:=hs.2
 have m4:wA.cell? ⟨w.heap.size,5,none⟩=some (.int .i64 m.stack):=B3.cell 5
 obtain⟨a0,a1⟩:=B4.c2
 obtain⟨t0,t1⟩:=B5.c2
 have l6:=B6.lt
 have hge:¬m.stack≤(st.length:Int):=by omega
 replace hi:=Lib.hid hi
 replace hz0:=Lib.hid hz0
 replace hz1:=Lib.hid hz1
 replace hz2:=Lib.hid hz2
 replace hsrc:=Lib.hid hsrc
 go_enter Tryz.func127,Tryz.ntmps127
 go_wp2_with (at_builtin;rw[<-hwA];refine zcS _ rfl _ _ 75 rfl tTag i0 (.agg #[.int .i64 0,.string ⟨#[]⟩]) 2 24 Tryz.underlying75 hi.out hz0.out hz1.out hz2.out rfl (by decide) (.slice As st.length cs) st.length (st.flatMap zcU) rfl hrowR ⟨wA.heap.size,0,none⟩ 1 1 [Value.int .i64 t.kind,Value.string t.name] (by rw[hwA];simp[Act.eval]) rfl hsrc.out (by simp[Value.oneCell']) (by decide) (by unfold maxLen;omega) (by omega) ?_;intro g' cap' w5 hrow5 hcap hgf hor;have D4:=C4.keepX hgf (fun e=>by have:=hlt _ e;omega);have D6:=C6.keepX hgf (fun e=>by have:=hlt _ e;omega);obtain⟨d0,d1⟩:=D4.c2;obtain⟨f0,f1⟩:=D6.c2;have df:=(fun i=>D4.frozen i);have ff:=(fun i=>D6.frozen i);have dl:=D4.lt;have fl:=D6.lt;replace hwA:=Lib.hid hwA)
 have hg:g'<w.heap.size∨wA.heap.size<g':=by
  rcases hor with h9|h9
  ·exact .inl (hlt _ h9)
  ·right;rw[h9];simp
 have hbk:∀q,zcP (.slice (some ⟨g',0,none⟩) (st.length+1) cap')=some q->q=g':=fun q hq=>by
  rw[zcQ,if_neg (by omega)] at hq
  exact(Option.some.inj hq).symm
 have hf9:Fr (fun b=>b=w.heap.size+1∨b=w.heap.size+1+1+1) w5 (((w5.setCell ⟨w.heap.size+1,1,none⟩ (.slice (some ⟨g',0,none⟩) (st.length+1) cap')).setCell ⟨w.heap.size+1+1+1,0,none⟩ (.slice Al nl cl)).setCell ⟨w.heap.size+1+1+1,1,none⟩ (.slice (some ⟨g',0,none⟩) (st.length+1) cap')):=
  (((Fr.refl _ w5).setCellX (p:=⟨w.heap.size+1,1,none⟩) (.inl rfl) _).setCellX (p:=⟨w.heap.size+1+1+1,0,none⟩) (.inr rfl) _).setCellX (p:=⟨w.heap.size+1+1+1,1,none⟩) (.inr rfl) _
 have hnew:zcX w5 tTag (.slice (some ⟨g',0,none⟩) (st.length+1) cap') (st ++ [t]):=by
  refine⟨?_,fun x hx=>?_⟩
  ·rw[List.length_append,List.flatMap_append]
   simpa[zcU] using hrow5
  ·rcases List.mem_append.1 hx with hx|hx
   ·exact hsm x hx
   ·rw[List.mem_singleton.1 hx];exact ht
 have hfin:zfd Al As nl st.length cl cs (st ++ [t]) w (.returned (.tuple #[.agg #[.slice Al nl cl,.slice (some ⟨g',0,none⟩) (st.length+1) cap'],.bool true])) (((w5.setCell ⟨w.heap.size+1,1,none⟩ (.slice (some ⟨g',0,none⟩) (st.length+1) cap')).setCell ⟨w.heap.size+1+1+1,0,none⟩ (.slice Al nl cl)).setCell ⟨w.heap.size+1+1+1,1,none⟩ (.slice (some ⟨g',0,none⟩) (st.length+1) cap')):=by
  refine⟨g',cap',rfl,hnew.keep hf9 (fun q hq hx=>by have:=hbk q hq;omega),hor.imp id (fun h9=>by rw[h9];exact hsW),?_⟩
  exact(hW.of0.same hgf).trans hf9 (fun b hb hx=>by omega)
 refine bodyPost_ret (v:=.tuple #[.agg #[.slice Al nl cl,.slice (some ⟨g',0,none⟩) (st.length+1) cap'],.bool true]) ?_ rfl hfin
 simp[results,Tryz.results127,go_sem,f0,f1]
theorem zff {most:Int} {st:List Tag} {t:Tag} (h:most≤(st.length:Int)):zcE most st t=none:=by unfold zcE;rw[if_neg (by omega)]
theorem zfg {most:Int} {st:List Tag} {t:Tag} (h:(st.length:Int)<most):zcE most st t=some (st ++ [t]):=by unfold zcE;rw[if_pos h]
theorem zfh (Y:Nat->Prop) (m:Mth) (ms:List Value) (vl vs:Value) (f:Frm) (t:Tag) (w:World) (hm:MthC Y w ms m) (h5:m.stack≤5) (hI:FrmI w vl vs f) (ht:t.name.size≤maxLen):
  Calls Tryz.prog 127 #[.agg ms.toArray,.agg #[vl,vs],.agg #[.int .i64 t.kind,.string t.name]] w (fun e w'=>Fr (fun b=>zcP vs=some b) w w'∧zfb vl vs ((zcE m.stack f.stack t).map (⟨f.locals,·⟩)) w e w'):=by
 obtain⟨va,vc,vm,rfl,_,_,ha,hc,hx⟩:=hm
 obtain⟨Aa,ca,rfl,_,_⟩:=ha.form
 obtain⟨Ac,cc,rfl,_,_⟩:=hc.form
 obtain⟨Ax,cx,rfl,_,_⟩:=hx.form
 obtain⟨Al,cl,As,cs,rfl,rfl,_,_,_,_⟩:=hI.form
 by_cases hlt:(f.stack.length:Int)<m.stack
 ·rw[zfg hlt]
  refine(zfe m Aa Ac Ax _ _ _ ca cc cx Al As f.locals.length cl cs f.stack t w hlt h5 hI.stk ht).mono ?_
  rintro e w' ⟨g',cap',rfl,hr,hor,hf⟩
  have e1:(f.stack ++ [t]).length=f.stack.length+1:=by simp
  refine⟨hf,hf.mono (fun b _ h=>.inr h),Al,cl,some ⟨g',0,none⟩,cap',by simp only[e1],?_,?_⟩
  ·simp only[e1]
   refine⟨hI.loc.keep hf hI.apart,hr,fun q h1 h2=>?_⟩
   rw[zcQ] at h2
   split at h2
   ·cases h2
   ·cases h2
    rcases hor with h9|h9
    ·exact hI.apart _ h1 h9
    ·exact absurd (hI.loc.1.lt (show zcP _=some g' from h1)) (by omega)
  ·simp only[e1]
   rintro q (h1|h1)
   ·exact .inl (.inl h1)
   ·rw[zcQ] at h1
    split at h1
    ·cases h1
    ·cases h1
     exact hor.imp .inr id
 ·rw[zff (by omega)]
  refine(zfc m Aa Ac Ax _ _ _ ca cc cx Al As f.locals.length f.stack.length cl cs t w (by omega)).mono ?_
  rintro e w' ⟨rfl,hf⟩
  exact⟨hf.of0,hf.of0,_,_,_,_,_,_,rfl⟩
theorem znd (X:Nat->Prop) (v:Value) (xs:List Ref) (top:Ref) (w:World) (h:Sl X w 2 RefC v xs):
  Calls Tryz.prog 183 #[v,.agg #[.int .i64 top.keeper,.string top.name]] w (zgm (xs.any (fun r=>zjt r top)) w):=by
 obtain⟨A,cap,rfl,_,hlen⟩:=h.form
 unfold maxLen at hlen
 have hU:xs.any (fun r=>zjt r top)=xs.any (fun r=>zjt r top):=rfl
 obtain⟨V,hV⟩:∃V,V=xs.any (fun r=>zjt r top):=⟨_,rfl⟩
 rw[<-hV]
 obtain⟨tk,tn⟩:=top
 replace hU:=Lib.hid hV
 clear hV
 dsimp only at *
 go_enter Tryz.func183,Tryz.ntmps183
 have B:=Bx.new w 34 #[.int .i64 tk,.string tn]
 have hfA:Fr No w (w.alloc (.cells #[.int .i64 tk,.string tn] 34)):=frc
 go_wp2
 generalize w.alloc (.cells #[.int .i64 tk,.string tn] 34)=wA at *
 go_loopw [5] (fun i wr=>∃j:Nat,j≤xs.length∧i=.int .i64 j∧Hid (∀x∈xs.take j,zjt x ⟨tk,tn⟩=false)∧Fr No wA wr) (fun i _=>xs.length-(intOf i).toNat)
 case atStart=>exact⟨0,Nat.zero_le _,rfl,by simp[Hid],Fr.refl _ _⟩
 case round=>
  obtain⟨j,hj,rfl,hn,hf⟩:=hrel
  by_cases hlt:j<xs.length
  ·obtain⟨b,bf,rfl,_,c0,c1,z⟩:=(h.keep (R':=RefC) (hfA.trans0 hf) zN (fun _ _ _ h=>h)).ref hlt
   have BW:=B.keep hf
   obtain⟨K0,K2⟩:=BW.c2
   have kl:=BW.lt
   clear h BW
   by_cases hm:zjt xs[j] ⟨tk,tn⟩=true
   ·have hV:V=true:=by rw[hU.out,List.any_eq_true];exact⟨_,List.getElem_mem hlt,hm⟩
    rw[zju] at hm
    rw[hm] at c0 c1
    dsimp only at c0 c1
    clear hm hU hn
    have c0:=kp c0
    have c1:=kp c1
    have K0:=kp K0
    have K2:=kp K2
    go_wp2_with fail
    first
     | ((refine zgc (X:=No) (by kernel_rfl) (by kernel_rfl) ?_);(repeat(first|(apply zgb;(focus (exact rfl));simp only[Act.put,lz0,lz1,lz2])|(apply zga;(focus (exact rfl));(focus (intro W hW;go_simp;first|done|exact rfl|fail));simp only[Act.put,lz0,lz1,lz2])));refine wpQuiet_nil ?_)
     | ((refine zge (X:=No) ?_);(repeat(first|(apply zgb;(focus (exact rfl));simp only[Act.put,lz0,lz1,lz2])|(apply zga;(focus (exact rfl));(focus (intro W hW;go_simp;first|done|exact rfl|fail));simp only[Act.put,lz0,lz1,lz2])));refine wpQuiet_nil ?_)
    intro w9 hf9
    clear c0 c1 K0 K2
    go_wp2
    go_ret
    exact .mk hV.symm frc
   ·have hV:Hid (∀x∈xs.take (j+1),zjt x ⟨tk,tn⟩=false):=by
     intro x hx
     rw[List.take_add_one,List.mem_append] at hx
     rcases hx with hx|hx
     ·exact hn.out x hx
     ·rw[lz8 hlt] at hx
      simp only[Option.toList_some,List.mem_singleton] at hx
      rw[hx];simpa using hm
    generalize hxj:xs[j]=x at *
    obtain⟨xk,xn⟩:=x
    dsimp only at c0 c1
    have hx:¬xk=tk∨(xk=tk∧¬xn.toList=tn.toList):=by
     have h9:zjt ⟨xk,xn⟩ ⟨tk,tn⟩=false:=by simpa using hm
     unfold zjt at h9
     by_cases h8:xk=tk
     ·exact .inr ⟨h8,by simpa[h8] using h9⟩
     ·exact .inl h8
    clear hm hU hn hxj
    rcases hx with hx | ⟨rfl,hx⟩
    ·have hx2:(xk == tk)=false:=by simpa using hx
     have c0:=kp c0
     have c1:=kp c1
     have K0:=kp K0
     have K2:=kp K2
     go_wp2_with fail
     first
      | ((refine zgc (X:=No) (by kernel_rfl) (by kernel_rfl) ?_);(repeat(first|(apply zgb;(focus (exact rfl));simp only[Act.put,lz0,lz1,lz2])|(apply zga;(focus (exact rfl));(focus (intro W hW;go_simp;first|done|exact rfl|fail));simp only[Act.put,lz0,lz1,lz2])));refine wpQuiet_nil ?_)
      | ((refine zge (X:=No) ?_);(repeat(first|(apply zgb;(focus (exact rfl));simp only[Act.put,lz0,lz1,lz2])|(apply zga;(focus (exact rfl));(focus (intro W hW;go_simp;first|done|exact rfl|fail));simp only[Act.put,lz0,lz1,lz2])));refine wpQuiet_nil ?_)
     intro w9 hf9
     clear c0 c1 K0 K2
     go_wp2
     go_roundw
     case rel=>exact⟨j+1,by omega,by go_num,hV,by exact frc⟩
     case measure=>simp[intOf];omega
    ·have hx2:(xn.toList == tn.toList)=false:=by simpa using hx
     have c0:=kp c0
     have c1:=kp c1
     have K0:=kp K0
     have K2:=kp K2
     go_wp2_with fail
     first
      | ((refine zgc (X:=No) (by kernel_rfl) (by kernel_rfl) ?_);(repeat(first|(apply zgb;(focus (exact rfl));simp only[Act.put,lz0,lz1,lz2])|(apply zga;(focus (exact rfl));(focus (intro W hW;go_simp;first|done|exact rfl|fail));simp only[Act.put,lz0,lz1,lz2])));refine wpQuiet_nil ?_)
      | ((refine zge (X:=No) ?_);(repeat(first|(apply zgb;(focus (exact rfl));simp only[Act.put,lz0,lz1,lz2])|(apply zga;(focus (exact rfl));(focus (intro W hW;go_simp;first|done|exact rfl|fail));simp only[Act.put,lz0,lz1,lz2])));refine wpQuiet_nil ?_)
     intro w9 hf9
     clear c0 c1 K0 K2
     go_wp2
     go_roundw
     case rel=>exact⟨j+1,by omega,by go_num,hV,by exact frc⟩
     case measure=>simp[intOf];omega
  ·clear h
   have hV:V=false:=by
    rw[hU.out,List.any_eq_false]
    intro x hx
    have:=hn.out x (by rwa [List.take_of_length_le (by omega)])
    simpa using this
   clear hU hn
   go_wp2
   go_ret
   exact .mk hV.symm frc
theorem zne (X:Nat->Prop) (p:Plan) (v:Value) (k0:Nat) (s0:Str) (i0:Nat) (rs:List Ref) (top:Ref) (w:World) (hp:lodB p=true) (h:Sl X w 2 (KprC X w) v p.keepers) (hh:Here p ⟨k0,s0⟩ k0 i0) (hs:s0.size≤maxLen) (hch:chainOf p ⟨k0,s0⟩=some rs):
  Calls Tryz.prog 157 #[.agg #[v],.agg #[.int .i64 k0,.string s0],.agg #[.int .i64 top.keeper,.string top.name]] w (zgm (rs.any (fun r=>zjt r top)) w):=by
 obtain⟨A,cap,rfl,hcap,hlen⟩:=h.form
 obtain⟨wA,hwA⟩:∃wA,wA=(((w.alloc (.cells #[.slice A p.keepers.length cap] 32)).alloc (.cells #[.int .i64 k0,.string s0] 34)).alloc (.cells #[.int .i64 top.keeper,.string top.name] 34)):=⟨_,rfl⟩
 have hfA:Fr No w wA:=hwA▸frc
 have K2:=(hwA▸bxc:Bx wA (w.heap.size+2) 34 #[.int .i64 top.keeper,.string top.name])
 have HC:=za0 X p _ k0 s0 i0 wA hp (h.keep hfA zN (fun _ _ _ h=>h.keep hfA zN)) hh hs
 rw[hch] at HC
 obtain⟨tk,tn⟩:=top
 dsimp only at *
 clear h hch hh
 go_enter Tryz.func157,Tryz.ntmps157
 go_wp2_with fail
 rw[<-hwA]
 replace hwA:=Lib.hid hwA
 refine HC.mono ?_
 rintro e w1 ⟨v1,rfl,hsl,hf1⟩
 have HH:=znd No v1 rs ⟨tk,tn⟩ w1 hsl
 obtain⟨A1,c1,rfl,_,_⟩:=hsl.form
 have B1:=K2.keep hf1
 obtain⟨y0,y1⟩:=B1.c2
 have yl:=B1.lt
 clear HC hsl
 go_wp2_with fail
 refine HH.mono ?_
 rintro e w2 ⟨rfl,hf2⟩
 clear y0 y1 yl
 go_wp2
 go_ret
 exact .mk rfl (by exact frc)
end Go.Proofs.YthembcdcdnffeaaGreat
