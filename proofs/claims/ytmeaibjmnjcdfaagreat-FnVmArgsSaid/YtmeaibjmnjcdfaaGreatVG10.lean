/- The program's own climb from a class to those above it. -/
import Derived.Test.YtmeaibjmnjcdfaaGreatVG8
import Derived.Test.YtmeaibjmnjcdfaaGreatVG9
set_option maxHeartbeats 8000000
set_option maxRecDepth 100000
namespace Go.Proofs.YtmeaibjmnjcdfaaGreat
open Go.RowKit Go.Shelf
attribute [local go_sem] Oper.semAt_some
def zmo (r:Ref):List Value:=[.int .i64 r.keeper,.string r.name]
def ClT (w0:World) (c1 c2 cc cl cr base l:Nat):(List Ref×Ref×Bool)->World->Prop:=fun s W=>
 s.2.2=true∧s.1.length≤6∧(∀x∈s.1,x.name.size≤maxLen)∧Fr No w0 W∧Bx W c1 180 #[.slice none 0 0]∧Bx W c2 4 #[.bool false] ∧
 Bx W cl 69 #[.pointer (some ⟨l,0,none⟩)]∧Bx W cr 108 #[.int .i64 s.2.1.keeper,.string s.2.1.name] ∧
 ∃v,Bx W cc 180 #[v]∧W.ownsRow base 108 2 v s.1.length (s.1.flatMap zmo)
def ClX (p:Plan) (r0:Ref) (w0:World) (c1 c2:Nat):World->Prop:=fun W=>chainOf p r0=none∧Fr No w0 W∧Bx W c1 180 #[.slice none 0 0]∧Bx W c2 4 #[.bool false]
def ClO (p:Plan) (r0:Ref):(List Ref×Ref×Bool)->(Ref×Bool)->Prop:=fun s x=>(x.2=true->Up p r0 s.1 x.1∧x.1.name.size≤maxLen)∧(x.2=false->chainOf p r0=none)
def ClN:(List Ref×Ref×Bool)->(Ref×Bool)->(List Ref×Ref×Bool):=fun s x=>(s.1 ++ [x.1],s.2.1,x.2&&decide (s.1.length<6))
def ClA (x:Ref×Bool):Array Value:=#[.agg #[.int .i64 x.1.keeper,.string x.1.name],.bool x.2]
def zmp (cc:Nat) (w:World):Nat:=sliceLen ((w.cell? ⟨cc,0,none⟩).getD undef)
theorem zmq {w:World} {base sz n:Nat} {e:TypeId} {v:Value} {xs:List Value} (h:w.ownsRow base e sz v n xs):sliceLen v=n:=by
 obtain⟨_,⟨rfl,rfl⟩ | ⟨g,cap,cur,rfl,_⟩⟩:=h<;>rfl
theorem ClT.len {w0 W:World} {c1 c2 cc cl cr base l:Nat} {s:List Ref×Ref×Bool} (h:ClT w0 c1 c2 cc cl cr base l s W):zmp cc W=s.1.length:=by
 obtain⟨_,_,_,_,_,_,_,_,v,hv,hr⟩:=h
 unfold zmp
 rw[hv.c1]
 exact zmq hr
theorem zmr (w:World) (a b c d:Value):(Instr.field 55 (.agg #[a,b,c,d]) 1).run Tryz.prog w=.ok b w:=by
 simp[Instr.field,asAgg,go_sem]
theorem zms {w w':World} {X:Nat->Prop} {base sz n:Nat} {e:TypeId} {v:Value} {xs:List Value} (h:w.ownsRow base e sz v n xs) (hf:Fr X w w') (hX:∀b,X b->b<base):w'.ownsRow base e sz v n xs:=by
 obtain⟨hl,h | ⟨g,cap,cur,rfl,hg,hb,h1,h2,h3,h4⟩⟩:=h
 ·exact⟨hl,.inl h⟩
 ·have hb':Bx w g e cur:=hb
  exact⟨hl,.inr ⟨g,cap,cur,rfl,hg,hb'.keepX hf (fun hx=>by have:=hX g hx;omega),h1,h2,h3,h4⟩⟩
theorem ClT.keepX {X:Nat->Prop} {w0 W W':World} {c1 c2 cc cl cr base l:Nat} {s:List Ref×Ref×Bool} (h:ClT w0 c1 c2 cc cl cr base l s W) (hf:Fr X W W')
  (hX:∀b,X b->w0.heap.size≤b∧b≠c1∧b≠c2∧b≠cc∧b≠cl∧b≠cr∧b<base):ClT w0 c1 c2 cc cl cr base l s W':=by
 obtain⟨h1,h2,h3,h4,h5,h6,h7,h8,v,h9,h10⟩:=h
 exact⟨h1,h2,h3,h4.trans hf (fun b hb hx=>by have:=hX b hx;omega),h5.keepX hf (fun hx=>(hX _ hx).2.1 rfl),h6.keepX hf (fun hx=>(hX _ hx).2.2.1 rfl),h7.keepX hf (fun hx=>(hX _ hx).2.2.2.2.1 rfl),h8.keepX hf (fun hx=>(hX _ hx).2.2.2.2.2.1 rfl),
  v,h9.keepX hf (fun hx=>(hX _ hx).2.2.2.1 rfl),zms h10 hf (fun b hx=>(hX b hx).2.2.2.2.2.2)⟩
theorem ClT.keep {w0 W W':World} {c1 c2 cc cl cr base l:Nat} {s:List Ref×Ref×Bool} (h:ClT w0 c1 c2 cc cl cr base l s W) (hf:Fr No W W'):ClT w0 c1 c2 cc cl cr base l s W':=h.keepX hf zN
theorem ClT.turn {w0 W:World} {c1 c2 cc cl cr base l:Nat} {pre:List Ref} {r r':Ref} {f:Bool} (h:ClT w0 c1 c2 cc cl cr base l (pre,r,f) W) (d1:cr≠c1) (d2:cr≠c2) (d3:cr≠cc) (d4:cr≠cl) (d5:cr<base) (d6:w0.heap.size≤cr):
  ClT w0 c1 c2 cc cl cr base l (pre,r',true) ((W.setCell ⟨cr,0,none⟩ (.int .i64 r'.keeper)).setCell ⟨cr,1,none⟩ (.string r'.name)):=by
 obtain⟨_,h2,h3,h4,h5,h6,h7,h8,v,h9,h10⟩:=h
 have hf:Fr (fun b=>b=cr) W ((W.setCell ⟨cr,0,none⟩ (.int .i64 r'.keeper)).setCell ⟨cr,1,none⟩ (.string r'.name)):=Fr.setCellX (X:=fun b=>b=cr) (p:=⟨cr,1,none⟩) (Fr.setCellX (X:=fun b=>b=cr) (p:=⟨cr,0,none⟩) (Fr.refl _ W) (by rfl) _) (by rfl) _
 exact⟨rfl,h2,h3,h4.trans hf (fun b hb hx=>by omega),h5.keepX hf (fun hx=>d1 hx.symm),h6.keepX hf (fun hx=>d2 hx.symm),h7.keepX hf (fun hx=>d4 hx.symm),(h8.set_ 0 _).set_ 1 _,v,h9.keepX hf (fun hx=>d3 hx.symm),zms h10 hf (fun b hx=>by rw[hx];exact d5)⟩
theorem zmt (w0:World) (l bl nn:Nat) (p:Plan) (g:Int->Str->Option Int) (hL:zgF w0 l bl nn p g) (r0:Ref) (k i:Nat) (hh:Here p r0 k i) (hr0:r0.name.size≤maxLen)
  (c1 c2 cc cl cr base L n:Nat) (d1:cr≠c1) (d2:cr≠c2) (d3:cr≠cc) (d4:cr≠cl) (d5:cr<base) (d6:w0.heap.size≤cr)
  (Z Zd:World->Prop) (hZ:∀W W',Z W->Fr (fun b=>b=cr) W W'->Z W') (_hZd:∀W W',Zd W->Fr (fun b=>b=cr) W W'->Zd W')
  (hY:∀s x W,ClT w0 c1 c2 cc cl cr base l s W->Z W->ClO p r0 s x->YieldAt Fence.wide n Tryz.prog L (ClA x) W (fun e W'=>(e=.returned (.bool true)∧ClT w0 c1 c2 cc cl cr base l (ClN s x) W'∧Z W')∨(e=.returned (.bool false)∧ClX p r0 w0 c1 c2 W'∧Zd W')))
  (W1:World) (h1:ClT w0 c1 c2 cc cl cr base l ([],r0,true) W1) (hz:Z W1):
  CallsIn Fence.wide (n+1) Tryz.prog 197 #[.func (.yield L) #[] #[],.pointer (some ⟨cr,0,none⟩),.pointer (some ⟨cl,0,none⟩)] W1
   (fun e W'=>(∃v,e=.returned v)∧((∃s,chainOf p r0=some s.1∧ClT w0 c1 c2 cc cl cr base l s W'∧Z W')∨(ClX p r0 w0 c1 c2 W'∧Zd W'))):=by
 refine callsIn_of_wp Tryz.func197 rfl trivial ?_ rfl
 simp only[Tryz.ntmps197,List.size_toArray,List.length_cons,List.length_nil,Nat.reduceAdd,Nat.reduceSub,Array.replicate_succ,Array.replicate_zero,List.push_toArray,List.append_toArray,List.nil_append,List.cons_append]
 gi_wp2
 gi_loopw [4] (fun u4 wr=>∃(pre:List Ref) (q:Ref) (k i:Nat),ClT w0 c1 c2 cc cl cr base l (pre,q,true) wr∧Z wr∧Up p r0 pre q∧Here p q k i∧q.name.size≤maxLen) (fun _ wr=>7-zmp cc wr)
 case atStart=>exact⟨[],r0,k,i,h1,hz,Up.start p r0,hh,hr0⟩
 case round=>
  clear h1 hz hh hr0
  obtain⟨pre,q,k,i,hT,hz,hU,hh,hq⟩:=hrel
  obtain⟨fn,tmps,assign,body,hy,hR⟩:=hY (pre,q,true) (q,true) wr hT hz ⟨fun _=>⟨hU,hq⟩,fun h=>by cases h⟩
  have hlen0:=hT.len
  obtain⟨_,_,_,hfr0,_,_,hbl0,hbr0,_⟩:=hT
  dsimp only[ClA] at hy hbr0 hlen0
  obtain⟨x0,x1⟩:=hbr0.c2
  have y0:=hbl0.c1
  have hl0:=hbl0.lt
  have hl1:=hbr0.lt
  replace hlen0:=Lib.hid hlen0
  clear hbl0 hbr0 hfr0
  gi_wp2
  refine hR.mono ?_
  rintro e W3 (⟨rfl,hT3,hz3⟩ | ⟨rfl,hX3,hzd3⟩)
  ·clear x0 x1 y0 hl0 hl1 hy hR
   have hT3':=hT3
   obtain⟨hf3,hl3,hsz3,hfr3,hb1,hb2,hbl,hbr,v,hbc,hrow⟩:=hT3'
   dsimp only[ClN] at hf3 hl3 hsz3 hbr hrow
   have hlt6:pre.length<6:=by simpa using hf3
   obtain⟨qk,qn⟩:=q
   have hqk:qk=(k:Int):=hh.1
   subst hqk
   have hcl:=hh.cls
   have hL3:=hL.keep hfr3
   have HC:=fun W (h:Fr No W3 W)=>zbe l bl nn p g k qn i W (hL3.keep h) hh.2.1 hq (zbC p k) rfl hh.2.2.1 hh.2.2.2
   rw[<-hcl] at HC
   have h3:=zbM hL.1
   have hkl:=hh.2.1
   obtain⟨x0,x1⟩:=hbr.c2
   have y0:=hbl.c1
   have hl0:=hbl.lt
   have hl1:=hbr.lt
   have HRs:=fun s W (h:Fr No W3 W) (hs:s.size≤maxLen)=>zbn l bl nn p g k s W (hL3.keep h) hs
   have hwk:∀s,zbf p k s=whose p k s:=fun s=>by
    unfold zbf hasK
    rw[decide_eq_true (show(0:Int)≤k by omega),decide_eq_true (show(k:Int)<p.keepers.length by omega)]
    rfl
   clear hcl
   generalize hc:zbG p ⟨k,qn⟩=c at *
   have hc:=Lib.hid hc
   replace hwk:=Lib.hid hwk
   replace hf3:=Lib.hid hf3
   have hfd:=zmr
   cases hsup:c.super.toList.isEmpty
   ·have HLost:(whose p k c.super).2≠1->chainOf p r0=none:=fun h=>hU.lost hlt6 (by rw[hc.out];exact hsup) (by rw[hc.out];exact h)
    have HStep:(whose p k c.super).2=1->Up p r0 (pre ++ [⟨k,qn⟩]) (whose p k c.super).1:=fun h=>by
     have:=hU.step hlt6 (by rw[hc.out];exact hsup) (by rw[hc.out];exact h)
     rwa [hc.out] at this
    have HHere:(whose p k c.super).2=1->∃kc i:Nat,(whose p k c.super).1=⟨kc,c.super⟩∧Here p ⟨kc,c.super⟩ kc i:=zbV hL.1 4 (k:Int) (by omega) (by omega)
    have HR:=fun W h hs=>HRs c.super W h hs
    unfold refV at HR
    rw[hwk.out] at HR
    clear HRs hwk
    have k1:c.super.toList≠[]:=by intro h;rw[h] at hsup;simp at hsup
    generalize whose p k c.super=qq at *
    obtain⟨⟨kc,nm⟩,code⟩:=qq
    dsimp only at HLost HStep HHere HR
    by_cases hcd:code=1
    ·subst hcd
     obtain⟨kc,i',hq',hh'⟩:=HHere rfl
     simp only[Ref.mk.injEq] at hq'
     obtain⟨rfl,rfl⟩:=hq'
     have HU:=HStep rfl
     replace HU:=Lib.hid HU
     replace hh':=Lib.hid hh'
     clear HLost HStep
     gi_wp2_with (first
      | (refine⟨trivial,?_⟩;gi_at_call 100;refine(callsIn_wide.2 (HC _ (Fr.refl _ _))).mono ?_;rintro e w4 ⟨Af,cf,Am,cm,rfl,hcls,hf4⟩;obtain⟨_,_,_,_,hzs,_,_⟩:=hcls;have z0:=hf4.keep0 x0;have z1:=hf4.keep0 x1;have z2:=hf4.keep0 y0;have hs4:=hf4.size)
      | (refine⟨trivial,?_⟩;gi_at_call 93;refine(callsIn_wide.2 (HR _ hf4 hzs)).mono ?_;rintro e w5 ⟨rfl,hf5⟩;have t0:=hf5.keep0 z0;have t1:=hf5.keep0 z1;have t2:=hf5.keep0 z2;have hT5:=hT3.keep (hf4.trans0 hf5);have fr:=fun j=>(hT5.2.2.2.2.2.2.2.1).frozen j;have hs5:=(hT5.2.2.2.2.2.2.2.1).lt;have hs6:=hf5.size))
     have hT7:=(hT5.turn (r':=⟨(kc:Int),c.super⟩) d1 d2 d3 d4 d5 d6).keep ((Fr.refl No _).alloc (.cells #[.int .i64 kc,.string c.super] 108))
     have hl7:=hT7.len
     have hf7:Fr (fun b=>b=cr) W3 (((w5.setCell ⟨cr,0,none⟩ (.int .i64 kc)).setCell ⟨cr,1,none⟩ (.string c.super)).alloc (.cells #[.int .i64 kc,.string c.super] 108)):=(Fr.setCellX (X:=fun b=>b=cr) (p:=⟨cr,1,none⟩) (Fr.setCellX (X:=fun b=>b=cr) (p:=⟨cr,0,none⟩) ((hf4.trans0 hf5).of0) (by rfl) _) (by rfl) _).alloc _
     have hz7:=hZ _ _ hz3 hf7
     clear hT5 hf7 hz3 hT3
     go_roundw
     case rel=>exact⟨pre ++ [⟨k,qn⟩],⟨kc,c.super⟩,kc,i',hT7,hz7,HU.out,hh'.out,hzs⟩
     case measure=>
      dsimp only at hl7
      rw[hl7,hlen0.out]
      simp
      omega
    ·have HL:=HLost hcd
     have hcd':(code != 1)=true:=by simpa using hcd
     replace HL:=Lib.hid HL
     clear HLost HStep HHere hcd
     gi_wp2_with (first
      | (refine⟨trivial,?_⟩;gi_at_call 100;refine(callsIn_wide.2 (HC _ (Fr.refl _ _))).mono ?_;rintro e w4 ⟨Af,cf,Am,cm,rfl,hcls,hf4⟩;obtain⟨_,_,_,_,hzs,_,_⟩:=hcls;have z0:=hf4.keep0 x0;have z1:=hf4.keep0 x1;have z2:=hf4.keep0 y0;have hs4:=hf4.size)
      | (refine⟨trivial,?_⟩;gi_at_call 93;refine(callsIn_wide.2 (HR _ hf4 hzs)).mono ?_;rintro e w5 ⟨rfl,hf5⟩;have t0:=hf5.keep0 z0;have t1:=hf5.keep0 z1;have t2:=hf5.keep0 z2;obtain⟨fn2,tmps2,assign2,body2,hy2,hR2⟩:=hY _ (zbH,false) (w5.alloc (.cells #[.int .i64 kc,.string nm] 108)) (hT3.keep ((hf4.trans0 hf5).alloc _)) (hZ _ _ hz3 (((hf4.trans0 hf5).alloc _).of0)) ⟨(fun h=>by cases h),fun _=>HL.out⟩;dsimp only[ClA,zbH] at hy2))
     refine hR2.mono ?_
     rintro e W6 (⟨rfl,hT6,_⟩ | ⟨rfl,hX6,hzd6⟩)
     ·exfalso
      have:=hT6.1
      simp[ClN] at this
     ·clear hy2 hR2 t0 t1 t2 z0 z1 z2
      gi_wp2
      refine bodyPost_ret (results_none rfl _ _ _) rfl ?_
      exact⟨⟨_,rfl⟩,.inr ⟨hX6,hzd6⟩⟩
   ·have HF:Hid (chainOf p r0=some (pre ++ [⟨k,qn⟩])):=hU.top hlt6 (by rw[hc.out];exact hsup)
    have k1:c.super.toList=[]:=by simpa using hsup
    gi_wp2_with (refine⟨trivial,?_⟩;gi_at_call 100;refine(callsIn_wide.2 (HC _ (Fr.refl _ _))).mono ?_;rintro e w4 ⟨Af,cf,Am,cm,rfl,hcls,hf4⟩)
    refine bodyPost_ret (results_none rfl _ _ _) rfl ?_
    exact⟨⟨_,rfl⟩,.inl ⟨ClN (pre,⟨k,qn⟩,true) (⟨k,qn⟩,true),HF.out,hT3.keep hf4,hZ _ _ hz3 hf4.of0⟩⟩
  ·clear x0 x1 y0 hl0 hl1 hy hR
   gi_wp2
   go_end0
   exact⟨⟨_,rfl⟩,.inr ⟨hX3,hzd3⟩⟩
attribute [local go_sem] Oper.semAt_some
theorem zmu (l:Nat) (k:Int) (s:Str) (w:World):
  Calls Tryz.prog 150 #[.pointer (some ⟨l,0,none⟩),.agg #[.int .i64 k,.string s]] w
   (fun e w'=>e=.returned (.func (.func 197) #[] #[.pointer (some ⟨w.heap.size+1,0,none⟩),.pointer (some ⟨w.heap.size,0,none⟩)]) ∧
    (w.alloc (.cells #[.pointer (some ⟨l,0,none⟩)] 69)).alloc (.cells #[.int .i64 k,.string s] 108)=w'):=by
 go_enter Tryz.func150,Tryz.ntmps150
 go_wp2
 go_ret
 exact⟨rfl,rfl⟩
def zmv (p:Plan) (r:Ref) (w:World) (e:Ending) (w':World):Prop:=
 Fr No w w'∧((∃pre v,chainOf p r=some pre∧e=.returned (.tuple #[v,.bool true])∧Sl No w' 2 RefC v pre)∨(chainOf p r=none∧e=.returned (.tuple #[.slice none 0 0,.bool false])))
theorem zmw:(Tryz.prog.info? 108).map (fun i=>(i.zero,i.size,i.bytes))=some (some (.agg #[.int .i64 0,.string ⟨#[]⟩]),2,24):=by kernel_rfl
theorem zmx (w:World) (cs:Array Value) (T:TypeId) (j:Nat) (u:Value) (h:cs.toList[j]? =some u):(w.alloc (.cells cs T)).cell? ((⟨w.heap.size,0,none⟩:Addr).add j)=some u:=by
 have e:(⟨w.heap.size,0,none⟩:Addr).add j=⟨w.heap.size,j,none⟩:=by
  unfold Addr.add
  by_cases hj:j=0
  ·subst hj;rfl
  ·rw[if_neg hj];simp
 rw[e,(Bx.new w T cs).cell]
 simpa using h
theorem flat_get:∀(pre:List Ref) (k:Nat) (hk:k<pre.length) (j:Nat),j<2->(pre.flatMap zmo)[k * 2+j]? =(zmo pre[k])[j]?
 | a :: pre,0,_,j,hj=>by
  rw[List.flatMap_cons,List.getElem?_append_left (by simp[zmo];omega)]
  simp
 | a :: pre,k+1,hk,j,hj=>by
  rw[List.flatMap_cons,List.getElem?_append_right (by simp[zmo];omega)]
  have:=flat_get pre k (by simpa using hk) j hj
  have e:(k+1) * 2+j-(zmo a).length=k * 2+j:=by simp[zmo];omega
  rw[e,this]
  simp
theorem zmy {w:World} {base:Nat} {v:Value} {pre:List Ref} (h:w.ownsRow base 108 2 v pre.length (pre.flatMap zmo)) (hn:∀x∈pre,x.name.size≤maxLen):Sl No w 2 RefC v pre:=by
 obtain⟨_,⟨rfl,h0⟩ | ⟨g,cap,cur,rfl,hg,hb,h1,h2,h3,h4⟩⟩:=h
 ·obtain rfl:=List.length_eq_zero_iff.1 h0
  exact Sl.nil _ _ _ _
 ·have hb':Bx w g 108 cur:=hb
  refine⟨_,cap,rfl,h1,by omega,fun _=>⟨g,0,rfl,fun h=>h,fun k hk=>⟨zmo pre[k],⟨rfl,hn _ (List.getElem_mem hk)⟩,rfl,fun j hj=>?_⟩⟩⟩
  rw[hb'.cell,<-flat_get pre k hk j hj,<-h4,List.getElem?_take,if_pos (by omega)]
  simp
theorem zmz (l bl nn:Nat) (p:Plan) (g:Int->Str->Option Int) (r:Ref) (k i:Nat) (w:World) (hL:zgF w l bl nn p g) (hh:Here p r k i) (hr:r.name.size≤maxLen):
  Calls Tryz.prog 94 #[.pointer (some ⟨l,0,none⟩),.agg #[.int .i64 r.keeper,.string r.name]] w (zmv p r w):=by
 obtain⟨i0,hi,hz0,hz1,hz2⟩:=info_parts zmw
 refine(callsIn_wide (n:=4)).1 ?_
 refine callsIn_of_wp_marks Tryz.func94 rfl trivial ?_ rfl
 simp only[Tryz.ntmps94,List.size_toArray,List.length_cons,List.length_nil,Nat.reduceAdd,Nat.reduceSub,Array.replicate_succ,Array.replicate_zero,List.push_toArray,List.append_toArray,List.nil_append,List.cons_append]
 gi_wp2_with (refine⟨trivial,?_⟩;gi_at_call 150;refine(callsIn_wide.2 (zmu l r.keeper r.name _)).mono ?_;rintro e w' ⟨rfl,rfl⟩)
 have hw:Fr No w ((((((w.alloc (.cells #[.int .i64 r.keeper,.string r.name] 108)).alloc (.cells #[.slice none 0 0] 180)).alloc (.cells #[.bool false] 4)).alloc (.cells #[.slice none 0 0] 180)).alloc (.cells #[.pointer (some ⟨l,0,none⟩)] 69)).alloc (.cells #[.int .i64 r.keeper,.string r.name] 108)):=((((((Fr.refl No w).alloc _).alloc _).alloc _).alloc _).alloc _).alloc _
 have b1:Bx ((((((w.alloc (.cells #[.int .i64 r.keeper,.string r.name] 108)).alloc (.cells #[.slice none 0 0] 180)).alloc (.cells #[.bool false] 4)).alloc (.cells #[.slice none 0 0] 180)).alloc (.cells #[.pointer (some ⟨l,0,none⟩)] 69)).alloc (.cells #[.int .i64 r.keeper,.string r.name] 108)) (w.heap.size+1) 180 #[.slice none 0 0]:=by exact bxc
 have b2:Bx ((((((w.alloc (.cells #[.int .i64 r.keeper,.string r.name] 108)).alloc (.cells #[.slice none 0 0] 180)).alloc (.cells #[.bool false] 4)).alloc (.cells #[.slice none 0 0] 180)).alloc (.cells #[.pointer (some ⟨l,0,none⟩)] 69)).alloc (.cells #[.int .i64 r.keeper,.string r.name] 108)) (w.heap.size+1+1) 4 #[.bool false]:=by exact bxc
 have b3:Bx ((((((w.alloc (.cells #[.int .i64 r.keeper,.string r.name] 108)).alloc (.cells #[.slice none 0 0] 180)).alloc (.cells #[.bool false] 4)).alloc (.cells #[.slice none 0 0] 180)).alloc (.cells #[.pointer (some ⟨l,0,none⟩)] 69)).alloc (.cells #[.int .i64 r.keeper,.string r.name] 108)) (w.heap.size+1+1+1) 180 #[.slice none 0 0]:=by exact bxc
 have b4:Bx ((((((w.alloc (.cells #[.int .i64 r.keeper,.string r.name] 108)).alloc (.cells #[.slice none 0 0] 180)).alloc (.cells #[.bool false] 4)).alloc (.cells #[.slice none 0 0] 180)).alloc (.cells #[.pointer (some ⟨l,0,none⟩)] 69)).alloc (.cells #[.int .i64 r.keeper,.string r.name] 108)) (w.heap.size+1+1+1+1) 69 #[.pointer (some ⟨l,0,none⟩)]:=by exact bxc
 have b5:Bx ((((((w.alloc (.cells #[.int .i64 r.keeper,.string r.name] 108)).alloc (.cells #[.slice none 0 0] 180)).alloc (.cells #[.bool false] 4)).alloc (.cells #[.slice none 0 0] 180)).alloc (.cells #[.pointer (some ⟨l,0,none⟩)] 69)).alloc (.cells #[.int .i64 r.keeper,.string r.name] 108)) (w.heap.size+1+1+1+1+1) 108 #[.int .i64 r.keeper,.string r.name]:=by exact bxc
 have hsz:((((((w.alloc (.cells #[.int .i64 r.keeper,.string r.name] 108)).alloc (.cells #[.slice none 0 0] 180)).alloc (.cells #[.bool false] 4)).alloc (.cells #[.slice none 0 0] 180)).alloc (.cells #[.pointer (some ⟨l,0,none⟩)] 69)).alloc (.cells #[.int .i64 r.keeper,.string r.name] 108)).heap.size=w.heap.size+6:=by simp
 generalize((((((w.alloc (.cells #[.int .i64 r.keeper,.string r.name] 108)).alloc (.cells #[.slice none 0 0] 180)).alloc (.cells #[.bool false] 4)).alloc (.cells #[.slice none 0 0] 180)).alloc (.cells #[.pointer (some ⟨l,0,none⟩)] 69)).alloc (.cells #[.int .i64 r.keeper,.string r.name] 108))=W0 at *
 have hT0:ClT w (w.heap.size+1) (w.heap.size+1+1) (w.heap.size+1+1+1) (w.heap.size+1+1+1+1) (w.heap.size+1+1+1+1+1) (w.heap.size+8) l ([],r,true) W0:=
  ⟨rfl,by simp,by simp,hw,b1,b2,b4,b5,_,b3,World.ownsRow_nil _ _ _ _⟩
 refine zgJ (F:=Fence.wide) rfl (by omega) (gf:=197) (lb:=#[.pointer (some ⟨w.heap.size+1+1+1+1+1,0,none⟩),.pointer (some ⟨w.heap.size+1+1+1+1,0,none⟩)]) rfl trivial (enters_of Tryz.func197 (by kernel_rfl) rfl)
  ClA (fun _=>rfl) (ClT w (w.heap.size+1) (w.heap.size+1+1) (w.heap.size+1+1+1) (w.heap.size+1+1+1+1) (w.heap.size+1+1+1+1+1) (w.heap.size+8) l) (ClX p r w (w.heap.size+1) (w.heap.size+1+1)) (ClO p r) ClN ([],r,true) (fun s=>chainOf p r=some s.1) (w.heap.size+1+1+1+1+1) (by omega)
  (fun s W W' h hf=>h.keepX hf (fun b (hb:b=W0.heap.size+1)=>by omega))
  (fun W W' ⟨q1,q2,q3,q4⟩ hf=>⟨q1,q2.trans hf (fun b h (hb:b=W0.heap.size+1)=>by omega),q3.keepX hf (by first|omega|(dsimp only;omega)),q4.keepX hf (by first|omega|(dsimp only;omega))⟩)
  (fun o o'=>hT0.keep (((Fr.refl No _).alloc _).alloc _)) ?round ?iter ?done ?stop
 case iter=>
  intro Z Zd hZ hZd hY W1 h1 hz
  exact zmt w l bl nn p g hL r k i hh hr _ _ _ _ _ _ _ 2 (by omega) (by omega) (by omega) (by omega) (by omega) (by omega) Z Zd hZ hZd hY W1 h1 hz
 case done=>
  rintro⟨pre,rr,f⟩ W hc ⟨_,_,hns,hf,q1,q2,q3,q4,v,q5,q6⟩ hD
  dsimp only at hc hns q4 q6
  obtain⟨e1,e2⟩:=And.intro q1.c1 q2.c1
  obtain⟨Av,nv,cv,rfl⟩:∃A n c,v=Value.slice A n c:=by
   obtain⟨_,⟨rfl,_⟩ | ⟨g,cap,cur,rfl,_⟩⟩:=q6<;>exact⟨_,_,_,rfl⟩
  have e5:=q5.c1
  have f1:=fun j=>q1.frozen j
  have f2:=fun j=>q2.frozen j
  have l1:=q1.lt
  have l2:=q2.lt
  have l5:=q5.lt
  replace hsz:=Lib.hid hsz
  replace hc:=Lib.hid hc
  replace hD:=Lib.hid hD
  gi_wp2
  have hsz':=hsz.out
  have hfs:Fr (fun b=>b=w.heap.size+1∨b=w.heap.size+1+1) W ((W.setCell ⟨w.heap.size+1,0,none⟩ (.slice Av nv cv)).setCell ⟨w.heap.size+1+1,0,none⟩ (.bool true)):=
   Fr.setCellX (X:=fun b=>b=w.heap.size+1∨b=w.heap.size+1+1) (p:=⟨w.heap.size+1+1,0,none⟩) (Fr.setCellX (X:=fun b=>b=w.heap.size+1∨b=w.heap.size+1+1) (p:=⟨w.heap.size+1,0,none⟩) (Fr.refl _ W) (.inl rfl) _) (.inr rfl) _
  have hDf:=(hfs.block W0.heap.size (Array.getElem?_eq_some_iff.1 hD.out).1 (by first|omega|(dsimp only;omega))).trans hD.out
  have g1:=(q1.set_ 0 (.slice Av nv cv)).far (p:=⟨w.heap.size+1+1,0,none⟩) (by first|omega|(dsimp only;omega)) (.bool true)
  have g2:=(q2.far (p:=⟨w.heap.size+1,0,none⟩) (by first|omega|(dsimp only;omega)) (.slice Av nv cv)).set_ 0 (.bool true)
  have g3:=zms q6 hfs (fun b hb=>by rcases hb with h|h<;>omega)
  have hf2:=hf.trans hfs (fun b h hb=>by rcases hb with h|h<;>omega)
  clear hfs e1 e2 e5 f1 f2 q1 q2 q5 q6
  generalize((W.setCell ⟨w.heap.size+1,0,none⟩ (.slice Av nv cv)).setCell ⟨w.heap.size+1+1,0,none⟩ (.bool true))=Wf at *
  refine⟨by simp,.inl ⟨_,_,rfl,run_takeDeferred hDf,?_⟩⟩
  have hfp:Fr (fun b=>b=W0.heap.size) Wf (Wf.putObj W0.heap.size (.deferred none)):=(Fr.refl _ Wf).putObj _ rfl
  have k1:=(g1.keepX hfp (by first|omega|(dsimp only;omega))).cell 0
  have k2:=(g2.keepX hfp (by first|omega|(dsimp only;omega))).cell 0
  have k3:=zmy (zms g3 hfp (fun b hb=>by rw[hb];omega)) hns
  simp at k1 k2
  refine⟨.tuple #[.slice Av nv cv,.bool true],by simp[results,Tryz.results94,go_sem,k1,k2],hf2.trans hfp (fun b h (hb:b=W0.heap.size)=>by omega),.inl ⟨pre,_,hc.out,rfl,k3⟩⟩
 case stop=>
  rintro W ⟨hc,hf,q1,q2⟩ hD
  have e1:=q1.c1
  have e2:=q2.c1
  replace hsz:=Lib.hid hsz
  replace hc:=Lib.hid hc
  replace hD:=Lib.hid hD
  gi_wp2
  refine⟨by simp,.inl ⟨_,_,rfl,run_takeDeferred hD.out,?_⟩⟩
  have hD':=hsz.out
  have hfp:Fr (fun b=>b=W0.heap.size) W (W.putObj W0.heap.size (.deferred none)):=(Fr.refl _ W).putObj _ rfl
  have g1:=(q1.keepX hfp (by first|omega|(dsimp only;omega))).c1
  have g2:=(q2.keepX hfp (by first|omega|(dsimp only;omega))).c1
  refine⟨.tuple #[.slice none 0 0,.bool false],by simp[results,Tryz.results94,go_sem,g1,g2],hf.trans hfp (fun b h (hb:b=W0.heap.size)=>by omega),.inr ⟨hc.out,rfl⟩⟩
 case round=>
  rintro⟨pre,rr,f⟩ ⟨q,b⟩ W hT hO hlt
  replace hsz:=Lib.hid hsz
  have e:∀t:Array Value,((#[12,13]:Array Nat).zip (ClA (q,b))).foldl (fun t x=>t.setIfInBounds x.1 x.2) t=(t.setIfInBounds 12 (.agg #[.int .i64 q.keeper,.string q.name])).setIfInBounds 13 (.bool b):=fun t=>by simp[ClA]
  simp only[e,lz0,lz2,lz1]
  clear e
  gi_wp2
  have hsz':=hsz.out
  refine⟨⟨Below.heap_alloc _ _ _ hlt,Below.heap_alloc _ _ _ (by omega)⟩,?_⟩
  intro W2 hf2
  have hT2:=(hT.keep ((Fr.refl No W).alloc (.cells #[.int .i64 q.keeper,.string q.name] 108))).keepX hf2 (fun b (hb:b=W0.heap.size+1)=>by omega)
  have hC2:=(Bx.new W 108 #[.int .i64 q.keeper,.string q.name]).keepX hf2 (by first|omega|(dsimp only;omega))
  have hT2':=hT2
  obtain⟨_,hl6,hns,hf,q1,q2,q3,q4,v,q5,q6⟩:=hT2'
  dsimp only at hl6 hns q4 q6
  obtain⟨Av,nv,cv,rfl⟩:∃A n c,v=Value.slice A n c:=by
   obtain⟨_,⟨rfl,_⟩ | ⟨g,cap,cur,rfl,_⟩⟩:=q6<;>exact⟨_,_,_,rfl⟩
  have hnv:=zmq q6
  dsimp only[sliceLen] at hnv
  subst hnv
  have e1:=q1.c1
  have e2:=q2.c1
  have e5:=q5.c1
  have f1:=fun j=>q1.frozen j
  have f2:=fun j=>q2.frozen j
  have f5:=fun j=>q5.frozen j
  have l1:=q1.lt
  have l2:=q2.lt
  have l5:=q5.lt
  obtain⟨x0,x1⟩:=hC2.c2
  have l6:=hC2.lt
  replace hsz:=Lib.hid hsz'
  clear hsz'
  have hret:chainOf p r=none->zgI (ClT w (w.heap.size+1) (w.heap.size+1+1) (w.heap.size+1+1+1) (w.heap.size+1+1+1+1) (w.heap.size+1+1+1+1+1) (w.heap.size+8) l (ClN (pre,rr,f) (q,b))) (ClX p r w (w.heap.size+1) (w.heap.size+1+1)) (fun W3=>W3.heap[W0.heap.size+1]? =W2.heap[W0.heap.size+1]?∧W3.heap[W0.heap.size]? =W2.heap[W0.heap.size]?) .ret { tmps:=#[],defers:=[] } ((W2.setCell ⟨w.heap.size+1,0,none⟩ (.slice none 0 0)).setCell ⟨w.heap.size+1+1,0,none⟩ (.bool false)):=fun hnone=>by
   have hsz':=hsz.out
   have hfs:Fr (fun b=>b=w.heap.size+1∨b=w.heap.size+1+1) W2 ((W2.setCell ⟨w.heap.size+1,0,none⟩ (.slice none 0 0)).setCell ⟨w.heap.size+1+1,0,none⟩ (.bool false)):=
    Fr.setCellX (X:=(fun b=>b=w.heap.size+1∨b=w.heap.size+1+1)) (p:=⟨w.heap.size+1+1,0,none⟩) (Fr.setCellX (X:=(fun b=>b=w.heap.size+1∨b=w.heap.size+1+1)) (p:=⟨w.heap.size+1,0,none⟩) (Fr.refl _ W2) (.inl rfl) _) (.inr rfl) _
   have hs2:=hf2.size
   simp at hs2
   exact⟨⟨hfs.block _ (by omega) (by first|omega|(dsimp only;omega)),hfs.block _ (by omega) (by first|omega|(dsimp only;omega))⟩,hnone,hf.trans hfs (fun b h hb=>by rcases hb with h|h<;>omega),
    (q1.set_ 0 (.slice none 0 0)).far (p:=⟨w.heap.size+1+1,0,none⟩) (by first|omega|(dsimp only;omega)) _,(q2.far (p:=⟨w.heap.size+1,0,none⟩) (by first|omega|(dsimp only;omega)) _).set_ 0 (.bool false)⟩
  obtain⟨hO1,hO2⟩:=hO
  dsimp only at hO1 hO2
  cases b
  ·have hr':=hret (hO2 rfl)
   replace hr':=Lib.hid hr'
   clear hret hO1 hO2
   gi_wp2
   exact hr'.out
  ·obtain⟨hU,hqn⟩:=hO1 rfl
   by_cases h6:pre.length=6
   ·have hr':=hret (hU.full h6)
    have hq6:((pre.length:Int) == 6)=true:=by simp;omega
    replace hr':=Lib.hid hr'
    replace h6:=Lib.hid h6
    clear hret hO2
    gi_wp2
    exact hr'.out
   ·have hq6:((pre.length:Int) == 6)=false:=by simp;omega
    have hlt6:pre.length≤5:=by omega
    have hs2:=hf2.size
    simp at hs2
    have hsz':=hsz.out
    have hbase:w.heap.size+8≤W2.heap.size:=by omega
    have hrl:=q6.lt
    replace hsz':=Lib.hid hsz'
    replace hrl:=Lib.hid hrl
    clear hret hO2 h6 hs2
    gi_wp2_with (gi_at_builtin;refine wpListIn_append_own _ rfl _ _ 180 rfl (w.heap.size+8) 108 i0 (.agg #[.int .i64 0,.string ⟨#[]⟩]) 2 24 Tryz.underlying180 hi hz0 hz1 hz2 rfl (by decide) _ _ _ rfl (q6.alloc _) ⟨W2.heap.size,0,none⟩ 1 1 (zmo q) rfl rfl (fun j u h=>zmx W2 #[.int .i64 q.keeper,.string q.name] 108 j u h) (by simp[zmo,Value.oneCell']) (by unfold maxLen;omega) (by omega) (by simp;omega) ?_;intro v' w1 hown' hgrow hnil;obtain⟨g',cap',rfl⟩:=ownsRow_succ hown';have hfg:Fr (fun b=>w.heap.size+8≤b) W2 w1:=((Fr.refl _ W2).alloc _).grown hgrow (fun k e=>.inr (hrl.out k e).1);have p5:=q5.keepX hfg (by first|omega|(dsimp only;omega));have e6:=p5.c1;have f6:=fun j=>p5.frozen j;have l7:=p5.lt)
    have hsz'':=hsz'.out
    have hs2:=hf2.size
    simp at hs2
    have hfc:Fr (fun b=>b=w.heap.size+1+1+1) w1 (w1.setCell ⟨w.heap.size+1+1+1,0,none⟩ (.slice (some ⟨g',0,none⟩) (pre.length+1) cap')):=Fr.setCellX (X:=fun b=>b=w.heap.size+1+1+1) (p:=⟨w.heap.size+1+1+1,0,none⟩) (Fr.refl _ w1) (by rfl) _
    have hrow':w1.ownsRow (w.heap.size+8) 108 2 (.slice (some ⟨g',0,none⟩) (pre.length+1) cap') (pre ++ [q]).length ((pre ++ [q]).flatMap zmo):=by
     rw[List.flatMap_append,List.length_append]
     simpa using hown'
    have kf:∀{b:Nat} {t:TypeId} {cs:Array Value},Bx W2 b t cs->b<w.heap.size+8->b≠w.heap.size+1+1+1->Bx (w1.setCell ⟨w.heap.size+1+1+1,0,none⟩ (.slice (some ⟨g',0,none⟩) (pre.length+1) cap')) b t cs:=
     fun h hb hne=>(h.keepX hfg (by first|omega|(dsimp only;omega))).keepX hfc hne
    refine⟨⟨(hfc.block _ (by have:=hfg.size;omega) (by first|omega|(dsimp only;omega))).trans (hfg.block _ (by omega) (by first|omega|(dsimp only;omega))),(hfc.block _ (by have:=hfg.size;omega) (by first|omega|(dsimp only;omega))).trans (hfg.block _ (by omega) (by first|omega|(dsimp only;omega)))⟩,
     ?_,?_,?_,(hf.trans hfg (fun b h (hb:w.heap.size+8≤b)=>by omega)).trans hfc (fun b h (hb:b=w.heap.size+1+1+1)=>by omega),kf q1 (by omega) (by omega),kf q2 (by omega) (by omega),kf q3 (by omega) (by omega),kf q4 (by omega) (by omega),_,p5.set_ 0 _,zms hrow' hfc (fun b (hb:b=w.heap.size+1+1+1)=>by omega)⟩
    ·simp[ClN];omega
    ·simp[ClN];omega
    ·intro x hx
     simp only[ClN] at hx
     rcases List.mem_append.1 hx with hx|hx
     ·exact hns x hx
     ·obtain rfl:x=q:=by simpa using hx
      exact hqn
end Go.Proofs.YtmeaibjmnjcdfaaGreat
