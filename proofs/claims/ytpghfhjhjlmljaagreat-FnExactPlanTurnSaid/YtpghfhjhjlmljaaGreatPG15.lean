/- slices.DeleteFunc, slices.IndexFunc with the changes' closures, on a row of one's own (printed by dlf.py). -/
import Derived.Test.YtpghfhjhjlmljaaGreatPG6
import Derived.Test.YtpghfhjhjlmljaaGreatPG14
set_option maxHeartbeats 8000000
set_option maxRecDepth 100000
namespace Go.Proofs.YtpghfhjhjlmljaaGreat
open Go.RowKit
theorem zAp {α:Type} {K:α->Bool} {ts:List α} {k:Nat} (h:k<ts.length) (ha:∀t∈ts.take k,K t=true):K ts[k]=true->∀t∈ts.take (k+1),K t=true:=by
 intro hk t ht
 rw[List.take_succ_eq_append_getElem h,List.mem_append,List.mem_singleton] at ht
 rcases ht with ht|rfl
 ·exact ha t ht
 ·exact hk
def kCls (s:Str) (x:Cls):Bool:=!(x.name.toList == s.toList)
theorem zAq (s:Str) (b:Nat) (x:Cls) (cs:List Value) (w:World) (hx:ClsC (fun _=>False) w cs x) (hb:Bx w b 96 #[.string s]):
  Calls Tryz.prog 172 #[.agg cs.toArray,.pointer (some ⟨b,0,none⟩)] w (zgm (!(kCls s x)) w):=by
 obtain⟨vf,vm,rfl,_,_,h1,h2⟩:=hx
 obtain⟨Af,cf,rfl,_,_⟩:=h1.form
 obtain⟨Am,cm,rfl,_,_⟩:=h2.form
 clear h1 h2
 have e0:=hb.c1
 have hl:=hb.lt
 unfold kCls
 rw[Bool.not_not]
 go_enter Tryz.func172,Tryz.ntmps172
 go_wp2
 go_ret
 exact .mk rfl (by exact frc)
theorem zAr (w:World):(zeroValue 42).run Tryz.prog w=.ok (.agg #[.string ⟨#[]⟩,.string ⟨#[]⟩,.slice none 0 0,.slice none 0 0]) w:=by kernel_rfl
theorem zAs (s:Str) (b:Nat) (Y:Nat->Prop) (v:Value) (xs:List Cls) (ts:List (Tri Cls 4)) (w:World) (he:ts.map (·.2.2)=xs) (hr:RowV w 42 4 v xs.length (rawL (ts.map (·.1)))) (hq:OwnQ 4 ClsO ts w Y v) (hb:Bx w b 96 #[.string s]):
  Calls Tryz.prog 173 #[v,.func (.func 172) #[] #[.pointer (some ⟨b,0,none⟩)]] w (fun e w'=>Fr No w w'∧((e=.returned (.int .i64 (-1))∧∀t∈ts,kCls s t.2.2=true)∨∃(i:Nat) (hi:i<ts.length),e=.returned (.int .i64 i)∧(∀t∈ts.take i,kCls s t.2.2=true)∧kCls s ts[i].2.2=false)):=by
 have hlt9:ts.length=xs.length:=by rw[<-he];simp
 obtain⟨A,cap,rfl,hcap,hlen⟩:=hr.form
 unfold maxLen at hlen
 go_enter Tryz.func173,Tryz.ntmps173
 go_wp2
 go_loopw [8,4] (fun i r wr=>∃k:Nat,k≤xs.length∧i=.int .i64 k∧r=.int .i64 0∧Hid (∀t∈ts.take k,kCls s t.2.2=true)∧Fr No w wr) (fun i _ _=>xs.length-(intOf i).toNat)
 case atStart=>exact⟨0,Nat.zero_le _,rfl,rfl,by simp[Hid],Fr.refl _ _⟩
 case round=>
  obtain⟨k,hk,rfl,rfl,ha,hf⟩:=hrel
  by_cases hlt:k<xs.length
  ·have hkt:k<ts.length:=by omega
   obtain⟨g,c,he9,hcells⟩:∃g c,Value.slice A xs.length cap=.slice (some ⟨g,0,none⟩) xs.length c∧∀j,j<4->wr.cell? ⟨g,k * 4+j,none⟩=(ts[k].1).1[j]?:=by
    obtain⟨g,c,_,e,_⟩:=hr.at_ (by omega)
    have hr':=hr.keep0 hf
    rw[e] at hr'
    refine⟨g,c,e,fun j hj=>?_⟩
    have:=(hr'.rowAt (i:=k) (by simp[hlt9]) (by simpa using hkt)).2.2 j hj
    rwa [List.getElem_map] at this
   cases he9
   have hel:=(hq.keep0 zzJ hf).el _ (List.getElem_mem hkt)
   have HS:=Lib.hid (zAp (K:=fun t=>kCls s t.2.2) hkt ha.out)
   have HN:=Lib.hid (fun h:kCls s ts[k].2.2=false=>(⟨k,hkt,rfl,ha.out,h⟩:∃(i:Nat) (hi:i<ts.length),Ending.returned (.int .i64 (k:Int))=.returned (.int .i64 i)∧(∀t∈ts.take i,kCls s t.2.2=true)∧kCls s ts[i].2.2=false))
   generalize ts[k]=t at *
   obtain⟨⟨cs,hcs⟩,Z,x⟩:=t
   dsimp only at *
   have hC:ClsC (fun b=>False) wr cs x:=ClsO.c hel (fun _ _ _ h=>h)
   have hC':=id hC
   obtain⟨vf,vm,rfl,_,_,h1,h2⟩:=hC'
   obtain⟨Af,cf,rfl,_,_⟩:=h1.form
   obtain⟨Am,cm,rfl,_,_⟩:=h2.form
   clear h1 h2
   have c0:=hcells 0 (by omega)
   have c1:=hcells 1 (by omega)
   have c2:=hcells 2 (by omega)
   have c3:=hcells 3 (by omega)
   simp only[lz3,lz4,Nat.add_zero] at c0 c1 c2 c3
   have H:=fun W (hW:Fr No wr W)=>zAq s b x _ W (ClsC.keep hC hW zN) ((hb.keep hf).keep hW)
   clear hcells hq hr he hel
   cases hk9:kCls s x
   all_goals rw[hk9] at H
   ·have HN:=Lib.hid (HN.out hk9)
    clear HS hk9 hC ha
    go_wp2_with (go_at_call 172;refine(H _ (Fr.refl _ _)).mono ?_;rintro e w2 ⟨rfl,hf2⟩)
    go_ret
    exact⟨by exact frc,.inr HN.out⟩
   ·have HS:=Lib.hid (HS.out hk9)
    clear HN hk9 hC ha
    go_wp2_with (go_at_call 172;refine(H _ (Fr.refl _ _)).mono ?_;rintro e w2 ⟨rfl,hf2⟩)
    go_roundw
    case rel=>exact⟨k+1,by omega,by go_num,rfl,HS,by exact frc⟩
    case measure=>simp[intOf];omega
  ·have HS:Hid (∀t∈ts,kCls s t.2.2=true):=Lib.hid (fun t ht=>ha.out t (by rw[List.take_of_length_le (by omega)];exact ht))
   clear hq hr he ha
   go_wp2
   go_ret
   exact⟨by exact frc,.inl ⟨rfl,HS.out⟩⟩
theorem zAt (s:Str) (b:Nat) (Y:Nat->Prop) (v:Value) (xs:List Cls) (w:World) (h:OwnL 42 4 ClsO w Y v xs) (hb:Bx w b 96 #[.string s]):
  Calls Tryz.prog 171 #[v,.func (.func 172) #[] #[.pointer (some ⟨b,0,none⟩)]] w (fun e w'=>∃v',e=.returned v'∧OwnL 42 4 ClsO w' Y v' (xs.filter (kCls s))∧(∀q,zcP v'=some q->zcP v=some q)∧Fr (fun q=>zcP v=some q) w w'):=by
 obtain⟨ts,he,hr,hq⟩:=h.tri
 have hlt9:ts.length=xs.length:=by rw[<-he];simp
 have hbne:∀q,zcP v=some q->q≠b:=fun q h=>hr.ne hb (by decide) h
 have h0:=Lib.hid h
 obtain⟨A,cap,rfl,hcap,hlen⟩:=hr.form
 unfold maxLen at hlen
 have HI:=fun W (hW:Fr No w W)=>zAs s b Y _ xs ts W he (hr.keep0 hW) (hq.keep0 zzJ hW) (hb.keep hW)
 clear h
 go_enter Tryz.func171,Tryz.ntmps171
 go_wp2_with fail
 refine(HI _ (by exact frc)).mono ?_
 rintro e w1 ⟨hf1,⟨rfl,hA⟩ | ⟨i,hi,rfl,hA,hK⟩⟩
 ·clear HI hr hq
  have hfin:Hid (OwnL 42 4 ClsO w1 Y (.slice A xs.length cap) (xs.filter (kCls s))):=by
   rw[List.filter_eq_self.2 (fun x hx=>by rw[<-he] at hx;obtain⟨t,ht,rfl⟩:=List.mem_map.1 hx;exact hA t ht)]
   exact OwnL.keep zzJ h0.out hf1 (fun _ _ _ h=>h)
  clear h0 hA he
  go_wp2
  go_ret
  exact⟨_,rfl,hfin.out,fun _ h=>h,hf1.of0⟩
 ·obtain⟨g,c9,_,e9,_,_,_,_,_,hgq⟩:=hr.at_ (by omega)
  cases e9
  have hQ1:=Lib.hid (hq.keep0 zzJ hf1)
  have hR1:Hid (RowV w1 42 4 (.slice (some ⟨g,0,none⟩) xs.length cap) xs.length (rawL (ts.map (·.1)))):=Lib.hid (hr.keep0 hf1)
  have hK1:=Lib.hid (Kept.start (K:=fun t=>kCls s t.2.2) hi hA hK)
  have hB1:=hb.keep hf1
  have hgb:=hbne g hgq
  clear HI h0 hr hq hA hb hbne
  replace hK:=Lib.hid hK
  replace he:=Lib.hid he
  replace hgq:=Lib.hid hgq
  go_wp2_with fail
  rw[show((i:Int) == -1)=false from beq_eq_false_iff_ne.2 (by omega)]
  go_loopw [6,5] (fun jv iv wr=>∃(i j:Nat) (rows:List (Raw 4)),j≤xs.length∧i<j∧jv=.int .i64 j∧iv=.int .i64 i∧Hid (Kept (fun t=>kCls s t.2.2) ts i j rows)∧Hid (RowV wr 42 4 (.slice (some ⟨g,0,none⟩) xs.length cap) xs.length (rawL rows))∧Hid (OwnQ 4 ClsO ts wr Y (.slice (some ⟨g,0,none⟩) xs.length cap))∧Hid (Fr (fun q=>q=g) w1 wr)) (fun jv _ _=>xs.length-(intOf jv).toNat)
  case atStart=>exact⟨i,i+1,_,by omega,by omega,by go_num,rfl,hK1,hR1,hQ1,Lib.hid (Fr.refl _ _)⟩
  case round=>
   clear hK1 hR1 hQ1 hK
   obtain⟨i,j,rows,hj,hij,rfl,rfl,hK,hR,hQ,hF⟩:=hrel
   by_cases hlt:j<xs.length
   ·have hjt:j<ts.length:=by omega
    have hjr:j<rows.length:=by rw[hK.out.len];exact hjt
    have hcells:=(hR.out.rowAt (by rw[hK.out.len,hlt9]) hjr)
    obtain⟨hfz,hg,hcells⟩:=hcells
    rw[hK.out.at_ hjt] at hcells
    have hel:=hQ.out.el _ (List.getElem_mem hjt)
    have HD:=Lib.hid (fun h=>hK.out.drop hjt h)
    have HM:=Lib.hid (fun h=>hK.out.move hjt h)
    have hrl:rows.length=xs.length:=by rw[hK.out.len,hlt9]
    generalize ts[j]=t at *
    obtain⟨⟨cs,hcs⟩,Z,x⟩:=t
    dsimp only at *
    have hC:ClsC (fun b=>False) wr cs x:=ClsO.c hel (fun _ _ _ h=>h)
    have hC':=id hC
    obtain⟨vf,vm,rfl,_,_,h1,h2⟩:=hC'
    obtain⟨Af,cf,rfl,_,_⟩:=h1.form
    obtain⟨Am,cm,rfl,_,_⟩:=h2.form
    clear h1 h2
    have c0:=hcells 0 (by omega)
    have c1:=hcells 1 (by omega)
    have c2:=hcells 2 (by omega)
    have c3:=hcells 3 (by omega)
    simp only[lz3,lz4,Nat.add_zero] at c0 c1 c2 c3
    have hBr:=hB1.keepX hF.out (fun e=>hgb e.symm)
    have H:=fun W (hW:Fr No wr W)=>zAq s b x _ W (ClsC.keep hC hW zN) (hBr.keep hW)
    clear hcells hel
    replace hrl:=Lib.hid hrl
    cases hk9:kCls s x
    all_goals rw[hk9] at H
    ·have HS:=Lib.hid (HD.out hk9)
     clear HM HD hk9 hK hC
     go_wp2_with fail
     refine(H _ (by exact frc)).mono ?_
     rintro e w2 ⟨rfl,hf2⟩
     have hf2:=((Fr.refl No wr).alloc _).trans0 hf2
     have hR2:=Lib.hid (hR.out.keep0 hf2)
     have hQ2:=Lib.hid (hQ.out.keep0 zzJ hf2)
     have hF2:=Lib.hid (hF.out.trans0 hf2)
     clear hR hQ hF H
     go_wp2_with fail
     go_roundw
     case rel=>exact⟨i,j+1,rows,by omega,by omega,by go_num,rfl,HS,hR2,hQ2,hF2⟩
     case measure=>simp[intOf];omega
    ·have HS:=Lib.hid (HM.out hk9)
     clear HM HD hk9 hK hC
     go_wp2_with fail
     refine(H _ (by exact frc)).mono ?_
     rintro e w2 ⟨rfl,hf2⟩
     have hBv:=(Bx.new_ rfl:Bx (wr.alloc (.cells #[.string x.name,.string x.super,.slice Af x.fields.length cf,.slice Am x.methods.length cm] 42)) wr.heap.size 42 #[.string x.name,.string x.super,.slice Af x.fields.length cf,.slice Am x.methods.length cm]).keep hf2
     have hf2:=((Fr.refl No wr).alloc _).trans0 hf2
     have v:=hBv.c4
     have vl:=hBv.lt
     have hil:(i:Int)<(xs.length:Int):=by omega
     clear H hBv
     go_upto_region 9 with (fail)
     iterate 13 go_step
     have hR2:=hR.out.keep0 hf2
     refine wpList_store_row rfl 42 (.tmp 33) (.tmp 32) rfl 4 (by kernel_rfl) g xs.length cap i 42 rows [.string x.name,.string x.super,.slice Af x.fields.length cf,.slice Am x.methods.length cm] rfl rfl hR2 hrl.out (by have:=hrl.out;omega) rfl (by simp[Value.oneCell']) ?_
     intro w9 hrow9 hc9
     simp only[Act.put]
     have hQ2:=Lib.hid ((hQ.out.keep0 zzJ hf2).keep zzJ (hc9.mono (fun q _ e=>by rw[e];exact hgq.out)))
     have hF2:=Lib.hid ((hF.out.trans0 hf2).same hc9)
     replace hrow9:=Lib.hid hrow9
     clear hR hQ hF hR2 v vl
     go_wp2_with fail
     go_roundw
     case rel=>exact⟨i+1,j+1,_,by omega,by omega,by go_num,by go_num,HS,hrow9,hQ2,hF2⟩
     case measure=>simp[intOf];omega
   ·obtain rfl:j=xs.length:=by omega
    have hK9:=hK.out
    rw[<-hlt9] at hK9
    obtain⟨hp1,hp2⟩:=hK9.all
    have hil:i<xs.length:=hij
    have hrl:rows.length=xs.length:=by rw[hK.out.len,hlt9]
    clear hK hK9
    replace hp1:=Lib.hid hp1
    replace hp2:=Lib.hid hp2
    replace hrl:=Lib.hid hrl
    go_upto_region 11 with (fail)
    iterate 10 go_step
    refine zzQ rfl 64 42 (by kernel_rfl) (.tmp 38) rfl 4 g xs.length cap (cap-i) i (xs.length-i) rows rfl (by omega) (by omega) hR.out hrl.out _ zAr rfl (by decide) (by simp[Value.cells,Value.oneCell']) ?_
    intro w9 hrow9 hc9
    simp only[Act.put]
    rw[hp1.out] at hrow9
    have hv9:∀q,zcP (.slice (some ⟨g,0,none⟩) i cap)=some q->zcP (.slice (some ⟨g,0,none⟩) xs.length cap)=some q:=fun q h=>by rw[zcQ] at h ⊢;exact h
    have hQ9:=(hQ.out.keep zzJ (hc9.mono (fun q _ e=>by rw[e];exact hgq.out))).filter (fun t=>kCls s t.2.2) hv9
    have hF9:Fr (fun q=>zcP (.slice (some ⟨g,0,none⟩) xs.length cap)=some q) w w9:=(Fr.of0 hf1).same ((hF.out.same hc9).mono (fun q _ e=>by rw[e];exact hgq.out))
    have hO9:=hQ9.ownL (E:=42) (by rw[<-hp2.out];exact hrow9)
    rw[show(ts.filter (fun t=>kCls s t.2.2)).map (fun t=>t.2.2)=xs.filter (kCls s) by rw[<-he.out,List.filter_map];rfl] at hO9
    replace hO9:=Lib.hid hO9
    clear hR hQ hF hrow9 hc9 hQ9
    go_wp2_with fail
    refine bodyPost_ret (v:=.slice (some ⟨g,0,none⟩) i cap) (by simp[results,Tryz.results171,go_sem, *]) rfl ?_
    exact⟨_,rfl,hO9.out,hv9,hF9⟩
def kAsk (s:Str) (x:Ask):Bool:=!(x.name.toList == s.toList)
theorem zAu (s:Str) (b:Nat) (x:Ask) (cs:List Value) (w:World) (hx:AskC cs x) (hb:Bx w b 97 #[.string s]):
  Calls Tryz.prog 177 #[.agg cs.toArray,.pointer (some ⟨b,0,none⟩)] w (zgm (!(kAsk s x)) w):=by
 obtain⟨rfl,_⟩:=hx
 have e0:=hb.c1
 have hl:=hb.lt
 unfold kAsk
 rw[Bool.not_not]
 go_enter Tryz.func177,Tryz.ntmps177
 go_wp2
 go_ret
 exact .mk rfl (by exact frc)
theorem zAv (w:World):(zeroValue 86).run Tryz.prog w=.ok (.agg #[.string ⟨#[]⟩,.int .i64 0]) w:=by kernel_rfl
theorem zAw (s:Str) (b:Nat) (Y:Nat->Prop) (v:Value) (xs:List Ask) (ts:List (Tri Ask 2)) (w:World) (he:ts.map (·.2.2)=xs) (hr:RowV w 86 2 v xs.length (rawL (ts.map (·.1)))) (hq:OwnQ 2 (zzC AskC) ts w Y v) (hb:Bx w b 97 #[.string s]):
  Calls Tryz.prog 178 #[v,.func (.func 177) #[] #[.pointer (some ⟨b,0,none⟩)]] w (fun e w'=>Fr No w w'∧((e=.returned (.int .i64 (-1))∧∀t∈ts,kAsk s t.2.2=true)∨∃(i:Nat) (hi:i<ts.length),e=.returned (.int .i64 i)∧(∀t∈ts.take i,kAsk s t.2.2=true)∧kAsk s ts[i].2.2=false)):=by
 have hlt9:ts.length=xs.length:=by rw[<-he];simp
 obtain⟨A,cap,rfl,hcap,hlen⟩:=hr.form
 unfold maxLen at hlen
 go_enter Tryz.func178,Tryz.ntmps178
 go_wp2
 go_loopw [8,4] (fun i r wr=>∃k:Nat,k≤xs.length∧i=.int .i64 k∧r=.int .i64 0∧Hid (∀t∈ts.take k,kAsk s t.2.2=true)∧Fr No w wr) (fun i _ _=>xs.length-(intOf i).toNat)
 case atStart=>exact⟨0,Nat.zero_le _,rfl,rfl,by simp[Hid],Fr.refl _ _⟩
 case round=>
  obtain⟨k,hk,rfl,rfl,ha,hf⟩:=hrel
  by_cases hlt:k<xs.length
  ·have hkt:k<ts.length:=by omega
   obtain⟨g,c,he9,hcells⟩:∃g c,Value.slice A xs.length cap=.slice (some ⟨g,0,none⟩) xs.length c∧∀j,j<2->wr.cell? ⟨g,k * 2+j,none⟩=(ts[k].1).1[j]?:=by
    obtain⟨g,c,_,e,_⟩:=hr.at_ (by omega)
    have hr':=hr.keep0 hf
    rw[e] at hr'
    refine⟨g,c,e,fun j hj=>?_⟩
    have:=(hr'.rowAt (i:=k) (by simp[hlt9]) (by simpa using hkt)).2.2 j hj
    rwa [List.getElem_map] at this
   cases he9
   have hel:=(hq.keep0 (zzG _) hf).el _ (List.getElem_mem hkt)
   have HS:=Lib.hid (zAp (K:=fun t=>kAsk s t.2.2) hkt ha.out)
   have HN:=Lib.hid (fun h:kAsk s ts[k].2.2=false=>(⟨k,hkt,rfl,ha.out,h⟩:∃(i:Nat) (hi:i<ts.length),Ending.returned (.int .i64 (k:Int))=.returned (.int .i64 i)∧(∀t∈ts.take i,kAsk s t.2.2=true)∧kAsk s ts[i].2.2=false))
   generalize ts[k]=t at *
   obtain⟨⟨cs,hcs⟩,Z,x⟩:=t
   dsimp only at *
   have hC:AskC cs x:=hel
   have hC':=id hC
   obtain⟨rfl,_⟩:=hC'
   have c0:=hcells 0 (by omega)
   have c1:=hcells 1 (by omega)
   simp only[lz3,lz4,Nat.add_zero] at c0 c1
   have H:=fun W (hW:Fr No wr W)=>zAu s b x _ W (hC) ((hb.keep hf).keep hW)
   clear hcells hq hr he hel
   cases hk9:kAsk s x
   all_goals rw[hk9] at H
   ·have HN:=Lib.hid (HN.out hk9)
    clear HS hk9 hC ha
    go_wp2_with (go_at_call 177;refine(H _ (Fr.refl _ _)).mono ?_;rintro e w2 ⟨rfl,hf2⟩)
    go_ret
    exact⟨by exact frc,.inr HN.out⟩
   ·have HS:=Lib.hid (HS.out hk9)
    clear HN hk9 hC ha
    go_wp2_with (go_at_call 177;refine(H _ (Fr.refl _ _)).mono ?_;rintro e w2 ⟨rfl,hf2⟩)
    go_roundw
    case rel=>exact⟨k+1,by omega,by go_num,rfl,HS,by exact frc⟩
    case measure=>simp[intOf];omega
  ·have HS:Hid (∀t∈ts,kAsk s t.2.2=true):=Lib.hid (fun t ht=>ha.out t (by rw[List.take_of_length_le (by omega)];exact ht))
   clear hq hr he ha
   go_wp2
   go_ret
   exact⟨by exact frc,.inl ⟨rfl,HS.out⟩⟩
theorem zAx (s:Str) (b:Nat) (Y:Nat->Prop) (v:Value) (xs:List Ask) (w:World) (h:OwnL 86 2 (zzC AskC) w Y v xs) (hb:Bx w b 97 #[.string s]):
  Calls Tryz.prog 176 #[v,.func (.func 177) #[] #[.pointer (some ⟨b,0,none⟩)]] w (fun e w'=>∃v',e=.returned v'∧OwnL 86 2 (zzC AskC) w' Y v' (xs.filter (kAsk s))∧(∀q,zcP v'=some q->zcP v=some q)∧Fr (fun q=>zcP v=some q) w w'):=by
 obtain⟨ts,he,hr,hq⟩:=h.tri
 have hlt9:ts.length=xs.length:=by rw[<-he];simp
 have hbne:∀q,zcP v=some q->q≠b:=fun q h=>hr.ne hb (by decide) h
 have h0:=Lib.hid h
 obtain⟨A,cap,rfl,hcap,hlen⟩:=hr.form
 unfold maxLen at hlen
 have HI:=fun W (hW:Fr No w W)=>zAw s b Y _ xs ts W he (hr.keep0 hW) (hq.keep0 (zzG _) hW) (hb.keep hW)
 clear h
 go_enter Tryz.func176,Tryz.ntmps176
 go_wp2_with fail
 refine(HI _ (by exact frc)).mono ?_
 rintro e w1 ⟨hf1,⟨rfl,hA⟩ | ⟨i,hi,rfl,hA,hK⟩⟩
 ·clear HI hr hq
  have hfin:Hid (OwnL 86 2 (zzC AskC) w1 Y (.slice A xs.length cap) (xs.filter (kAsk s))):=by
   rw[List.filter_eq_self.2 (fun x hx=>by rw[<-he] at hx;obtain⟨t,ht,rfl⟩:=List.mem_map.1 hx;exact hA t ht)]
   exact OwnL.keep (zzG _) h0.out hf1 (fun _ _ _ h=>h)
  clear h0 hA he
  go_wp2
  go_ret
  exact⟨_,rfl,hfin.out,fun _ h=>h,hf1.of0⟩
 ·obtain⟨g,c9,_,e9,_,_,_,_,_,hgq⟩:=hr.at_ (by omega)
  cases e9
  have hQ1:=Lib.hid (hq.keep0 (zzG _) hf1)
  have hR1:Hid (RowV w1 86 2 (.slice (some ⟨g,0,none⟩) xs.length cap) xs.length (rawL (ts.map (·.1)))):=Lib.hid (hr.keep0 hf1)
  have hK1:=Lib.hid (Kept.start (K:=fun t=>kAsk s t.2.2) hi hA hK)
  have hB1:=hb.keep hf1
  have hgb:=hbne g hgq
  clear HI h0 hr hq hA hb hbne
  replace hK:=Lib.hid hK
  replace he:=Lib.hid he
  replace hgq:=Lib.hid hgq
  go_wp2_with fail
  rw[show((i:Int) == -1)=false from beq_eq_false_iff_ne.2 (by omega)]
  go_loopw [6,5] (fun jv iv wr=>∃(i j:Nat) (rows:List (Raw 2)),j≤xs.length∧i<j∧jv=.int .i64 j∧iv=.int .i64 i∧Hid (Kept (fun t=>kAsk s t.2.2) ts i j rows)∧Hid (RowV wr 86 2 (.slice (some ⟨g,0,none⟩) xs.length cap) xs.length (rawL rows))∧Hid (OwnQ 2 (zzC AskC) ts wr Y (.slice (some ⟨g,0,none⟩) xs.length cap))∧Hid (Fr (fun q=>q=g) w1 wr)) (fun jv _ _=>xs.length-(intOf jv).toNat)
  case atStart=>exact⟨i,i+1,_,by omega,by omega,by go_num,rfl,hK1,hR1,hQ1,Lib.hid (Fr.refl _ _)⟩
  case round=>
   clear hK1 hR1 hQ1 hK
   obtain⟨i,j,rows,hj,hij,rfl,rfl,hK,hR,hQ,hF⟩:=hrel
   by_cases hlt:j<xs.length
   ·have hjt:j<ts.length:=by omega
    have hjr:j<rows.length:=by rw[hK.out.len];exact hjt
    have hcells:=(hR.out.rowAt (by rw[hK.out.len,hlt9]) hjr)
    obtain⟨hfz,hg,hcells⟩:=hcells
    rw[hK.out.at_ hjt] at hcells
    have hel:=hQ.out.el _ (List.getElem_mem hjt)
    have HD:=Lib.hid (fun h=>hK.out.drop hjt h)
    have HM:=Lib.hid (fun h=>hK.out.move hjt h)
    have hrl:rows.length=xs.length:=by rw[hK.out.len,hlt9]
    generalize ts[j]=t at *
    obtain⟨⟨cs,hcs⟩,Z,x⟩:=t
    dsimp only at *
    have hC:AskC cs x:=hel
    have hC':=id hC
    obtain⟨rfl,_⟩:=hC'
    have c0:=hcells 0 (by omega)
    have c1:=hcells 1 (by omega)
    simp only[lz3,lz4,Nat.add_zero] at c0 c1
    have hBr:=hB1.keepX hF.out (fun e=>hgb e.symm)
    have H:=fun W (hW:Fr No wr W)=>zAu s b x _ W (hC) (hBr.keep hW)
    clear hcells hel
    replace hrl:=Lib.hid hrl
    cases hk9:kAsk s x
    all_goals rw[hk9] at H
    ·have HS:=Lib.hid (HD.out hk9)
     clear HM HD hk9 hK hC
     go_wp2_with fail
     refine(H _ (by exact frc)).mono ?_
     rintro e w2 ⟨rfl,hf2⟩
     have hf2:=((Fr.refl No wr).alloc _).trans0 hf2
     have hR2:=Lib.hid (hR.out.keep0 hf2)
     have hQ2:=Lib.hid (hQ.out.keep0 (zzG _) hf2)
     have hF2:=Lib.hid (hF.out.trans0 hf2)
     clear hR hQ hF H
     go_wp2_with fail
     go_roundw
     case rel=>exact⟨i,j+1,rows,by omega,by omega,by go_num,rfl,HS,hR2,hQ2,hF2⟩
     case measure=>simp[intOf];omega
    ·have HS:=Lib.hid (HM.out hk9)
     clear HM HD hk9 hK hC
     go_wp2_with fail
     refine(H _ (by exact frc)).mono ?_
     rintro e w2 ⟨rfl,hf2⟩
     have hBv:=(Bx.new_ rfl:Bx (wr.alloc (.cells #[.string x.name,.int .i64 x.keeper] 86)) wr.heap.size 86 #[.string x.name,.int .i64 x.keeper]).keep hf2
     have hf2:=((Fr.refl No wr).alloc _).trans0 hf2
     have v:=hBv.c2
     have vl:=hBv.lt
     have hil:(i:Int)<(xs.length:Int):=by omega
     clear H hBv
     go_upto_region 9 with (fail)
     iterate 13 go_step
     have hR2:=hR.out.keep0 hf2
     refine wpList_store_row rfl 86 (.tmp 33) (.tmp 32) rfl 2 (by kernel_rfl) g xs.length cap i 86 rows [.string x.name,.int .i64 x.keeper] rfl rfl hR2 hrl.out (by have:=hrl.out;omega) rfl (by simp[Value.oneCell']) ?_
     intro w9 hrow9 hc9
     simp only[Act.put]
     have hQ2:=Lib.hid ((hQ.out.keep0 (zzG _) hf2).keep (zzG _) (hc9.mono (fun q _ e=>by rw[e];exact hgq.out)))
     have hF2:=Lib.hid ((hF.out.trans0 hf2).same hc9)
     replace hrow9:=Lib.hid hrow9
     clear hR hQ hF hR2 v vl
     go_wp2_with fail
     go_roundw
     case rel=>exact⟨i+1,j+1,_,by omega,by omega,by go_num,by go_num,HS,hrow9,hQ2,hF2⟩
     case measure=>simp[intOf];omega
   ·obtain rfl:j=xs.length:=by omega
    have hK9:=hK.out
    rw[<-hlt9] at hK9
    obtain⟨hp1,hp2⟩:=hK9.all
    have hil:i<xs.length:=hij
    have hrl:rows.length=xs.length:=by rw[hK.out.len,hlt9]
    clear hK hK9
    replace hp1:=Lib.hid hp1
    replace hp2:=Lib.hid hp2
    replace hrl:=Lib.hid hrl
    go_upto_region 11 with (fail)
    iterate 10 go_step
    refine zzQ rfl 65 86 (by kernel_rfl) (.tmp 38) rfl 2 g xs.length cap (cap-i) i (xs.length-i) rows rfl (by omega) (by omega) hR.out hrl.out _ zAv rfl (by decide) (by simp[Value.cells,Value.oneCell']) ?_
    intro w9 hrow9 hc9
    simp only[Act.put]
    rw[hp1.out] at hrow9
    have hv9:∀q,zcP (.slice (some ⟨g,0,none⟩) i cap)=some q->zcP (.slice (some ⟨g,0,none⟩) xs.length cap)=some q:=fun q h=>by rw[zcQ] at h ⊢;exact h
    have hQ9:=(hQ.out.keep (zzG _) (hc9.mono (fun q _ e=>by rw[e];exact hgq.out))).filter (fun t=>kAsk s t.2.2) hv9
    have hF9:Fr (fun q=>zcP (.slice (some ⟨g,0,none⟩) xs.length cap)=some q) w w9:=(Fr.of0 hf1).same ((hF.out.same hc9).mono (fun q _ e=>by rw[e];exact hgq.out))
    have hO9:=hQ9.ownL (E:=86) (by rw[<-hp2.out];exact hrow9)
    rw[show(ts.filter (fun t=>kAsk s t.2.2)).map (fun t=>t.2.2)=xs.filter (kAsk s) by rw[<-he.out,List.filter_map];rfl] at hO9
    replace hO9:=Lib.hid hO9
    clear hR hQ hF hrow9 hc9 hQ9
    go_wp2_with fail
    refine bodyPost_ret (v:=.slice (some ⟨g,0,none⟩) i cap) (by simp[results,Tryz.results176,go_sem, *]) rfl ?_
    exact⟨_,rfl,hO9.out,hv9,hF9⟩
end Go.Proofs.YtpghfhjhjlmljaaGreat
