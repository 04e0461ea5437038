/- The reference's lists without a name (printed by pgo.py). -/
import Derived.Test.YtpghfhjhjlmljaaGreatPG28
set_option maxHeartbeats 8000000
set_option maxRecDepth 100000
namespace Go.Proofs.YtpghfhjhjlmljaaGreat
open Go.RowKit
theorem zBF (X:Nat->Prop) (v:Value) (xs:List Cls) (s:Str) (u:Value) (ys:List Cls) (w:World) (h:Sl X w 4 (ClsC X w) v xs) (hu:Sl X w 4 (ClsC X w) u ys) (hX:∀b,X b->b<w.heap.size) (hl1:xs.length≤1000) (hl2:ys.length≤1000):
  Calls Tryz.prog 39 #[v,.string s,u] w (fun e w'=>∃v',e=.returned v'∧Sl X w' 4 (ClsC X w') v' (xs.filter (kCls s) ++ ys)∧Fr No w w'):=by
 obtain⟨A,cap,rfl,_,_⟩:=h.form
 obtain⟨B,cb,rfl,_,_⟩:=hu.form
 have hfA:Fr No w (w.alloc (.cells #[] 42)):=frc
 go_enter Tryz.func39,Tryz.ntmps39
 go_wp2_with fail
 go_loopw [8,7] (fun i o wr=>∃(k:Nat),k≤xs.length∧i=.int .i64 k∧Hid (SnR 42 4 (zBt (ClsC X w)) w.heap.size wr o ((xs.take k).filter (kCls s)))∧Fr No w wr) (fun i _ _=>xs.length-(intOf i).toNat)
 case atStart=>exact⟨0,Nat.zero_le _,rfl,Lib.hid (SnR.lit _),hfA⟩
 case round=>
  rename_i oV
  obtain⟨k,hk,rfl,hT,hF⟩:=hrel
  obtain⟨Ao,co,rfl,_,_⟩:=hT.out.form
  have hfl:=List.length_filter_le (kCls s) (xs.take k)
  rw[List.length_take] at hfl
  by_cases hlt:k<xs.length
  ·obtain⟨b,off,Af,cf,Am,cm,rfl,_,x0,x1,x2,x3,z1,z2,h1,h2,_,_,_,_⟩:=h.cls hlt
   have hbl:=lt_of_cell x0
   have y0:=hF.keep0 x0
   have y1:=hF.keep0 x1
   have y2:=hF.keep0 x2
   have y3:=hF.keep0 x3
   have hbr:=lt_of_cell y0
   have hxs:=List.take_succ_eq_append_getElem hlt
   have hEC:ClsC X w [.string xs[k].name,.string xs[k].super,.slice Af xs[k].fields.length cf,.slice Am xs[k].methods.length cm] xs[k]:=⟨_,_,rfl,z1,z2,h1,h2⟩
   clear h1 h2
   generalize hx:xs[k]=x at *
   replace hx:=Lib.hid hx
   have hfs:=hF.size
   cases hq:kCls s x
   ·have hstr:(x.name.toList == s.toList)=true:=by
     cases h9:(x.name.toList == s.toList)
     ·unfold kCls at hq;rw[h9] at hq;cases hq
     ·rfl
    have e9:(xs.take (k+1)).filter (kCls s)=(xs.take k).filter (kCls s):=by
     rw[hxs,List.filter_append,List.filter_cons_of_neg (by simp[hq]),List.filter_nil,List.append_nil]
    have hT9:Hid (SnR 42 4 (zBt (ClsC X w)) w.heap.size wr (.slice Ao ((xs.take k).filter (kCls s)).length co) ((xs.take (k+1)).filter (kCls s))):=by
     rw[e9]
     exact hT.out
    clear hxs hT hq hfl e9
    go_wp2_with fail
    go_roundw
    case rel=>exact⟨k+1,by omega,by go_num,hT9,hF⟩
    case measure=>simp[intOf];omega
   ·have hstr:(x.name.toList == s.toList)=false:=by
     cases h9:(x.name.toList == s.toList)
     ·rfl
     ·unfold kCls at hq;rw[h9] at hq;cases hq
    have e9:(xs.take (k+1)).filter (kCls s)=(xs.take k).filter (kCls s) ++ [x]:=by
     rw[hxs,List.filter_append,List.filter_cons_of_pos (by simp[hq]),List.filter_nil]
    have hfX:=(Fr.refl No wr).alloc (.cells #[.string x.name,.string x.super,.slice Af x.fields.length cf,.slice Am x.methods.length cm] 42)
    obtain⟨js,j1,j2,j3,j4⟩:=hT.out.keep (zBu (ClsC X w)) hfX zN
    have hjk:js.length≤k:=by omega
    replace e9:=Lib.hid e9
    clear hxs hT hq
    go_upto_region 6 with (fail)
    go_wp2_with (at_builtin;refine Hid.out ?_)
    refine Lib.hid ?_
    refine zqH zAh rfl _ _ rfl (.slice Ao ((xs.take k).filter (kCls s)).length co) ((xs.take k).filter (kCls s)).length js rfl j1.symm j2 (by omega) wr.heap.size 42 [.string x.name,.string x.super,.slice Af x.fields.length cf,.slice Am x.methods.length cm] rfl (Bx.new _ _ _) rfl (by simp[Value.oneCell']) ?_
    intro g8 d8 w9 hrow8 hcap8 hgf8 hor8
    simp only[Act.put,lz0,lz1,lz2]
    have hN:=SnR.snoc (zBu (ClsC X w)) (x:=x) j1 j3 j4 hrow8 hgf8 hor8 (by simp;omega) hEC
    have hF9:Fr No w w9:=(hF.trans0 hfX).trans hgf8 (fun b hb e=>by have:=j3 _ e;omega)
    rw[<-e9.out] at hN
    have hl9:=congrArg List.length e9.out
    rw[List.length_append,List.length_singleton] at hl9
    replace hl9:=Lib.hid hl9
    replace hN:=Lib.hid hN
    clear j1 j2 j3 j4 hrow8 hgf8 hor8 hfX hfl hjk
    go_wp2_with fail
    go_roundw
    case rel=>exact⟨k+1,by omega,by go_num,by rw[hl9.out] at hN;exact hN,hF9⟩
    case measure=>simp[intOf];omega
  ·obtain rfl:k=xs.length:=by omega
   have hT':=hT.out
   rw[List.take_length] at hT' hfl ⊢
   obtain⟨js,j1,j2,j3,j4⟩:=hT'
   obtain⟨ks,e1,r1,s1⟩:=hu.raws
   have s1:=s1.rawKeep hF zN
   have hone:=OneC.of e1 r1 zrK
   clear hT
   go_upto_region 7 with (fail)
   go_wp2_with (at_builtin;refine Hid.out ?_)
   refine Lib.hid ?_
   refine zBo zAh rfl _ _ rfl (.slice Ao (xs.filter (kCls s)).length co) (xs.filter (kCls s)).length js rfl j1.symm j2 (by omega) X (.slice B ys.length cb) ks rfl s1 (by omega) hone ?_
   intro A9 c9 w9 hrow9 hgf9 hor9
   simp only[Act.put,lz0,lz1,lz2]
   rw[e1] at hrow9 hor9 ⊢
   have hfs:=hF.size
   have hF9:Fr No w w9:=hF.trans hgf9 (fun b hb e=>by have:=j3 _ e;omega)
   have hfin:=Lib.hid (show Sl X w9 4 (ClsC X w9) (.slice A9 ((xs.filter (kCls s)).length+ys.length) c9) (xs.filter (kCls s) ++ ys) from
    RowV.rawSl (ks:=js ++ ks) (by rw[List.length_append];exact hrow9) (by simp[j1,e1]) (fun i a b=>by
     rcases Nat.lt_or_ge i (xs.filter (kCls s)).length with h9|h9
     ·rw[List.getElem_append_left (by rw[j1];exact h9),List.getElem_append_left h9]
      have h:=j4 i (by rw[j1];exact h9) h9
      exact ClsC.keep h hF9 zN
     ·rw[List.getElem_append_right (by rw[j1];exact h9),List.getElem_append_right h9]
      have h:=r1 (i-js.length) (by rw[List.length_append] at a;rw[j1] at a ⊢;omega) (by rw[List.length_append] at b;rw[j1];omega)
      simp only[j1] at h ⊢
      exact ClsC.keep h hF9 zN) (fun q hq e=>by have:=hX q e;rcases hor9 q hq with h9|h9;have:=j3 q h9;omega;omega))
   clear j1 j2 j3 j4 hrow9 hgf9 hor9 r1 s1 hone e1 h hu hF
   go_wp2_with fail
   refine bodyPost_ret (v:=.slice A9 ((xs.filter (kCls s)).length+ys.length) c9) (by simp[results,Tryz.results39,go_sem, *]) rfl ?_
   exact⟨_,rfl,hfin.out,hF9⟩
theorem zBG (X:Nat->Prop) (v:Value) (xs:List Ask) (s:Str) (u:Value) (ys:List Ask) (w:World) (h:Sl X w 2 (AskC) v xs) (hu:Sl X w 2 (AskC) u ys) (hX:∀b,X b->b<w.heap.size) (hl1:xs.length≤1000) (hl2:ys.length≤1000):
  Calls Tryz.prog 40 #[v,.string s,u] w (fun e w'=>∃v',e=.returned v'∧Sl X w' 2 (AskC) v' (xs.filter (kAsk s) ++ ys)∧Fr No w w'):=by
 obtain⟨A,cap,rfl,_,_⟩:=h.form
 obtain⟨B,cb,rfl,_,_⟩:=hu.form
 have hfA:Fr No w (w.alloc (.cells #[] 86)):=frc
 go_enter Tryz.func40,Tryz.ntmps40
 go_wp2_with fail
 go_loopw [8,7] (fun i o wr=>∃(k:Nat),k≤xs.length∧i=.int .i64 k∧Hid (SnR 86 2 (zBt (AskC)) w.heap.size wr o ((xs.take k).filter (kAsk s)))∧Fr No w wr) (fun i _ _=>xs.length-(intOf i).toNat)
 case atStart=>exact⟨0,Nat.zero_le _,rfl,Lib.hid (SnR.lit _),hfA⟩
 case round=>
  rename_i oV
  obtain⟨k,hk,rfl,hT,hF⟩:=hrel
  obtain⟨Ao,co,rfl,_,_⟩:=hT.out.form
  have hfl:=List.length_filter_le (kAsk s) (xs.take k)
  rw[List.length_take] at hfl
  by_cases hlt:k<xs.length
  ·obtain⟨b,off,rfl,_,x0,x1,z1⟩:=h.ask hlt
   have hbl:=lt_of_cell x0
   have y0:=hF.keep0 x0
   have y1:=hF.keep0 x1
   have hbr:=lt_of_cell y0
   have hxs:=List.take_succ_eq_append_getElem hlt
   have hEC:AskC [.string xs[k].name,.int .i64 xs[k].keeper] xs[k]:=⟨rfl,z1⟩
   clear z1
   generalize hx:xs[k]=x at *
   replace hx:=Lib.hid hx
   have hfs:=hF.size
   cases hq:kAsk s x
   ·have hstr:(x.name.toList == s.toList)=true:=by
     cases h9:(x.name.toList == s.toList)
     ·unfold kAsk at hq;rw[h9] at hq;cases hq
     ·rfl
    have e9:(xs.take (k+1)).filter (kAsk s)=(xs.take k).filter (kAsk s):=by
     rw[hxs,List.filter_append,List.filter_cons_of_neg (by simp[hq]),List.filter_nil,List.append_nil]
    have hT9:Hid (SnR 86 2 (zBt (AskC)) w.heap.size wr (.slice Ao ((xs.take k).filter (kAsk s)).length co) ((xs.take (k+1)).filter (kAsk s))):=by
     rw[e9]
     exact hT.out
    clear hxs hT hq hfl e9
    go_wp2_with fail
    go_roundw
    case rel=>exact⟨k+1,by omega,by go_num,hT9,hF⟩
    case measure=>simp[intOf];omega
   ·have hstr:(x.name.toList == s.toList)=false:=by
     cases h9:(x.name.toList == s.toList)
     ·rfl
     ·unfold kAsk at hq;rw[h9] at hq;cases hq
    have e9:(xs.take (k+1)).filter (kAsk s)=(xs.take k).filter (kAsk s) ++ [x]:=by
     rw[hxs,List.filter_append,List.filter_cons_of_pos (by simp[hq]),List.filter_nil]
    have hfX:=(Fr.refl No wr).alloc (.cells #[.string x.name,.int .i64 x.keeper] 86)
    obtain⟨js,j1,j2,j3,j4⟩:=hT.out.keep (zBu (AskC)) hfX zN
    have hjk:js.length≤k:=by omega
    replace e9:=Lib.hid e9
    clear hxs hT hq
    go_upto_region 6 with (fail)
    go_wp2_with (at_builtin;refine Hid.out ?_)
    refine Lib.hid ?_
    refine zqH zz8 rfl _ _ rfl (.slice Ao ((xs.take k).filter (kAsk s)).length co) ((xs.take k).filter (kAsk s)).length js rfl j1.symm j2 (by omega) wr.heap.size 86 [.string x.name,.int .i64 x.keeper] rfl (Bx.new _ _ _) rfl (by simp[Value.oneCell']) ?_
    intro g8 d8 w9 hrow8 hcap8 hgf8 hor8
    simp only[Act.put,lz0,lz1,lz2]
    have hN:=SnR.snoc (zBu (AskC)) (x:=x) j1 j3 j4 hrow8 hgf8 hor8 (by simp;omega) hEC
    have hF9:Fr No w w9:=(hF.trans0 hfX).trans hgf8 (fun b hb e=>by have:=j3 _ e;omega)
    rw[<-e9.out] at hN
    have hl9:=congrArg List.length e9.out
    rw[List.length_append,List.length_singleton] at hl9
    replace hl9:=Lib.hid hl9
    replace hN:=Lib.hid hN
    clear j1 j2 j3 j4 hrow8 hgf8 hor8 hfX hfl hjk
    go_wp2_with fail
    go_roundw
    case rel=>exact⟨k+1,by omega,by go_num,by rw[hl9.out] at hN;exact hN,hF9⟩
    case measure=>simp[intOf];omega
  ·obtain rfl:k=xs.length:=by omega
   have hT':=hT.out
   rw[List.take_length] at hT' hfl ⊢
   obtain⟨js,j1,j2,j3,j4⟩:=hT'
   obtain⟨ks,e1,r1,s1⟩:=hu.raws
   have s1:=s1.rawKeep hF zN
   have hone:=OneC.of e1 r1 zrQ
   clear hT
   go_upto_region 7 with (fail)
   go_wp2_with (at_builtin;refine Hid.out ?_)
   refine Lib.hid ?_
   refine zBo zz8 rfl _ _ rfl (.slice Ao (xs.filter (kAsk s)).length co) (xs.filter (kAsk s)).length js rfl j1.symm j2 (by omega) X (.slice B ys.length cb) ks rfl s1 (by omega) hone ?_
   intro A9 c9 w9 hrow9 hgf9 hor9
   simp only[Act.put,lz0,lz1,lz2]
   rw[e1] at hrow9 hor9 ⊢
   have hfs:=hF.size
   have hF9:Fr No w w9:=hF.trans hgf9 (fun b hb e=>by have:=j3 _ e;omega)
   have hfin:=Lib.hid (show Sl X w9 2 (AskC) (.slice A9 ((xs.filter (kAsk s)).length+ys.length) c9) (xs.filter (kAsk s) ++ ys) from
    RowV.rawSl (ks:=js ++ ks) (by rw[List.length_append];exact hrow9) (by simp[j1,e1]) (fun i a b=>by
     rcases Nat.lt_or_ge i (xs.filter (kAsk s)).length with h9|h9
     ·rw[List.getElem_append_left (by rw[j1];exact h9),List.getElem_append_left h9]
      have h:=j4 i (by rw[j1];exact h9) h9
      exact h
     ·rw[List.getElem_append_right (by rw[j1];exact h9),List.getElem_append_right h9]
      have h:=r1 (i-js.length) (by rw[List.length_append] at a;rw[j1] at a ⊢;omega) (by rw[List.length_append] at b;rw[j1];omega)
      simp only[j1] at h ⊢
      exact h) (fun q hq e=>by have:=hX q e;rcases hor9 q hq with h9|h9;have:=j3 q h9;omega;omega))
   clear j1 j2 j3 j4 hrow9 hgf9 hor9 r1 s1 hone e1 h hu hF
   go_wp2_with fail
   refine bodyPost_ret (v:=.slice A9 ((xs.filter (kAsk s)).length+ys.length) c9) (by simp[results,Tryz.results40,go_sem, *]) rfl ?_
   exact⟨_,rfl,hfin.out,hF9⟩
end Go.Proofs.YtpghfhjhjlmljaaGreat
