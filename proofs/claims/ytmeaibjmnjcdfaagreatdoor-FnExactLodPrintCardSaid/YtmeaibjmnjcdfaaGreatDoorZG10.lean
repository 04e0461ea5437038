/- The reference's reading of texts: words, numbers written and read. -/
import Derived.Test.YtmeaibjmnjcdfaaGreatDoorZG6
import Derived.Test.YtmeaibjmnjcdfaaGreatDoorZG9
import Derived.Laws.IdiomStrings
set_option maxHeartbeats 2000000
set_option maxRecDepth 100000
namespace Go.Proofs.YtmeaibjmnjcdfaaGreatDoor
open Go.RowKit
def StrC (cs:List Value) (s:Str):Prop:=cs=[.string s]∧s.size≤maxLen
theorem Sl.strs {X:Nat->Prop} {w:World} {A:Option Addr} {n cap:Nat} {ws:List Str} (h:Sl X w 1 StrC (.slice A n cap) ws) {k:Nat} (hk:k<ws.length):∃b off,A=some ⟨b,off,none⟩∧¬X b∧w.cell? ⟨b,off+k,none⟩=some (.string ws[k])∧ws[k].size≤maxLen:=by
 obtain⟨b,off,cs,hA,hX,⟨rfl,hs⟩,hc⟩:=h.cells hk
 refine⟨b,off,hA,hX,?_,hs⟩
 have:=hc 0 _ (by decide) rfl
 simpa using this
theorem zqI (W:World) (b:Nat) (d:UInt8) (hc:W.cell? ⟨b,0,none⟩=some (.int .u8 (d.toNat:Int))):
  (convert 41 9 (.slice (some ⟨b,0,none⟩) 1 1)).run Tryz.prog W=.ok (.string (zbl [d])) W:=by
 have:=run_convert_bytes_back (P:=Tryz.prog) W 41 9 5 ⟨b,0,none⟩ 1 [d] Tryz.underlying41 Tryz.underlying5 Tryz.underlying9 (fun j hj=>by
  simp only[List.length_cons,List.length_nil] at hj
  obtain rfl:j=0:=by omega
  exact hc)
 exact this
theorem zqJ (a b:Bs):zbl a ++ zbl b=zbl (a ++ b):=by
 apply ByteArray.ext
 simp[zbl,ByteArray.data_append]
theorem zqK (n:Nat) (h:n≤9):((zp1 n).toNat:Int)=48+n:=by
 unfold zp1
 rw[UInt8.toNat_ofNat']
 omega
theorem zqL (n:Nat) (w:World) (hn:n≤1000000000):Calls Tryz.prog 29 #[.int .i64 (n:Int)] w (Gives (.string (zbl (zp3 n))) w):=by
 go_enter Tryz.func29,Tryz.ntmps29
 go_wp2
 go_loopw [0,3] (fun i o wr=>∃(m:Nat) (s:Bs),s.length+m≤n∧i=.int .i64 m∧o=.string (zbl s)∧Hid (zp3 n=zp2 m m s)∧Fr No w wr) (fun i _ _=>(intOf i).toNat)
 case atStart=>exact⟨n,[],by simp,rfl,rfl,rfl,Fr.refl _ _⟩
 case round=>
  obtain⟨m,s,hm,rfl,rfl,hd,hf⟩:=hrel
  by_cases hlt:9<m
  ·have hx:=zqK (m % 10) (by omega)
   have hc2:∀W b,W.cell? ⟨b,0,none⟩=some (.int .u8 (48+(m:Int) % 10))->(convert 41 9 (.slice (some ⟨b,0,none⟩) 1 1)).run Tryz.prog W=.ok (.string (zbl [zp1 (m % 10)])) W:=fun W b h=>zqI W b _ (by rw[h,hx];simp)
   have hz:=zpT [zp1 (m % 10)]
   have hz2:=zpT s
   clear hx
   go_wp2
   go_roundw
   case rel=>
    refine⟨m / 10,zp1 (m % 10) :: s,by simp;omega,by go_num,?_,?_,by exact frc⟩
    ·rw[zqJ];rfl
    ·show _=_
     rw[hd.out,zp5 hlt]
   case measure=>simp[intOf];omega
  ·have hx:=zqK m (by omega)
   have hc2:∀W b,W.cell? ⟨b,0,none⟩=some (.int .u8 (48+(m:Int)))->(convert 41 9 (.slice (some ⟨b,0,none⟩) 1 1)).run Tryz.prog W=.ok (.string (zbl [zp1 m])) W:=fun W b h=>zqI W b _ (by rw[h,hx])
   have hz:=zpT [zp1 m]
   have hz2:=zpT s
   clear hx
   go_wp2
   go_ret
   refine .mk ?_ (by exact frc)
   rw[zqJ,hd.out,zp6 hlt];rfl
theorem zqM (n:Int) (w:World) (h1:-100000<n) (h2:n<100000):Calls Tryz.prog 131 #[.int .i64 n] w (Gives (.string (zbl (numL n))) w):=by
 by_cases h0:n<0
 ·obtain⟨m,rfl⟩:∃m:Nat,n=-(m:Int):=⟨n.natAbs,by omega⟩
  have e:(-(m:Int)).natAbs=m:=by omega
  have hV:Hid (numL (-(m:Int))=45 :: zp3 m):=by unfold Hid numL;rw[if_pos h0,e]
  have HP:=fun W=>zqL m W (by omega)
  have hz:(zbl (zp3 m)).size≤1000:=by rw[zpT];have:=zp7 (n:=m) (by omega);omega
  go_enter Tryz.func131,Tryz.ntmps131
  go_wp2_with (go_at_call 29;refine(HP _).mono ?_;rintro e w1 ⟨rfl,hf1⟩)
  go_ret
  refine .mk ?_ (by exact frc)
  rw[hV.out]
  exact congrArg Value.string (zqJ [45] _)
 ·obtain⟨m,rfl⟩:=Int.eq_ofNat_of_zero_le (show 0≤n by omega)
  have hV:Hid (numL (m:Int)=zp3 m):=by unfold Hid numL;rw[if_neg h0];rfl
  have HP:=fun W=>zqL m W (by omega)
  go_enter Tryz.func131,Tryz.ntmps131
  go_wp2_with (go_at_call 29;refine(HP _).mono ?_;rintro e w1 ⟨rfl,hf1⟩)
  go_ret
  exact .mk (by rw[hV.out];rfl) (by exact frc)
theorem zqN (s:Str) (k:Nat) (h:k<s.size):(Str.l s)[k]'(by rw[zkb];exact h)=s[k]:=by
 show s.data.toList[k]=s.data[k]
 simp
theorem zqO (s:Str) (k:Nat) (h:k<s.size):(Str.l s).drop k=s[k] :: (Str.l s).drop (k+1):=by
 rw[List.drop_eq_getElem_cons (by rw[zkb];exact h),zqN]
theorem zqP (s:Str):(Str.l s).drop s.size=[]:=List.drop_of_length_le (by rw[zkb];exact Nat.le_refl _)
theorem zqQ (s:Str):(zp9 (Str.l s)=0∧s.size=0)∨(∃h:0<s.size,zp9 (Str.l s)=0∧((s[0].toNat:Int) == 45)=false)∨(∃h:0<s.size,zp9 (Str.l s)=1∧((s[0].toNat:Int) == 45)=true):=by
 rcases Nat.eq_zero_or_pos s.size with h0|h0
 ·left
  have:Str.l s=[]:=List.eq_nil_of_length_eq_zero (by rw[zkb];exact h0)
  rw[this]
  exact⟨rfl,h0⟩
 ·have e:(Str.l s).head? =some s[0]:=by
   have:=zqO s 0 h0
   rw[List.drop_zero] at this
   rw[this];rfl
  by_cases h:s[0]=45
  ·exact .inr (.inr ⟨h0,by unfold zp9;rw[e,h];rfl,by rw[h];rfl⟩)
  ·refine .inr (.inl ⟨h0,by unfold zp9;rw[e,if_neg (by simpa using h)],beq_eq_false_iff_ne.2 (fun h9=>h (UInt8.toNat_inj.1 ?_))⟩)
   have:(45:UInt8).toNat=45:=rfl
   omega
theorem zqR (s:Str):s.toList=Str.l s:=toList_data s
theorem zqS (s:Str) (w:World) (hs:s.size≤maxLen):Calls Tryz.prog 106 #[.string s] w (Gives (.tuple #[.int .i64 (zqb s).1,.bool (zqb s).2]) w):=by
 unfold maxLen at hs
 obtain⟨V,hV⟩:∃V,V=zqb s:=⟨_,rfl⟩
 rw[<-hV]
 unfold zqb zqa at hV
 rw[zkb] at hV
 rcases zqQ s with ⟨ha,h0⟩ | ⟨h0,ha,h45⟩ | ⟨h0,ha,h45⟩
 ·rw[ha,if_pos (.inl h0)] at hV
  subst hV
  have d1:((s.size:Int) == 0)=true:=beq_iff_eq.2 (by omega)
  have d2:decide (0<(s.size:Int))=false:=decide_eq_false (by omega)
  clear h0
  go_enter Tryz.func106,Tryz.ntmps106
  go_wp2
  refine bodyPost_ret (v:=.tuple #[.int .i64 0,.bool false]) (by simp[results,Tryz.results106,go_sem]) rfl ?_
  exact .mk rfl (by exact frc)
 all_goals
  have HA:=Lib.hid ha
  have d0:decide (0<(s.size:Int))=true:=decide_eq_true (by omega)
  have hb:(s.size=1∧zp9 (Str.l s)=1)∨(zp9 (Str.l s)<s.size∧zp9 (Str.l s)+4<s.size)∨(zp9 (Str.l s)<s.size∧s.size≤zp9 (Str.l s)+4):=by omega
  rw[ha] at hb
  clear ha
  rcases hb with ⟨hb,hb2⟩ | ⟨hb,hb2⟩ | ⟨hb,hb2⟩
  ·try(exact absurd hb2 (by decide))
   all_goals rw[if_pos (.inl (by have:=HA.out;omega))] at hV
   all_goals subst hV
   all_goals have d1:((s.size:Int) == 1)=true:=beq_iff_eq.2 (by omega)
   all_goals clear hb hb2
   all_goals go_enter Tryz.func106,Tryz.ntmps106
   all_goals go_wp2
   all_goals refine bodyPost_ret (v:=.tuple #[.int .i64 0,.bool false]) (by simp[results,Tryz.results106,go_sem]) rfl ?_
   all_goals exact .mk rfl (by exact frc)
  ·rw[if_pos (.inr (by have:=HA.out;omega))] at hV
   subst hV
   have g4:4<s.size:=by omega
   try have g5:5<s.size:=by omega
   have d1:((s.size:Int) == 0)=false:=beq_eq_false_iff_ne.2 (by omega)
   have d2:((s.size:Int) == 1)=false:=beq_eq_false_iff_ne.2 (by omega)
   clear hb hb2
   go_enter Tryz.func106,Tryz.ntmps106
   go_wp2
   refine bodyPost_ret (v:=.tuple #[.int .i64 0,.bool false]) (by simp[results,Tryz.results106,go_sem]) rfl ?_
   exact .mk rfl (by exact frc)
  ·rw[if_neg (by have:=HA.out;omega)] at hV
   have d1:((s.size:Int) == 0)=false:=beq_eq_false_iff_ne.2 (by omega)
   try have d2:((s.size:Int) == 1)=false:=beq_eq_false_iff_ne.2 (by omega)
   have d3:decide (4<(s.size:Int))=decide (4<(s.size:Int)):=rfl
   clear d3
   try have d4:decide (4<(s.size:Int))=false:=decide_eq_false (by omega)
   try have d5:decide (5<(s.size:Int))=false:=decide_eq_false (by omega)
   go_enter Tryz.func106,Tryz.ntmps106
   go_wp2
   go_loopw [4,6] (fun n i wr=>∃k m:Nat,zp9 (Str.l s)≤k∧k≤s.size∧i=.int .i64 k∧n=.int .i64 m∧Hid (m<10 ^ (k-zp9 (Str.l s)))∧Hid (zp8 ((Str.l s).drop (zp9 (Str.l s))) 0=zp8 ((Str.l s).drop k) m)∧wr=w) (fun _ i _=>s.size-(intOf i).toNat)
   case atStart=>exact⟨zp9 (Str.l s),0,Nat.le_refl _,by have:=HA.out;omega,by rw[HA.out];rfl,rfl,by show 0<10 ^ _;simp,rfl,rfl⟩
   case round=>
    obtain⟨k,m,hk1,hk,rfl,rfl,hm,hd,rfl⟩:=hrel
    by_cases hlt:k<s.size
    ·have hdr:=zqO s k hlt
     have hm4:m<1000:=by
      have:=hm.out
      have h9:10 ^ (k-zp9 (Str.l s))≤10 ^ 3:=Nat.pow_le_pow_right (by decide) (by have:=HA.out;omega)
      omega
     by_cases hg:s[k].toNat<48∨57<s[k].toNat
     ·have hno:zp8 ((Str.l s).drop (zp9 (Str.l s))) 0=none:=by rw[hd.out,hdr,zp8,if_pos hg]
      rw[hno] at hV
      replace hV:=Lib.hid hV
      clear hno hd hm hdr
      rcases hg with hg|hg
      all_goals
       go_wp2
       refine bodyPost_ret (v:=.tuple #[.int .i64 0,.bool false]) (by simp[results,Tryz.results106,go_sem]) rfl ?_
       exact .mk (by rw[hV.out]) (by exact frc)
     ·have hd2:Hid (zp8 ((Str.l s).drop (zp9 (Str.l s))) 0=zp8 ((Str.l s).drop (k+1)) (m * 10+(s[k].toNat-48))):=by
       show _=_
       rw[hd.out,hdr,zp8,if_neg hg]
      have hm2:Hid (m * 10+(s[k].toNat-48)<10 ^ (k+1-zp9 (Str.l s))):=by
       have:=hm.out
       have e:k+1-zp9 (Str.l s)=k-zp9 (Str.l s)+1:=by omega
       show _<_
       rw[e,Nat.pow_succ]
       omega
      have g1:48≤s[k].toNat:=by omega
      have g2:s[k].toNat≤57:=by omega
      clear hg hd hm hdr
      go_wp2
      go_roundw
      case rel=>exact⟨k+1,_,by omega,by omega,by go_num,by go_num,hm2,hd2,trivial⟩
      case measure=>simp[intOf];omega
    ·obtain rfl:k=s.size:=by omega
     have hres:zp8 ((Str.l s).drop (zp9 (Str.l s))) 0=some m:=by rw[hd.out,zqP,zp8]
     rw[hres] at hV
     have hmm:m<10000:=by
      have:=hm.out
      have h9:10 ^ (s.size-zp9 (Str.l s))≤10 ^ 4:=Nat.pow_le_pow_right (by decide) (by have:=HA.out;omega)
      omega
     have HN:=fun W=>zqM (signed (zp9 (Str.l s)) m) W (by unfold signed;split<;>omega) (by unfold signed;split<;>omega)
     have hsg:signed (zp9 (Str.l s)) m=m∨signed (zp9 (Str.l s)) m=-(m:Int):=by unfold signed;split;exact .inr rfl;exact .inl rfl
     dsimp only at hV
     rw[HA.out] at HN hV
     simp only[signed,if_true,Nat.zero_ne_one,if_false] at HN hV
     replace hV:=Lib.hid hV
     clear hm hd hres hsg
     go_wp2_with (go_at_call 131;refine(HN _).mono ?_;rintro e w1 ⟨rfl,hf1⟩)
     refine bodyPost_ret (v:=.tuple #[.int .i64 V.1,.bool V.2]) ?_ rfl ?_
     ·rw[hV.out]
      simp[results,Tryz.results106,go_sem,zqR,zi1]
     ·exact .mk rfl (by exact frc)
def zqT (s:Str):Raw 1:=⟨[.string s],rfl⟩
theorem zqU (ss:List Str):OneC (ss.map zqT):=by
 intro u hu
 obtain⟨k,hk,hu⟩:=List.mem_flatMap.1 hu
 obtain⟨x,_,rfl⟩:=List.mem_map.1 hk
 simp only[zqT,List.mem_singleton] at hu
 subst hu;rfl
theorem zqV:(Tryz.prog.info? 9).map (fun i=>(i.zero,i.size,i.bytes))=some (some (.string ⟨#[]⟩),1,16):=by kernel_rfl
theorem zqW {S E:TypeId} {z:Value} {sz bytes:Nat} (hu:Tryz.prog.underlying S=some (.slice E)) (h:(Tryz.prog.info? E).map (fun i=>(i.zero,i.size,i.bytes))=some (some z,sz,bytes)) (hz:z.cells.size=sz) (h0:0<sz) (hb:bytes≤1000):ElT S E sz bytes:=by
 obtain⟨i,h1,h2,h3,h4⟩:=info_parts h
 exact⟨hu,⟨i,z,h1,h2,h3,h4,hz⟩,h0,hb⟩
theorem zqX:ElT 26 9 1 16:=zqW Tryz.underlying26 zqV rfl (by decide) (by decide)
def zqY (w:World) (n:Nat) (v:Value) (xs:List Str):Prop:=RowV w 9 1 v xs.length (rawL (xs.map zqT))∧∀q,zcP v=some q->n≤q
theorem zqY.sl {w:World} {n:Nat} {v:Value} {xs:List Str} (h:zqY w n v xs) (hs:∀x∈xs,x.size≤maxLen):Sl (fun b=>b<n) w 1 StrC v xs:=by
 refine h.1.rawSl (by simp) (fun i h1 h2=>?_) (fun q hq=>by have:=h.2 q hq;omega)
 rw[List.getElem_map]
 exact⟨rfl,hs _ (List.getElem_mem h2)⟩
end Go.Proofs.YtmeaibjmnjcdfaaGreatDoor
