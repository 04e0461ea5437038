/- The reference's reading of a method's first line. -/
import Derived.Test.YtmeaibjmnjcdfaaGreatDoorZG16
set_option maxHeartbeats 8000000
set_option maxRecDepth 100000
namespace Go.Proofs.YtmeaibjmnjcdfaaGreatDoor
open Go.RowKit
def zre (k:Knd):Raw 2:=⟨[.int .i64 k.kind,.string k.name],rfl⟩
def zrj (w:World) (n:Nat) (v:Value) (ks:List Knd):Prop:=RowV w 91 2 v ks.length (rawL (ks.map zre))∧(∀q,zcP v=some q->n≤q)∧∀k∈ks,k.name.size≤maxLen
theorem zrj.sl {w:World} {n:Nat} {v:Value} {xs:List Knd} (h:zrj w n v xs):Sl (fun b=>b<n) w 2 KndC v xs:=by
 refine h.1.rawSl (by simp) (fun i h1 h2=>?_) (fun q hq=>by have:=h.2.1 q hq;omega)
 rw[List.getElem_map]
 exact⟨rfl,h.2.2 _ (List.getElem_mem h2)⟩
theorem zrj.nil (w:World) (n:Nat):zrj w n (.slice none 0 0) []:=⟨RowV.nil _ _ _,(fun q hq=>by cases hq),fun _ h=>absurd h (by simp)⟩
theorem zrj.keep {X:Nat->Prop} {w w':World} {n:Nat} {v:Value} {ks:List Knd} (h:zrj w n v ks) (hf:Fr X w w') (hX:∀q,zcP v=some q->¬X q):zrj w' n v ks:=⟨h.1.keep hf hX,h.2⟩
def zrl (q:Mth×Bool) (w:World) (e:Ending) (w':World):Prop:=∃cs:List Value,e=.returned (.tuple #[.agg cs.toArray,.bool q.2])∧MthC (fun b=>b<w.heap.size) w' cs q.1∧Fr No w w'
theorem zrl.zero {w w':World} (hf:Fr No w w'):zrl (zqj,false) w (.returned (.tuple #[.agg #[.string ⟨#[]⟩,.slice none 0 0,.int .i64 0,.string ⟨#[]⟩,.int .i64 0,.int .i64 0,.slice none 0 0,.slice none 0 0],.bool false])) w':=
 ⟨[.string ⟨#[]⟩,.slice none 0 0,.int .i64 0,.string ⟨#[]⟩,.int .i64 0,.int .i64 0,.slice none 0 0,.slice none 0 0],rfl,⟨.slice none 0 0,.slice none 0 0,.slice none 0 0,rfl,Nat.zero_le _,Nat.zero_le _,Sl.nil _ _ _ _,Sl.nil _ _ _ _,Sl.nil _ _ _ _⟩,hf⟩
def NRow {α:Type} (T:TypeId) {sz:Nat} (raw:α->Raw sz) (ok:α->Prop) (w:World) (n:Nat) (v:Value) (xs:List α):Prop:=RowV w T sz v xs.length (rawL (xs.map raw))∧(∀q,zcP v=some q->n≤q)∧∀x∈xs,ok x
section
variable {α:Type} {T:TypeId} {sz:Nat} {raw:α->Raw sz} {ok:α->Prop} {w w':World} {n:Nat} {v:Value} {xs:List α}
theorem NRow.sl {R:List Value->α->Prop} (hR:∀x,ok x->R (raw x).1 x) (h:NRow T raw ok w n v xs):Sl (fun b=>b<n) w sz R v xs:=by
 refine h.1.rawSl (by simp) (fun i h1 h2=>?_) (fun q hq=>by have:=h.2.1 q hq;omega)
 rw[List.getElem_map]
 exact hR _ (h.2.2 _ (List.getElem_mem h2))
theorem NRow.nil (T:TypeId) (raw:α->Raw sz) (ok:α->Prop) (w:World) (n:Nat):NRow T raw ok w n (.slice none 0 0) []:=⟨RowV.nil _ _ _,(fun q hq=>by cases hq),fun _ h=>absurd h (by simp)⟩
theorem NRow.keep {X:Nat->Prop} (h:NRow T raw ok w n v xs) (hf:Fr X w w') (hX:∀q,zcP v=some q->¬X q):NRow T raw ok w' n v xs:=⟨h.1.keep hf hX,h.2⟩
end
def zrn (k:Tag):Raw 2:=⟨[.int .i64 k.kind,.string k.name],rfl⟩
def zro (k:Tag):Prop:=k.name.size≤maxLen
abbrev zrr (w:World) (n:Nat) (v:Value) (ts:List Tag):Prop:=NRow 146 zrn zro w n v ts
theorem zrr.sl {w:World} {n:Nat} {v:Value} {ts:List Tag} (h:zrr w n v ts):Sl (fun b=>b<n) w 2 TagC v ts:=NRow.sl (fun _ h=>⟨rfl,h⟩) h
def zrv (q:Mp×Bool) (w:World) (e:Ending) (w':World):Prop:=∃cs:List Value,e=.returned (.tuple #[.agg cs.toArray,.bool q.2])∧MapC (fun b=>b<w.heap.size) w' cs q.1∧Fr No w w'
theorem zrv.zero {w w':World} (hf:Fr No w w'):zrv (noMp,false) w (.returned (.tuple #[.agg #[.int .i64 0,.slice none 0 0,.slice none 0 0],.bool false])) w':=
 ⟨[.int .i64 0,.slice none 0 0,.slice none 0 0],rfl,⟨.slice none 0 0,.slice none 0 0,rfl,Sl.nil _ _ _ _,Sl.nil _ _ _ _⟩,hf⟩
theorem zrx (k:Nat) (hk:k≤15) (w:World):Calls Tryz.prog 130 #[.int .i64 (k:Int)] w (Gives (.string (zbl (insW k))) w):=by
 have h:k=0∨k=1∨k=2∨k=3∨k=4∨k=5∨k=6∨k=7∨k=8∨k=9∨k=10∨k=11∨k=12∨k=13∨k=14∨k=15:=by omega
 rcases h with rfl|rfl|rfl|rfl|rfl|rfl|rfl|rfl|rfl|rfl|rfl|rfl|rfl|rfl|rfl|rfl
 all_goals
  go_enter Tryz.func130,Tryz.ntmps130
  go_wp2
  go_ret
  exact .mk rfl (by exact frc)
theorem zry (op:Int) (w:World) (h0:0≤op) (h1:op≤15):Calls Tryz.prog 130 #[.int .i64 op] w (Gives (.string (zbl (insW op.toNat))) w):=by
 obtain⟨k,rfl⟩:=Int.eq_ofNat_of_zero_le h0
 exact zrx k (by omega) w
theorem zrz (k:Nat):(insW k).length≤5:=by
 by_cases h:k<16
 ·have:∀k,k<16->(insW k).length≤5:=by decide
  exact this k h
 ·unfold insW
  rw[List.getD_eq_getElem?_getD,List.getElem?_eq_none (by simp;omega)]
  simp
theorem zrA {i:Ins} (h:insB i=true):((i.op=1∨i.op=2∨i.op=3∨i.op=11∨i.op=12∨i.op=13)∧-10000<i.a∧i.a<10000)∨(i.op=6∨i.op=15)∧i.name.size≤6∨(i.op=7∨i.op=8∨i.op=9)∧i.name.size≤6∧i.member.size≤6∨(i.op=4∨i.op=5∨i.op=10∨i.op=14):=by
 have hn:∀s:Str,namB s=true->s.size≤6:=fun s h=>by
  unfold namB at h
  simp at h
  omega
 unfold insB at h
 split at h
 ·rename_i h1
  left
  simp only[lz5,decide_eq_true_eq] at h
  have h3:-9999≤zfx i.op:=by unfold zfx;split<;>omega
  have h4:zfy i.op≤9999:=by unfold zfy;split<;>(try split)<;>omega
  exact⟨by unfold zft at h1;simp only[Bool.or_eq_true,beq_iff_eq] at h1;omega,by omega,by omega⟩
 ·split at h
  ·rename_i h1
   simp only[lz5] at h
   right;left
   exact⟨by unfold zfu at h1;simp only[Bool.or_eq_true,beq_iff_eq] at h1;omega,hn _ h.1.2⟩
  ·split at h
   ·rename_i h1
    simp only[lz5] at h
    right;right;left
    exact⟨by unfold zfv at h1;simp only[Bool.or_eq_true,beq_iff_eq] at h1;omega,hn _ h.1.2,hn _ h.2⟩
   ·simp only[lz5] at h
    right;right;right
    have h1:=h.1.1.1
    unfold zfw at h1
    simp only[Bool.or_eq_true,beq_iff_eq] at h1
    omega
theorem zrB (i:Ins) (w:World) (hs:i.name.size≤maxLen) (hm:i.member.size≤maxLen):
  Calls Tryz.prog 89 #[.agg #[.int .i64 i.op,.int .i64 i.a,.string i.name,.string i.member]] w (Gives (.string (zbl (zqr i))) w):=by
 have HO:=fun W=>zly i W hs hm
 have hB:=Bx.new w 127 #[.int .i64 i.op,.int .i64 i.a,.string i.name,.string i.member]
 obtain⟨V,hV⟩:∃V,V=zqr i:=⟨_,rfl⟩
 rw[<-hV]
 unfold zqr at hV
 cases hb:insB i
 ·rw[hb] at HO hV
  rw[if_neg (by decide)] at hV
  subst hV
  go_enter Tryz.func89,Tryz.ntmps89
  go_wp2_with (go_at_call 129;refine(HO _).mono ?_;rintro e w1 ⟨rfl,hf1⟩)
  go_ret
  exact .mk rfl (by exact frc)
 ·rw[hb] at HO hV
  rw[if_pos rfl] at hV
  have hcase:=zrA hb
  clear hb
  obtain⟨op,a,s,m⟩:=i
  dsimp only at *
  have hop:0≤op∧op≤15:=by omega
  have HW:=fun W=>zry op W hop.1 hop.2
  have hwl:(zbl (insW op.toNat)).size≤5:=zrz _
  generalize insW op.toNat=wd at *
  have h32:(⟨#[32]⟩:Str).size=1:=rfl
  rcases hcase with ⟨ho,ha1,ha2⟩ | ⟨ho,h6⟩ | ⟨ho,h6,h7⟩|ho
  ·have HNm:=fun W=>zqM a W (by omega) (by omega)
   have hz:(zbl (numL a)).size≤7:=by
    rw[zpT]
    have:=zp7 (n:=a.natAbs) (by omega)
    unfold numL
    split<;>simp<;>omega
   rw[if_pos ho] at hV
   replace hV:=Lib.hid hV
   rcases ho with rfl|rfl|rfl|rfl|rfl|rfl
   all_goals
    go_enter Tryz.func89,Tryz.ntmps89
    go_wp2_with (first
     | (go_at_call 129;refine(HO _).mono ?_;rintro e w1 ⟨rfl,hf1⟩;have hB1:=hB.keep hf1;obtain⟨b0,b1,b2,b3⟩:=hB1.c4;have bl:=hB1.lt)
     | (go_at_call 130;refine(HW _).mono ?_;rintro e w2 ⟨rfl,hf2⟩;have hB2:=hB1.keep hf2;obtain⟨d0,d1,d2,d3⟩:=hB2.c4;have dl:=hB2.lt)
     | (go_at_call 131;refine(HNm _).mono ?_;rintro e w3 ⟨rfl,hf3⟩))
    go_ret
    refine .mk ?_ (by exact frc)
    rw[hV.out]
    show Value.string (zbl wd ++ zbl [32] ++ zbl (numL a))=_
    rw[zqJ,zqJ,List.append_assoc];rfl
  ·rw[if_neg (by omega),if_pos ho] at hV
   replace hV:=Lib.hid hV
   rcases ho with rfl|rfl
   all_goals
    go_enter Tryz.func89,Tryz.ntmps89
    go_wp2_with (first
     | (go_at_call 129;refine(HO _).mono ?_;rintro e w1 ⟨rfl,hf1⟩;have hB1:=hB.keep hf1;obtain⟨b0,b1,b2,b3⟩:=hB1.c4;have bl:=hB1.lt)
     | (go_at_call 130;refine(HW _).mono ?_;rintro e w2 ⟨rfl,hf2⟩;have hB2:=hB1.keep hf2;obtain⟨d0,d1,d2,d3⟩:=hB2.c4;have dl:=hB2.lt)
     | fail)
    go_ret
    refine .mk ?_ (by exact frc)
    rw[hV.out]
    show Value.string (zbl wd ++ zbl [32] ++ zbl (Str.l s))=_
    rw[zqJ,zqJ,List.append_assoc];rfl
  ·rw[if_neg (by omega),if_neg (by omega),if_pos ho] at hV
   replace hV:=Lib.hid hV
   rcases ho with rfl|rfl|rfl
   all_goals
    go_enter Tryz.func89,Tryz.ntmps89
    go_wp2_with (first
     | (go_at_call 129;refine(HO _).mono ?_;rintro e w1 ⟨rfl,hf1⟩;have hB1:=hB.keep hf1;obtain⟨b0,b1,b2,b3⟩:=hB1.c4;have bl:=hB1.lt)
     | (go_at_call 130;refine(HW _).mono ?_;rintro e w2 ⟨rfl,hf2⟩;have hB2:=hB1.keep hf2;obtain⟨d0,d1,d2,d3⟩:=hB2.c4;have dl:=hB2.lt)
     | fail)
    go_ret
    refine .mk ?_ (by exact frc)
    rw[hV.out]
    show Value.string (zbl wd ++ zbl [32] ++ zbl (Str.l s) ++ zbl [32] ++ zbl (Str.l m))=_
    rw[zqJ,zqJ,zqJ,zqJ]
    simp
  ·rw[if_neg (by omega),if_neg (by omega),if_neg (by omega)] at hV
   replace hV:=Lib.hid hV
   rcases ho with rfl|rfl|rfl|rfl
   all_goals
    go_enter Tryz.func89,Tryz.ntmps89
    go_wp2_with (first
     | (go_at_call 129;refine(HO _).mono ?_;rintro e w1 ⟨rfl,hf1⟩;have hB1:=hB.keep hf1;obtain⟨b0,b1,b2,b3⟩:=hB1.c4;have bl:=hB1.lt)
     | (go_at_call 130;refine(HW _).mono ?_;rintro e w2 ⟨rfl,hf2⟩;have hB2:=hB1.keep hf2;obtain⟨d0,d1,d2,d3⟩:=hB2.c4;have dl:=hB2.lt)
     | fail)
    go_ret
    refine .mk ?_ (by exact frc)
    rw[hV.out];rfl
end Go.Proofs.YtmeaibjmnjcdfaaGreatDoor
