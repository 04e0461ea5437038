/- An instruction's text, as the program writes it. -/
import Derived.Test.YtmeaibjmnjcdfaaGreatDoorZG18
set_option maxHeartbeats 8000000
set_option maxRecDepth 100000
namespace Go.Proofs.YtmeaibjmnjcdfaaGreatDoor
open Go.RowKit
theorem zyt (i:Ins) (w:World) (hs:i.name.size≤maxLen) (hm:i.member.size≤maxLen) (ht:TabW w):
  Calls Tryz.prog 101 #[.agg #[.int .i64 i.op,.int .i64 i.a,.string i.name,.string i.member]] w (Gives (.string (zbl (zqr i))) w):=by
 have HO:=fun W=>zfU i W hs hm
 have HF:=fun W=>zfA i W
 have hB:=Bx.new w 127 #[.int .i64 i.op,.int .i64 i.a,.string i.name,.string i.member]
 obtain⟨V,hV⟩:∃V,V=zqr i:=⟨_,rfl⟩
 rw[<-hV]
 unfold zqr at hV
 cases hb:insB i
 ·rw[hb] at HO hV
  rw[if_neg (by decide)] at hV
  subst hV
  clear HF
  go_enter Tryz.func101,Tryz.ntmps101
  go_wp2_with (go_at_call 144;refine(HO _).mono ?_;rintro e w1 ⟨rfl,hf1⟩)
  go_ret
  exact .mk rfl (by exact frc)
 ·rw[hb] at HO hV
  rw[if_pos rfl] at hV
  have hcase:=zrA hb
  clear hb
  obtain⟨op,a,s,m⟩:=i
  dsimp only at *
  have hop:0≤op∧op≤15:=by omega
  have HW:=fun W=>zyl op W hop.1 hop.2
  have hwl:(zbl (insW op.toNat)).size≤5:=zrz _
  generalize insW op.toNat=wd at *
  have h32:(⟨#[32]⟩:Str).size=1:=rfl
  unfold zfz at HF
  dsimp only at HF
  rcases hcase with ⟨ho,ha1,ha2⟩ | ⟨ho,h6⟩ | ⟨ho,h6,h7⟩|ho
  ·have hz:(zbl (numL a)).size≤7:=by rw[zpT];exact zyi a (by omega) (by omega)
   have HI:=fun W (hW:Fr No w W)=>zyh a W (by omega) (by omega) (ht.keep hW)
   rw[if_pos ho] at hV
   have h1:zft op=true:=by unfold zft;simp only[Bool.or_eq_true,beq_iff_eq];omega
   rw[h1,if_pos rfl] at HF
   clear h1 ho
   replace hV:=Lib.hid hV
   have an:=fun v W=>zfB (x:=20) (v:=v) W Tryz.underlying206
   go_enter Tryz.func101,Tryz.ntmps101
   go_wp2_with (first
    | (go_at_call 144;refine(HO _).mono ?_;rintro e w1 ⟨rfl,hf1⟩;have hB1:=hB.keep hf1;obtain⟨b0,b1,b2,b3⟩:=hB1.c4;have bl:=hB1.lt)
    | (go_at_call 145;refine(HW _).mono ?_;rintro e w2 ⟨rfl,hf2⟩;have hB2:=hB1.keep hf2;obtain⟨d0,d1,d2,d3⟩:=hB2.c4;have dl:=hB2.lt)
    | (go_at_call 146;refine(HF _).mono ?_;rintro e w3 ⟨rfl,hf3⟩)
    | (go_at_call 32;refine(HI _ (by exact frc)).mono ?_;rintro e w4 ⟨rfl,hf4⟩))
   go_ret
   refine .mk ?_ (by exact frc)
   rw[hV.out]
   show Value.string (zbl wd ++ (zbl [32] ++ zbl (numL a)))=_
   rw[zqJ,zqJ]
   rfl
  ·have HI:=fun W (hW:Fr No w W)=>zyh 0 W (by omega) (by omega) (ht.keep hW)
   rw[if_neg (by omega),if_pos ho] at hV
   have h1:zft op=false:=by unfold zft;simp only[Bool.or_eq_false_iff,beq_eq_false_iff_ne];omega
   have h2:zfu op=true:=by unfold zfu;simp only[Bool.or_eq_true,beq_iff_eq];omega
   rw[h1,if_neg (by decide),h2,if_pos rfl] at HF
   clear h1 h2 ho
   replace hV:=Lib.hid hV
   have an:=fun v W=>zfC (x:=20) (t:=208) (v:=v) W Tryz.underlying206 rfl (zero_num W)
   have ac:=fun v W=>zfB (x:=20) (v:=v) W Tryz.underlying208
   go_enter Tryz.func101,Tryz.ntmps101
   go_wp2_with (first
    | (go_at_call 144;refine(HO _).mono ?_;rintro e w1 ⟨rfl,hf1⟩;have hB1:=hB.keep hf1;obtain⟨b0,b1,b2,b3⟩:=hB1.c4;have bl:=hB1.lt)
    | (go_at_call 145;refine(HW _).mono ?_;rintro e w2 ⟨rfl,hf2⟩;have hB2:=hB1.keep hf2;obtain⟨d0,d1,d2,d3⟩:=hB2.c4;have dl:=hB2.lt)
    | (go_at_call 146;refine(HF _).mono ?_;rintro e w3 ⟨rfl,hf3⟩)
    | (go_at_call 32;refine(HI _ (by exact frc)).mono ?_;rintro e w4 ⟨rfl,hf4⟩))
   go_ret
   refine .mk ?_ (by exact frc)
   rw[hV.out]
   show Value.string (zbl wd ++ (zbl [32] ++ zbl (Str.l s)))=_
   rw[zqJ,zqJ]
   rfl
  ·have HI:=fun W (hW:Fr No w W)=>zyh 0 W (by omega) (by omega) (ht.keep hW)
   rw[if_neg (by omega),if_neg (by omega),if_pos ho] at hV
   have h1:zft op=false:=by unfold zft;simp only[Bool.or_eq_false_iff,beq_eq_false_iff_ne];omega
   have h2:zfu op=false:=by unfold zfu;simp only[Bool.or_eq_false_iff,beq_eq_false_iff_ne];omega
   have h3:zfv op=true:=by unfold zfv;simp only[Bool.or_eq_true,beq_iff_eq];omega
   rw[h1,if_neg (by decide),h2,if_neg (by decide),h3,if_pos rfl] at HF
   clear h1 h2 h3 ho
   replace hV:=Lib.hid hV
   have an:=fun v W=>zfC (x:=20) (t:=210) (v:=v) W Tryz.underlying206 rfl (zero_num W)
   have ac:=fun v W=>zfC (x:=20) (t:=210) (v:=v) W Tryz.underlying208 rfl (zfE W)
   have am:=fun v W=>zfB (x:=20) (v:=v) W Tryz.underlying210
   go_enter Tryz.func101,Tryz.ntmps101
   go_wp2_with (first
    | (go_at_call 144;refine(HO _).mono ?_;rintro e w1 ⟨rfl,hf1⟩;have hB1:=hB.keep hf1;obtain⟨b0,b1,b2,b3⟩:=hB1.c4;have bl:=hB1.lt)
    | (go_at_call 145;refine(HW _).mono ?_;rintro e w2 ⟨rfl,hf2⟩;have hB2:=hB1.keep hf2;obtain⟨d0,d1,d2,d3⟩:=hB2.c4;have dl:=hB2.lt)
    | (go_at_call 146;refine(HF _).mono ?_;rintro e w3 ⟨rfl,hf3⟩)
    | (go_at_call 32;refine(HI _ (by exact frc)).mono ?_;rintro e w4 ⟨rfl,hf4⟩))
   go_ret
   refine .mk ?_ (by exact frc)
   rw[hV.out]
   show Value.string (zbl wd ++ (zbl [32] ++ zbl (Str.l s) ++ zbl [32] ++ zbl (Str.l m)))=_
   rw[zqJ,zqJ,zqJ,zqJ]
   simp
  ·have HI:=fun W (hW:Fr No w W)=>zyh 0 W (by omega) (by omega) (ht.keep hW)
   rw[if_neg (by omega),if_neg (by omega),if_neg (by omega)] at hV
   have h1:zft op=false:=by unfold zft;simp only[Bool.or_eq_false_iff,beq_eq_false_iff_ne];omega
   have h2:zfu op=false:=by unfold zfu;simp only[Bool.or_eq_false_iff,beq_eq_false_iff_ne];omega
   have h3:zfv op=false:=by unfold zfv;simp only[Bool.or_eq_false_iff,beq_eq_false_iff_ne];omega
   have h4:zfw op=true:=by unfold zfw;simp only[Bool.or_eq_true,beq_iff_eq];omega
   rw[h1,if_neg (by decide),h2,if_neg (by decide),h3,if_neg (by decide),h4,if_pos rfl] at HF
   clear h1 h2 h3 h4 ho
   replace hV:=Lib.hid hV
   have an:=fun v W=>zfC (x:=20) (t:=236) (v:=v) W Tryz.underlying206 rfl (zero_num W)
   have ac:=fun v W=>zfC (x:=20) (t:=236) (v:=v) W Tryz.underlying208 rfl (zfE W)
   have am:=fun v W=>zfC (x:=20) (t:=236) (v:=v) W Tryz.underlying210 rfl (zero_mem W)
   go_enter Tryz.func101,Tryz.ntmps101
   go_wp2_with (first
    | (go_at_call 144;refine(HO _).mono ?_;rintro e w1 ⟨rfl,hf1⟩;have hB1:=hB.keep hf1;obtain⟨b0,b1,b2,b3⟩:=hB1.c4;have bl:=hB1.lt)
    | (go_at_call 145;refine(HW _).mono ?_;rintro e w2 ⟨rfl,hf2⟩;have hB2:=hB1.keep hf2;obtain⟨d0,d1,d2,d3⟩:=hB2.c4;have dl:=hB2.lt)
    | (go_at_call 146;refine(HF _).mono ?_;rintro e w3 ⟨rfl,hf3⟩)
    | (go_at_call 32;refine(HI _ (by exact frc)).mono ?_;rintro e w4 ⟨rfl,hf4⟩))
   go_ret
   refine .mk ?_ (by exact frc)
   rw[hV.out]
   rfl
def BytC (cs:List Value) (n:Int):Prop:=cs=[.int .u8 n]∧0≤n∧n<256
def RdB (w:World) (rb q:Nat):Prop:=∃(v:Value) (bs:List Int) (p:Nat),Bx w rb 117 #[v,.int .i64 p]∧Sl (fun b=>rb≤b) w 1 BytC v bs∧p≤q
theorem RdB.keep {w w':World} {rb q:Nat} (h:RdB w rb q) (hf:Fr No w w'):RdB w' rb q:=by
 obtain⟨v,bs,p,h1,h2,h3⟩:=h
 exact⟨v,bs,p,h1.keep hf,h2.k0 hf,h3⟩
theorem RdB.far {X:Nat->Prop} {w w':World} {rb q:Nat} (h:RdB w rb q) (hf:Fr X w w') (hX:∀b,X b->rb<b):RdB w' rb q:=by
 obtain⟨v,bs,p,h1,h2,h3⟩:=h
 exact⟨v,bs,p,h1.keepX hf (fun e=>by have:=hX _ e;omega),h2.keep hf (fun b e=>Nat.le_of_lt (hX b e)) (fun _ _ _ h=>h),h3⟩
theorem RdB.lt {w:World} {rb q:Nat} (h:RdB w rb q):rb<w.heap.size:=by
 obtain⟨v,bs,p,h1,h2,h3⟩:=h
 exact h1.lt
theorem RdB.up {w:World} {rb q q':Nat} (h:RdB w rb q) (hq:q≤q'):RdB w rb q':=by
 obtain⟨v,bs,p,h1,h2,h3⟩:=h
 exact⟨v,bs,p,h1,h2,by omega⟩
def RRow {α:Type} (E:TypeId) (sz:Nat) (R:List Value->α->Prop) (w:World) (n:Nat) (v:Value) (xs:List α):Prop:=
 ∃ks:List (Raw sz),ks.length=xs.length∧RowV w E sz v xs.length (rawL ks)∧(∀q,zcP v=some q->n≤q)∧∀i (h1:i<ks.length) (h2:i<xs.length),R ks[i].1 xs[i]
theorem RRow.sl {α:Type} {E:TypeId} {sz:Nat} {R:List Value->α->Prop} {w:World} {n:Nat} {v:Value} {xs:List α} {X:Nat->Prop} (h:RRow E sz R w n v xs) (hX:∀q,n≤q->¬X q):Sl X w sz R v xs:=by
 obtain⟨ks,h1,h2,h3,h4⟩:=h
 exact h2.rawSl h1 h4 (fun q hq=>hX q (h3 q hq))
theorem RRow.keep {α:Type} {E:TypeId} {sz:Nat} {R R':List Value->α->Prop} {w w':World} {n:Nat} {v:Value} {xs:List α} {X:Nat->Prop} (h:RRow E sz R w n v xs) (hf:Fr X w w') (hX:∀q,zcP v=some q->¬X q) (hR:∀cs x,x∈xs->R cs x->R' cs x):RRow E sz R' w' n v xs:=by
 obtain⟨ks,h1,h2,h3,h4⟩:=h
 exact⟨ks,h1,h2.keep hf hX,h3,fun i a b=>hR _ _ (List.getElem_mem b) (h4 i a b)⟩
theorem Sl.pre {α:Type} {X:Nat->Prop} {w:World} {sz:Nat} {R:List Value->α->Prop} {A:Option Addr} {n c:Nat} {xs ys:List α} (h:Sl X w sz R (.slice A n c) (xs ++ ys)):Sl X w sz R (.slice A xs.length c) xs:=by
 obtain⟨A',c',he,h1,h2,h3⟩:=h
 simp only[Value.slice.injEq] at he
 obtain⟨rfl,rfl,rfl⟩:=he
 have hla:=@List.length_append _ xs ys
 refine⟨A,c,rfl,by omega,by omega,fun h0=>?_⟩
 obtain⟨b,off,hA,hX,hc⟩:=h3 (by omega)
 refine⟨b,off,hA,hX,fun k hk=>?_⟩
 obtain⟨cs,g1,g2,g3⟩:=hc k (by rw[List.length_append];omega)
 rw[List.getElem_append_left hk] at g1
 exact⟨cs,g1,g2,g3⟩
end Go.Proofs.YtmeaibjmnjcdfaaGreatDoor
