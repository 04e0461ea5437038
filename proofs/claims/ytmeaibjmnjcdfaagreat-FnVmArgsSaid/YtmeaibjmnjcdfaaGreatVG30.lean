/- The reference's reading of an instruction. -/
import Derived.Test.YtmeaibjmnjcdfaaGreatVG29
set_option maxHeartbeats 8000000
set_option maxRecDepth 100000
namespace Go.Proofs.YtmeaibjmnjcdfaaGreat
open Go.RowKit
def zrC (i:Ins):Value:=.agg #[.int .i64 i.op,.int .i64 i.a,.string i.name,.string i.member]
theorem ne_l {l:Bs} {s:Str}:((zbl l).toList != s.toList)=!decide (l=Str.l s):=by
 rw[bne,zqR,zqR,zi1]
 exact congrArg _ (Bool.eq_iff_iff.2 (by simp))
theorem zrD {s:Str} {k:Nat} (hk:k≤15) (h:¬insW k=zpW s):zqu s (16-k) k=zqu s (16-(k+1)) (k+1):=by
 rw[show 16-k=(16-(k+1))+1 by omega,zqu,if_neg h]
theorem zrE {s:Str} {k:Nat} (hk:k≤15) (h:insW k=zpW s):zqu s (16-k) k=if s.size≤30∧zqr (zqt k (zpV s))=Str.l s then (zqt k (zpV s),true) else (zqs,false):=by
 rw[show 16-k=(16-(k+1))+1 by omega,zqu,if_pos h]
theorem zrF (s:Str) (w:World) (hs:s.size≤90000):Calls Tryz.prog 195 #[.string s] w (Gives (.tuple #[zrC (zqv s).1,.bool (zqv s).2]) w):=by
 have HWd:=fun W=>zq2 s W hs
 obtain⟨x0,xs,hwx⟩:∃x0 xs,zpV s=x0 :: xs:=by
  match h:zpV s with
  | []=>exact absurd h (zpY s)
  | x :: xs=>exact⟨x,xs,rfl⟩
 obtain⟨V,hV⟩:∃V,V=zqv s:=⟨_,rfl⟩
 rw[<-hV]
 replace hV:Hid (V=zqu s 15 1):=hV
 unfold zrC
 have BR:=Bx.new w 177 #[.int .i64 0,.int .i64 0,.string ⟨#[]⟩,.string ⟨#[]⟩]
 have hw0:zpW s=Str.l x0:=by unfold zpW;rw[hwx];rfl
 have HIY:∀k,k≤15->insW k=zpW s->zqu s (16-k) k=if s.size≤30∧zqr (zqt k (x0 :: xs))=Str.l s then (zqt k (x0 :: xs),true) else (zqs,false):=fun k hk h=>by rw[zrE hk h,hwx]
 rw[hwx] at HWd
 go_enter Tryz.func195,Tryz.ntmps195
 go_wp2_with (go_at_call 141;refine(HWd _).mono ?_;rintro e w1 ⟨v,rfl,hws,hf1⟩;refine Hid.out ?_)
 refine Lib.hid ?_
 obtain⟨A,cap,rfl,hcap,hlen⟩:=hws.form
 unfold maxLen at hlen
 have hw1:Fr No w w1:=((Fr.refl No w).alloc _).trans0 hf1
 have BR1:=BR.keep hf1
 have hwb:=BR1.lt
 clear HWd BR hf1
 replace hws:Sl No w1 1 StrC (.slice A (x0 :: xs).length cap) (x0 :: xs):=hws.weaken zN (fun _ _ _ h=>h)
 go_wp2
 go_loopw [5] (fun i wr=>∃k:Nat,1≤k∧k≤16∧i=.int .i64 (k:Int)∧Hid (V=zqu s (16-k) k)∧Bx wr w.heap.size 177 #[.int .i64 0,.int .i64 0,.string ⟨#[]⟩,.string ⟨#[]⟩]∧Fr No w1 wr) (fun i _=>16-(intOf i).toNat)
 case atStart=>exact⟨1,by decide,by decide,rfl,hV,BR1,Fr.refl _ _⟩
 case round=>
  clear BR1 hV
  obtain⟨k,hk1,hk,rfl,hV,hBr,hf⟩:=hrel
  by_cases hlt:k≤15
  ·obtain⟨bk,off,rfl,_,c0,z0⟩:=hws.strs (k:=0) (by simp)
   simp only[Nat.add_zero,List.getElem_cons_zero] at c0 z0
   have q0:=fun W (h:Fr No wr W)=>h.keep0 (hf.keep0 c0)
   have hbl:=lt_of_cell (hf.keep0 c0)
   have HW:=fun W=>zrx k hlt W
   have hne:=@ne_l (insW k) x0
   rw[<-hw0] at hne
   by_cases hq:insW k=zpW s
   ·have hV2:=hV.out
    rw[HIY k hlt hq] at hV2
    have g:((zbl (insW k)).toList != x0.toList)=false:=by rw[hne,decide_eq_true hq];rfl
    have g2:((zbl (insW k)).toList == x0.toList)=true:=by rw[bne] at g;simpa using g
    have hsl:=hws
    clear hV hne hq hw0 HIY hwx hws
    generalize zbl (insW k)=wd at *
    go_wp2_with fail
    (refine zgc (X:=No) (by kernel_rfl) (by kernel_rfl) ?_)
    (repeat((first|go_big_quiet_skip|(go_big_quiet_want;(apply Exists.intro;refine⟨fun W hW=>?_,?_⟩);(focus (first|exact fqc|(go_simp;first|(go_at_call 147;exact(HW W).mono (fun _ _ h=>⟨h.1,hW.trans0 h.2⟩)))));go_big_quiet_on));(try simp only[Act.put,lz0,lz1,lz2])));refine wpQuiet_nil ?_
    intro w2 hf2
    clear q0 HW
    have hB2:=hBr.keep hf2
    have hf2':=hf.trans0 hf2
    have hw2:=hw1.trans0 hf2'
    have hl2:=hB2.lt
    match xs,hsl with
    | [],hsl=>
     have hI:zqt k [x0]=⟨(k:Int),0,⟨#[]⟩,⟨#[]⟩⟩:=rfl
     obtain⟨r0,r1,r2,r3⟩:=hB2.c4
     have rl:=hB2.lt
     have rf:=fun i=>hB2.frozen i
     clear hsl
     have HT:=fun W=>zrB ⟨(k:Int),0,⟨#[]⟩,⟨#[]⟩⟩ W (by first|exact z1|exact Nat.zero_le _) (by first|exact z2|exact Nat.zero_le _)
     have hnt:=@ne_l (zqr ⟨(k:Int),0,⟨#[]⟩,⟨#[]⟩⟩) s
     rw[show zqt k _=(⟨(k:Int),0,⟨#[]⟩,⟨#[]⟩⟩:Ins) from hI] at hV2
     generalize zqr ⟨(k:Int),0,⟨#[]⟩,⟨#[]⟩⟩=tx at *
     dsimp only at HT
     have hcase:(30<s.size∧V=(zqs,false))∨(s.size≤30∧¬tx=Str.l s∧V=(zqs,false))∨(s.size≤30∧tx=Str.l s∧V=(⟨(k:Int),0,⟨#[]⟩,⟨#[]⟩⟩,true)):=by
      rw[hV2]
      by_cases h1:s.size≤30
      ·by_cases h2:tx=Str.l s
       ·exact .inr (.inr ⟨h1,h2,if_pos ⟨h1,h2⟩⟩)
       ·exact .inr (.inl ⟨h1,h2,if_neg (fun h=>h2 h.2)⟩)
      ·exact .inl ⟨by omega,if_neg (fun h=>h1 h.1)⟩
     clear hV2
     rcases hcase with ⟨hz,hVe⟩ | ⟨hz,ht,hVe⟩ | ⟨hz,ht,hVe⟩
     all_goals
      replace hVe:=Lib.hid hVe
      try have gt:((zbl tx).toList != s.toList)=true:=by rw[hnt,decide_eq_false ht];rfl
      try have gt2:((zbl tx).toList == s.toList)=false:=by rw[bne] at gt;simpa using gt
      try have gt:((zbl tx).toList != s.toList)=false:=by rw[hnt,decide_eq_true ht];rfl
      try have gt2:((zbl tx).toList == s.toList)=true:=by rw[bne] at gt;simpa using gt
      clear hnt
      try clear ht
      generalize zbl tx=txs at *
      go_wp2_with (first
       | (fail;go_at_call 191;refine(HR _).mono ?_;rintro e w3 ⟨rfl,hf3⟩;have hw3:Fr No w w3:=Fr.trans0 frc hf3;have hB6:=(Bx.new w2 177 #[.int .i64 (k:Int),.int .i64 0,.string ⟨#[]⟩,.string ⟨#[]⟩]).keep hf3;obtain⟨y0,y1,y2,y3⟩:=hB6.c4;have yl:=hB6.lt;have yf:=(fun i=>hB6.frozen i);have hBr3:=(hB2.alloc _).keep hf3;obtain⟨r0,r1,r2,r3⟩:=hBr3.c4;have rl:=hBr3.lt;have rf:=(fun i=>hBr3.frozen i);have c1':=((Fr.refl No w2).alloc _).trans0 hf3 |>.keep0 c1;have hbk':=lt_of_cell c1';(try have c2':=((Fr.refl No w2).alloc _).trans0 hf3 |>.keep0 c2))
       | (go_at_call 91;refine(HT _).mono ?_;rintro e w4 ⟨rfl,hf4⟩;have hw4:Fr No w w4:=Fr.trans0 frc hf4;have hB7:Bx w4 w2.heap.size 177 #[.int .i64 (k:Int),.int .i64 0,.string ⟨#[]⟩,.string ⟨#[]⟩]:=Bx.keep (bxc) hf4;obtain⟨v0,v1,v2,v3⟩:=hB7.c4;have vl:=hB7.lt;have hBr4:Bx w4 w.heap.size 177 #[.int .i64 0,.int .i64 0,.string ⟨#[]⟩,.string ⟨#[]⟩]:=Bx.keep (hB2.alloc _) hf4;obtain⟨t0,t1,t2,t3⟩:=hBr4.c4;have tl:=hBr4.lt;have tf:=(fun i=>hBr4.frozen i)))
      first
       | (refine bodyPost_ret (v:=.tuple #[.agg #[.int .i64 0,.int .i64 0,.string ⟨#[]⟩,.string ⟨#[]⟩],.bool false]) ?_ rfl ?_;(focus (simp[results,Tryz.results195,go_sem, *];done));(focus (rw[hVe.out];exact .mk rfl (by exact frc))))
       | (refine bodyPost_ret (v:=.tuple #[.agg #[.int .i64 (k:Int),.int .i64 0,.string ⟨#[]⟩,.string ⟨#[]⟩],.bool true]) ?_ rfl ?_;(focus (simp[results,Tryz.results195,go_sem, *];done));(focus (rw[hVe.out];exact .mk rfl (by exact frc))))
    | [a],hsl=>
     obtain⟨_,_,he,_,c1,z1⟩:=hsl.strs (k:=1) (by simp)
     cases he
     simp only[List.getElem_cons_succ,List.getElem_cons_zero] at c1 z1
     replace c1:=hf2'.keep0 c1
     have hbk:=lt_of_cell c1
     have HR:=fun W=>zqS a W z1
     obtain⟨r0,r1,r2,r3⟩:=hB2.c4
     have rl:=hB2.lt
     have rf:=fun i=>hB2.frozen i
     clear hsl
     obtain⟨⟨n,ok⟩,hqr⟩:∃q,q=zqb a:=⟨_,rfl⟩
     rw[<-hqr] at HR
     cases ok
     ·have hI:zqt k [x0,a]=⟨(k:Int),0,a,⟨#[]⟩⟩:=by simp only[zqt,<-hqr];rfl
      clear hqr
      have HT:=fun W=>zrB ⟨(k:Int),0,a,⟨#[]⟩⟩ W (by first|exact z1|exact Nat.zero_le _) (by first|exact z2|exact Nat.zero_le _)
      have hnt:=@ne_l (zqr ⟨(k:Int),0,a,⟨#[]⟩⟩) s
      rw[show zqt k _=(⟨(k:Int),0,a,⟨#[]⟩⟩:Ins) from hI] at hV2
      generalize zqr ⟨(k:Int),0,a,⟨#[]⟩⟩=tx at *
      dsimp only at HT
      have hcase:(30<s.size∧V=(zqs,false))∨(s.size≤30∧¬tx=Str.l s∧V=(zqs,false))∨(s.size≤30∧tx=Str.l s∧V=(⟨(k:Int),0,a,⟨#[]⟩⟩,true)):=by
       rw[hV2]
       by_cases h1:s.size≤30
       ·by_cases h2:tx=Str.l s
        ·exact .inr (.inr ⟨h1,h2,if_pos ⟨h1,h2⟩⟩)
        ·exact .inr (.inl ⟨h1,h2,if_neg (fun h=>h2 h.2)⟩)
       ·exact .inl ⟨by omega,if_neg (fun h=>h1 h.1)⟩
      clear hV2
      rcases hcase with ⟨hz,hVe⟩ | ⟨hz,ht,hVe⟩ | ⟨hz,ht,hVe⟩
      all_goals
       replace hVe:=Lib.hid hVe
       try have gt:((zbl tx).toList != s.toList)=true:=by rw[hnt,decide_eq_false ht];rfl
       try have gt2:((zbl tx).toList == s.toList)=false:=by rw[bne] at gt;simpa using gt
       try have gt:((zbl tx).toList != s.toList)=false:=by rw[hnt,decide_eq_true ht];rfl
       try have gt2:((zbl tx).toList == s.toList)=true:=by rw[bne] at gt;simpa using gt
       clear hnt
       try clear ht
       generalize zbl tx=txs at *
       go_wp2_with (first
        | (go_at_call 191;refine(HR _).mono ?_;rintro e w3 ⟨rfl,hf3⟩;have hw3:Fr No w w3:=Fr.trans0 frc hf3;have hB6:=(Bx.new w2 177 #[.int .i64 (k:Int),.int .i64 0,.string ⟨#[]⟩,.string ⟨#[]⟩]).keep hf3;obtain⟨y0,y1,y2,y3⟩:=hB6.c4;have yl:=hB6.lt;have yf:=(fun i=>hB6.frozen i);have hBr3:=(hB2.alloc _).keep hf3;obtain⟨r0,r1,r2,r3⟩:=hBr3.c4;have rl:=hBr3.lt;have rf:=(fun i=>hBr3.frozen i);have c1':=((Fr.refl No w2).alloc _).trans0 hf3 |>.keep0 c1;have hbk':=lt_of_cell c1';(try have c2':=((Fr.refl No w2).alloc _).trans0 hf3 |>.keep0 c2))
        | (go_at_call 91;refine(HT _).mono ?_;rintro e w4 ⟨rfl,hf4⟩;have hw4:Fr No w w4:=Fr.trans0 frc hf4;have hB7:Bx w4 w2.heap.size 177 #[.int .i64 (k:Int),.int .i64 0,.string a,.string ⟨#[]⟩]:=Bx.keep (hB6.set_ 2 _) hf4;obtain⟨v0,v1,v2,v3⟩:=hB7.c4;have vl:=hB7.lt;have hBr4:Bx w4 w.heap.size 177 #[.int .i64 0,.int .i64 0,.string ⟨#[]⟩,.string ⟨#[]⟩]:=Bx.keep (hBr3.far (p:=⟨w2.heap.size,2,none⟩) (by show _≠w2.heap.size;omega) _) hf4;obtain⟨t0,t1,t2,t3⟩:=hBr4.c4;have tl:=hBr4.lt;have tf:=(fun i=>hBr4.frozen i)))
       first
        | (refine bodyPost_ret (v:=.tuple #[.agg #[.int .i64 0,.int .i64 0,.string ⟨#[]⟩,.string ⟨#[]⟩],.bool false]) ?_ rfl ?_;(focus (simp[results,Tryz.results195,go_sem, *];done));(focus (rw[hVe.out];exact .mk rfl (by exact frc))))
        | (refine bodyPost_ret (v:=.tuple #[.agg #[.int .i64 (k:Int),.int .i64 0,.string a,.string ⟨#[]⟩],.bool true]) ?_ rfl ?_;(focus (simp[results,Tryz.results195,go_sem, *];done));(focus (rw[hVe.out];exact .mk rfl (by exact frc))))
     ·have hI:zqt k [x0,a]=⟨(k:Int),n,⟨#[]⟩,⟨#[]⟩⟩:=by simp only[zqt,<-hqr];rfl
      clear hqr
      have HT:=fun W=>zrB ⟨(k:Int),n,⟨#[]⟩,⟨#[]⟩⟩ W (by first|exact z1|exact Nat.zero_le _) (by first|exact z2|exact Nat.zero_le _)
      have hnt:=@ne_l (zqr ⟨(k:Int),n,⟨#[]⟩,⟨#[]⟩⟩) s
      rw[show zqt k _=(⟨(k:Int),n,⟨#[]⟩,⟨#[]⟩⟩:Ins) from hI] at hV2
      generalize zqr ⟨(k:Int),n,⟨#[]⟩,⟨#[]⟩⟩=tx at *
      dsimp only at HT
      have hcase:(30<s.size∧V=(zqs,false))∨(s.size≤30∧¬tx=Str.l s∧V=(zqs,false))∨(s.size≤30∧tx=Str.l s∧V=(⟨(k:Int),n,⟨#[]⟩,⟨#[]⟩⟩,true)):=by
       rw[hV2]
       by_cases h1:s.size≤30
       ·by_cases h2:tx=Str.l s
        ·exact .inr (.inr ⟨h1,h2,if_pos ⟨h1,h2⟩⟩)
        ·exact .inr (.inl ⟨h1,h2,if_neg (fun h=>h2 h.2)⟩)
       ·exact .inl ⟨by omega,if_neg (fun h=>h1 h.1)⟩
      clear hV2
      rcases hcase with ⟨hz,hVe⟩ | ⟨hz,ht,hVe⟩ | ⟨hz,ht,hVe⟩
      all_goals
       replace hVe:=Lib.hid hVe
       try have gt:((zbl tx).toList != s.toList)=true:=by rw[hnt,decide_eq_false ht];rfl
       try have gt2:((zbl tx).toList == s.toList)=false:=by rw[bne] at gt;simpa using gt
       try have gt:((zbl tx).toList != s.toList)=false:=by rw[hnt,decide_eq_true ht];rfl
       try have gt2:((zbl tx).toList == s.toList)=true:=by rw[bne] at gt;simpa using gt
       clear hnt
       try clear ht
       generalize zbl tx=txs at *
       go_wp2_with (first
        | (go_at_call 191;refine(HR _).mono ?_;rintro e w3 ⟨rfl,hf3⟩;have hw3:Fr No w w3:=Fr.trans0 frc hf3;have hB6:=(Bx.new w2 177 #[.int .i64 (k:Int),.int .i64 0,.string ⟨#[]⟩,.string ⟨#[]⟩]).keep hf3;obtain⟨y0,y1,y2,y3⟩:=hB6.c4;have yl:=hB6.lt;have yf:=(fun i=>hB6.frozen i);have hBr3:=(hB2.alloc _).keep hf3;obtain⟨r0,r1,r2,r3⟩:=hBr3.c4;have rl:=hBr3.lt;have rf:=(fun i=>hBr3.frozen i);have c1':=((Fr.refl No w2).alloc _).trans0 hf3 |>.keep0 c1;have hbk':=lt_of_cell c1';(try have c2':=((Fr.refl No w2).alloc _).trans0 hf3 |>.keep0 c2))
        | (go_at_call 91;refine(HT _).mono ?_;rintro e w4 ⟨rfl,hf4⟩;have hw4:Fr No w w4:=Fr.trans0 frc hf4;have hB7:Bx w4 w2.heap.size 177 #[.int .i64 (k:Int),.int .i64 n,.string ⟨#[]⟩,.string ⟨#[]⟩]:=Bx.keep (hB6.set_ 1 _) hf4;obtain⟨v0,v1,v2,v3⟩:=hB7.c4;have vl:=hB7.lt;have hBr4:Bx w4 w.heap.size 177 #[.int .i64 0,.int .i64 0,.string ⟨#[]⟩,.string ⟨#[]⟩]:=Bx.keep (hBr3.far (p:=⟨w2.heap.size,1,none⟩) (by show _≠w2.heap.size;omega) _) hf4;obtain⟨t0,t1,t2,t3⟩:=hBr4.c4;have tl:=hBr4.lt;have tf:=(fun i=>hBr4.frozen i)))
       first
        | (refine bodyPost_ret (v:=.tuple #[.agg #[.int .i64 0,.int .i64 0,.string ⟨#[]⟩,.string ⟨#[]⟩],.bool false]) ?_ rfl ?_;(focus (simp[results,Tryz.results195,go_sem, *];done));(focus (rw[hVe.out];exact .mk rfl (by exact frc))))
        | (refine bodyPost_ret (v:=.tuple #[.agg #[.int .i64 (k:Int),.int .i64 n,.string ⟨#[]⟩,.string ⟨#[]⟩],.bool true]) ?_ rfl ?_;(focus (simp[results,Tryz.results195,go_sem, *];done));(focus (rw[hVe.out];exact .mk rfl (by exact frc))))
    | a :: b :: rest,hsl=>
     have hln:((rest.length+1+1+1:Nat):Int)=(rest.length:Int)+3:=by omega
     obtain⟨_,_,he,_,c1,z1⟩:=hsl.strs (k:=1) (by simp)
     cases he
     obtain⟨_,_,he,_,c2,z2⟩:=hsl.strs (k:=2) (by simp)
     cases he
     simp only[List.getElem_cons_succ,List.getElem_cons_zero] at c1 z1 c2 z2
     replace c1:=hf2'.keep0 c1
     have hbk:=lt_of_cell c1
     replace c2:=hf2'.keep0 c2
     have HR:=fun W=>zqS a W z1
     obtain⟨r0,r1,r2,r3⟩:=hB2.c4
     have rl:=hB2.lt
     have rf:=fun i=>hB2.frozen i
     clear hsl
     obtain⟨⟨n,ok⟩,hqr⟩:∃q,q=zqb a:=⟨_,rfl⟩
     rw[<-hqr] at HR
     cases ok
     ·have hI:zqt k (x0 :: a :: b :: rest)=⟨(k:Int),0,a,b⟩:=by simp only[zqt,<-hqr];rfl
      clear hqr
      have HT:=fun W=>zrB ⟨(k:Int),0,a,b⟩ W (by first|exact z1|exact Nat.zero_le _) (by first|exact z2|exact Nat.zero_le _)
      have hnt:=@ne_l (zqr ⟨(k:Int),0,a,b⟩) s
      rw[show zqt k _=(⟨(k:Int),0,a,b⟩:Ins) from hI] at hV2
      generalize zqr ⟨(k:Int),0,a,b⟩=tx at *
      dsimp only at HT
      have hcase:(30<s.size∧V=(zqs,false))∨(s.size≤30∧¬tx=Str.l s∧V=(zqs,false))∨(s.size≤30∧tx=Str.l s∧V=(⟨(k:Int),0,a,b⟩,true)):=by
       rw[hV2]
       by_cases h1:s.size≤30
       ·by_cases h2:tx=Str.l s
        ·exact .inr (.inr ⟨h1,h2,if_pos ⟨h1,h2⟩⟩)
        ·exact .inr (.inl ⟨h1,h2,if_neg (fun h=>h2 h.2)⟩)
       ·exact .inl ⟨by omega,if_neg (fun h=>h1 h.1)⟩
      clear hV2
      rcases hcase with ⟨hz,hVe⟩ | ⟨hz,ht,hVe⟩ | ⟨hz,ht,hVe⟩
      all_goals
       replace hVe:=Lib.hid hVe
       try have gt:((zbl tx).toList != s.toList)=true:=by rw[hnt,decide_eq_false ht];rfl
       try have gt2:((zbl tx).toList == s.toList)=false:=by rw[bne] at gt;simpa using gt
       try have gt:((zbl tx).toList != s.toList)=false:=by rw[hnt,decide_eq_true ht];rfl
       try have gt2:((zbl tx).toList == s.toList)=true:=by rw[bne] at gt;simpa using gt
       clear hnt
       try clear ht
       generalize zbl tx=txs at *
       go_wp2_with (first
        | (go_at_call 191;refine(HR _).mono ?_;rintro e w3 ⟨rfl,hf3⟩;have hw3:Fr No w w3:=Fr.trans0 frc hf3;have hB6:=(Bx.new w2 177 #[.int .i64 (k:Int),.int .i64 0,.string ⟨#[]⟩,.string ⟨#[]⟩]).keep hf3;obtain⟨y0,y1,y2,y3⟩:=hB6.c4;have yl:=hB6.lt;have yf:=(fun i=>hB6.frozen i);have hBr3:=(hB2.alloc _).keep hf3;obtain⟨r0,r1,r2,r3⟩:=hBr3.c4;have rl:=hBr3.lt;have rf:=(fun i=>hBr3.frozen i);have c1':=((Fr.refl No w2).alloc _).trans0 hf3 |>.keep0 c1;have hbk':=lt_of_cell c1';(try have c2':=((Fr.refl No w2).alloc _).trans0 hf3 |>.keep0 c2))
        | (go_at_call 91;refine(HT _).mono ?_;rintro e w4 ⟨rfl,hf4⟩;have hw4:Fr No w w4:=Fr.trans0 frc hf4;have hB7:Bx w4 w2.heap.size 177 #[.int .i64 (k:Int),.int .i64 0,.string a,.string b]:=Bx.keep ((hB6.set_ 2 _).set_ 3 _) hf4;obtain⟨v0,v1,v2,v3⟩:=hB7.c4;have vl:=hB7.lt;have hBr4:Bx w4 w.heap.size 177 #[.int .i64 0,.int .i64 0,.string ⟨#[]⟩,.string ⟨#[]⟩]:=Bx.keep ((hBr3.far (p:=⟨w2.heap.size,2,none⟩) (by show _≠w2.heap.size;omega) _).far (p:=⟨w2.heap.size,3,none⟩) (by show _≠w2.heap.size;omega) _) hf4;obtain⟨t0,t1,t2,t3⟩:=hBr4.c4;have tl:=hBr4.lt;have tf:=(fun i=>hBr4.frozen i)))
       first
        | (refine bodyPost_ret (v:=.tuple #[.agg #[.int .i64 0,.int .i64 0,.string ⟨#[]⟩,.string ⟨#[]⟩],.bool false]) ?_ rfl ?_;(focus (simp[results,Tryz.results195,go_sem, *];done));(focus (rw[hVe.out];exact .mk rfl (by exact frc))))
        | (refine bodyPost_ret (v:=.tuple #[.agg #[.int .i64 (k:Int),.int .i64 0,.string a,.string b],.bool true]) ?_ rfl ?_;(focus (simp[results,Tryz.results195,go_sem, *];done));(focus (rw[hVe.out];exact .mk rfl (by exact frc))))
     ·have hI:zqt k (x0 :: a :: b :: rest)=⟨(k:Int),n,⟨#[]⟩,b⟩:=by simp only[zqt,<-hqr];rfl
      clear hqr
      have HT:=fun W=>zrB ⟨(k:Int),n,⟨#[]⟩,b⟩ W (by first|exact z1|exact Nat.zero_le _) (by first|exact z2|exact Nat.zero_le _)
      have hnt:=@ne_l (zqr ⟨(k:Int),n,⟨#[]⟩,b⟩) s
      rw[show zqt k _=(⟨(k:Int),n,⟨#[]⟩,b⟩:Ins) from hI] at hV2
      generalize zqr ⟨(k:Int),n,⟨#[]⟩,b⟩=tx at *
      dsimp only at HT
      have hcase:(30<s.size∧V=(zqs,false))∨(s.size≤30∧¬tx=Str.l s∧V=(zqs,false))∨(s.size≤30∧tx=Str.l s∧V=(⟨(k:Int),n,⟨#[]⟩,b⟩,true)):=by
       rw[hV2]
       by_cases h1:s.size≤30
       ·by_cases h2:tx=Str.l s
        ·exact .inr (.inr ⟨h1,h2,if_pos ⟨h1,h2⟩⟩)
        ·exact .inr (.inl ⟨h1,h2,if_neg (fun h=>h2 h.2)⟩)
       ·exact .inl ⟨by omega,if_neg (fun h=>h1 h.1)⟩
      clear hV2
      rcases hcase with ⟨hz,hVe⟩ | ⟨hz,ht,hVe⟩ | ⟨hz,ht,hVe⟩
      all_goals
       replace hVe:=Lib.hid hVe
       try have gt:((zbl tx).toList != s.toList)=true:=by rw[hnt,decide_eq_false ht];rfl
       try have gt2:((zbl tx).toList == s.toList)=false:=by rw[bne] at gt;simpa using gt
       try have gt:((zbl tx).toList != s.toList)=false:=by rw[hnt,decide_eq_true ht];rfl
       try have gt2:((zbl tx).toList == s.toList)=true:=by rw[bne] at gt;simpa using gt
       clear hnt
       try clear ht
       generalize zbl tx=txs at *
       go_wp2_with (first
        | (go_at_call 191;refine(HR _).mono ?_;rintro e w3 ⟨rfl,hf3⟩;have hw3:Fr No w w3:=Fr.trans0 frc hf3;have hB6:=(Bx.new w2 177 #[.int .i64 (k:Int),.int .i64 0,.string ⟨#[]⟩,.string ⟨#[]⟩]).keep hf3;obtain⟨y0,y1,y2,y3⟩:=hB6.c4;have yl:=hB6.lt;have yf:=(fun i=>hB6.frozen i);have hBr3:=(hB2.alloc _).keep hf3;obtain⟨r0,r1,r2,r3⟩:=hBr3.c4;have rl:=hBr3.lt;have rf:=(fun i=>hBr3.frozen i);have c1':=((Fr.refl No w2).alloc _).trans0 hf3 |>.keep0 c1;have hbk':=lt_of_cell c1';(try have c2':=((Fr.refl No w2).alloc _).trans0 hf3 |>.keep0 c2))
        | (go_at_call 91;refine(HT _).mono ?_;rintro e w4 ⟨rfl,hf4⟩;have hw4:Fr No w w4:=Fr.trans0 frc hf4;have hB7:Bx w4 w2.heap.size 177 #[.int .i64 (k:Int),.int .i64 n,.string ⟨#[]⟩,.string b]:=Bx.keep ((hB6.set_ 1 _).set_ 3 _) hf4;obtain⟨v0,v1,v2,v3⟩:=hB7.c4;have vl:=hB7.lt;have hBr4:Bx w4 w.heap.size 177 #[.int .i64 0,.int .i64 0,.string ⟨#[]⟩,.string ⟨#[]⟩]:=Bx.keep ((hBr3.far (p:=⟨w2.heap.size,1,none⟩) (by show _≠w2.heap.size;omega) _).far (p:=⟨w2.heap.size,3,none⟩) (by show _≠w2.heap.size;omega) _) hf4;obtain⟨t0,t1,t2,t3⟩:=hBr4.c4;have tl:=hBr4.lt;have tf:=(fun i=>hBr4.frozen i)))
       first
        | (refine bodyPost_ret (v:=.tuple #[.agg #[.int .i64 0,.int .i64 0,.string ⟨#[]⟩,.string ⟨#[]⟩],.bool false]) ?_ rfl ?_;(focus (simp[results,Tryz.results195,go_sem, *];done));(focus (rw[hVe.out];exact .mk rfl (by exact frc))))
        | (refine bodyPost_ret (v:=.tuple #[.agg #[.int .i64 (k:Int),.int .i64 n,.string ⟨#[]⟩,.string b],.bool true]) ?_ rfl ?_;(focus (simp[results,Tryz.results195,go_sem, *];done));(focus (rw[hVe.out];exact .mk rfl (by exact frc))))
   ·have hV2:Hid (V=zqu s (16-(k+1)) (k+1)):=by show V=_;rw[hV.out,zrD hlt hq]
    have g:((zbl (insW k)).toList != x0.toList)=true:=by rw[hne,decide_eq_false hq];rfl
    have g2:((zbl (insW k)).toList == x0.toList)=false:=by rw[bne] at g;simpa using g
    clear hV hne hq hw0 HIY hwx
    generalize zbl (insW k)=wd at *
    go_wp2_with fail
    (refine zgc (X:=No) (by kernel_rfl) (by kernel_rfl) ?_)
    (repeat((first|go_big_quiet_skip|(go_big_quiet_want;(apply Exists.intro;refine⟨fun W hW=>?_,?_⟩);(focus (first|exact fqc|(go_simp;first|(go_at_call 147;exact(HW W).mono (fun _ _ h=>⟨h.1,hW.trans0 h.2⟩)))));go_big_quiet_on));(try simp only[Act.put,lz0,lz1,lz2])));refine wpQuiet_nil ?_
    intro w2 hf2
    clear q0 HW
    have hB2:=hBr.keep hf2
    have hf2':=hf.trans0 hf2
    go_wp2
    go_roundw
    case rel=>exact⟨k+1,by omega,by omega,by go_num,hV2,hB2,hf2'⟩
    case measure=>simp[intOf];omega
  ·obtain rfl:k=16:=by omega
   have hVn:V=(zqs,false):=hV.out
   subst hVn
   obtain⟨r0,r1,r2,r3⟩:=hBr.c4
   have rl:=hBr.lt
   have rf:=fun i=>hBr.frozen i
   clear hws hV hw0 HIY hwx
   go_wp2
   refine bodyPost_ret (v:=.tuple #[.agg #[.int .i64 0,.int .i64 0,.string ⟨#[]⟩,.string ⟨#[]⟩],.bool false]) (by simp[results,Tryz.results195,go_sem, *]) rfl ?_
   exact .mk rfl (hw1.trans0 hf |>.trans (Fr.same (Fr.same (Fr.same (Fr.put1 _ _ _ _) (Fr.put1 _ _ _ _)) (Fr.put1 _ _ _ _)) (Fr.put1 _ _ _ _)) (fun b hb e=>by omega))
end Go.Proofs.YtmeaibjmnjcdfaaGreat
