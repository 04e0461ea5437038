/- The reference's checks of names, kinds, tags and instructions return what namB .. insB say. -/
import Derived.Test.YtpghfhjhjlmljaaGreatPG7
set_option maxHeartbeats 8000000
set_option maxRecDepth 100000
namespace Go.Proofs.YtpghfhjhjlmljaaGreat
open Go.RowKit
theorem zlv (s:Str) (w:World) (hs:s.size≤maxLen):
  Calls Tryz.prog 36 #[.string s] w (zgl (namB s) w):=by
 unfold maxLen at hs
 by_cases hr:1≤s.size∧s.size≤6
 ·obtain⟨h1,h6⟩:=hr
  have d1:decide ((s.size:Int)<1)=false:=by simp;omega
  have d2:decide (6<(s.size:Int))=false:=by simp;omega
  have d3:((s.size:Int) == 0)=false:=beq_eq_false_iff_ne.2 (by omega)
  have hb:Hid (namB s=s.data.toList.all lower):=by unfold Hid namB;rw[d1,d2];rfl
  go_enter Tryz.func36,Tryz.ntmps36
  go_wp2
  go_loop [3] (fun i=>∃k:Nat,k≤s.size∧i=.int .i64 k∧Hid ((s.data.toList.take k).all lower=true)) (fun i=>s.size-(intOf i).toNat)
  case atStart=>exact⟨0,Nat.zero_le _,rfl,by simp[Hid]⟩
  case round=>
   obtain⟨k,hk,rfl,HA⟩:=hrel
   by_cases hlt:k<s.size
   ·have hst:=zfj s k hlt lower
    by_cases hl:lower s[k]=true
    ·have HS:Hid ((s.data.toList.take (k+1)).all lower=true):=by rw[hst,HA.out,hl];rfl
     clear hst HA
     have g1:(97:Int)≤(s[k].toNat:Int):=by simp[lower] at hl;omega
     have g2:(s[k].toNat:Int)≤122:=by simp[lower] at hl;omega
     clear hl
     go_wp2
     go_round
     case rel=>exact⟨k+1,by omega,by go_num,HS⟩
     case measure=>simp[intOf];omega
    ·have HF:Hid (s.data.toList.all lower=false):=zfk s k hlt lower (by simpa using hl)
     clear hst HA
     have g1:(s[k].toNat:Int)<97∨122<(s[k].toNat:Int):=by simp[lower] at hl;omega
     clear hl
     go_wp2
     all_goals (go_ret;exact .mk (by rw[hb.out,HF.out]))
   ·have HS:Hid (s.data.toList.all lower=true):=by have:=HA.out;rwa [zfl s k (by omega)] at this
    clear HA
    go_wp2
    go_ret
    exact .mk (by rw[hb.out,HS.out])
 ·have hb:Hid (namB s=false):=by simp[namB,Hid];omega
  have hr':s.size=0∨6<s.size:=by omega
  clear hr
  rcases hr' with h1|h1
  ·have d3:((s.size:Int) == 0)=true:=beq_iff_eq.2 (by omega)
   clear h1
   go_enter Tryz.func36,Tryz.ntmps36
   go_wp2
   go_ret
   exact .mk (by rw[hb.out])
  ·have d3:((s.size:Int) == 0)=false:=beq_eq_false_iff_ne.2 (by omega)
   go_enter Tryz.func36,Tryz.ntmps36
   go_wp2
   go_ret
   exact .mk (by rw[hb.out])
theorem zlw (k:Knd) (w:World) (hs:k.name.size≤maxLen):
  Calls Tryz.prog 67 #[.agg #[.int .i64 k.kind,.string k.name]] w (zgm (kndB k) w):=by
 obtain⟨k,s⟩:=k
 go_enter Tryz.func67,Tryz.ntmps67
 go_wp2_with (first|(go_at_call 36;refine(zlv _ _ hs).mono ?_;rintro e w' ⟨rfl,rfl⟩)|go_in)
 all_goals (go_ret;exact .mk (by simp[kndB, *]) (by exact frc))
theorem zlx (t:Tag) (w:World) (hs:t.name.size≤maxLen):
  Calls Tryz.prog 143 #[.agg #[.int .i64 t.kind,.string t.name]] w (zgm (tagB t) w):=by
 obtain⟨k,s⟩:=t
 dsimp only at *
 have hcase:k=0∨k=1∨k=2∨k=3∨((k == 0)=false∧(k == 1)=false∧(k == 2)=false∧(k == 3)=false):=by
  by_cases h0:k=0;· exact .inl h0
  by_cases h1:k=1;· exact .inr (.inl h1)
  by_cases h2:k=2;· exact .inr (.inr (.inl h2))
  by_cases h3:k=3;· exact .inr (.inr (.inr (.inl h3)))
  exact .inr (.inr (.inr (.inr ⟨beq_eq_false_iff_ne.2 h0,beq_eq_false_iff_ne.2 h1,beq_eq_false_iff_ne.2 h2,beq_eq_false_iff_ne.2 h3⟩)))
 rcases hcase with rfl|rfl|rfl|rfl | ⟨g0,g1,g2,g3⟩
 all_goals
  go_enter Tryz.func143,Tryz.ntmps143
  go_wp2_with (first|(go_at_call 36;refine(zlv _ _ hs).mono ?_;rintro e w' ⟨rfl,rfl⟩)|go_in)
  all_goals go_ret
  all_goals exact .mk (by simp[tagB, *]) (by exact frc)
theorem zly (i:Ins) (w:World) (hs:i.name.size≤maxLen) (hm:i.member.size≤maxLen):
  Calls Tryz.prog 132 #[.agg #[.int .i64 i.op,.int .i64 i.a,.string i.name,.string i.member]] w (zgm (insB i) w):=by
 obtain⟨op,a,s,m⟩:=i
 dsimp only at *
 have hcase:op=1∨op=2∨op=3∨op=4∨op=5∨op=6∨op=7∨op=8∨op=9∨op=10∨op=11∨op=12∨op=13∨op=14∨op=15∨((op == 1)=false∧(op == 2)=false∧(op == 3)=false∧(op == 4)=false∧(op == 5)=false∧(op == 6)=false∧(op == 7)=false∧(op == 8)=false∧(op == 9)=false∧(op == 10)=false∧(op == 11)=false∧(op == 12)=false∧(op == 13)=false∧(op == 14)=false∧(op == 15)=false):=by
  by_cases h:1≤op∧op≤15
  ·omega
  ·have hn:∀n:Int,1≤n∧n≤15->(op == n)=false:=fun n hn=>beq_eq_false_iff_ne.2 (by omega)
   exact .inr (.inr (.inr (.inr (.inr (.inr (.inr (.inr (.inr (.inr (.inr (.inr (.inr (.inr (.inr (⟨hn 1 (by omega),hn 2 (by omega),hn 3 (by omega),hn 4 (by omega),hn 5 (by omega),hn 6 (by omega),hn 7 (by omega),hn 8 (by omega),hn 9 (by omega),hn 10 (by omega),hn 11 (by omega),hn 12 (by omega),hn 13 (by omega),hn 14 (by omega),hn 15 (by omega)⟩)))))))))))))))
 rcases hcase with rfl|rfl|rfl|rfl|rfl|rfl|rfl|rfl|rfl|rfl|rfl|rfl|rfl|rfl|rfl | ⟨g1,g2,g3,g4,g5,g6,g7,g8,g9,g10,g11,g12,g13,g14,g15⟩
 all_goals
  go_enter Tryz.func132,Tryz.ntmps132
  go_wp2_with (first|(go_at_call 36;refine(zlv _ _ (by assumption)).mono ?_;rintro e w' ⟨rfl,rfl⟩)|go_in)
  all_goals go_ret
  all_goals refine .mk ?_ (by exact frc)
  all_goals simp[insB,zft,zfu,zfv,zfw,zfx,zfy, *]
  all_goals omega
theorem zlz (n lo hi:Int) (w:World):Calls Tryz.prog 34 #[.int .i64 n,.int .i64 lo,.int .i64 hi] w (zgl (decide (lo≤n)&&decide (n≤hi)) w):=by
 go_enter Tryz.func34,Tryz.ntmps34
 go_wp2
 all_goals go_ret
 all_goals exact .mk (by simp[*]<;>omega)
theorem zlA (X:Nat->Prop) (v:Value) (ts:List Tag) (w:World) (h:Sl X w 2 TagC v ts):
  Calls Tryz.prog 133 #[v] w (zgm (ts.all tagB) w):=by
 obtain⟨A,cap,rfl,hcap,hlen⟩:=h.form
 have hlen':=hlen
 unfold maxLen at hlen'
 go_enter Tryz.func133,Tryz.ntmps133
 go_wp2
 go_loopw [3] (fun i wr=>∃k:Nat,k≤ts.length∧i=.int .i64 k∧Hid ((ts.take k).all tagB=true)∧Fr No w wr) (fun i _=>ts.length-(intOf i).toNat)
 case atStart=>exact⟨0,Nat.zero_le _,rfl,by simp[Hid],Fr.refl _ _⟩
 case round=>
  obtain⟨k,hk,rfl,ha,hf⟩:=hrel
  by_cases hlt:k<ts.length
  ·obtain⟨b,off,rfl,hX,c0,c1,hs⟩:=(h.k0 hf).tag hlt
   clear h
   have H:=fun W=>zlx ts[k] W hs
   have ha1:=zfp tagB ts k hlt
   rw[ha.out,Bool.true_and] at ha1
   clear ha
   cases ht:tagB ts[k] with
   | true=>
    have HS:Hid ((ts.take (k+1)).all tagB=true):=ha1.trans ht
    clear ha1
    simp only[ht] at H
    clear ht
    go_wp2_with (go_at_call 143;refine(H _).mono ?_;rintro e w1 ⟨rfl,hf1⟩)
    go_roundw
    case rel=>exact⟨k+1,by omega,by go_num,HS,by exact frc⟩
    case measure=>simp[intOf];omega
   | false=>
    have HS:Hid (ts.all tagB=false):=zfq tagB ts k hlt ht
    clear ha1
    simp only[ht] at H
    clear ht
    go_wp2_with (go_at_call 143;refine(H _).mono ?_;rintro e w1 ⟨rfl,hf1⟩)
    go_ret
    exact .mk HS.out.symm (by exact frc)
  ·have HS:Hid (ts.all tagB=true):=zfr tagB ts k (by omega) ha.out
   clear h ha
   go_wp2
   go_ret
   exact .mk HS.out.symm (by exact frc)
theorem zlB (X:Nat->Prop) (m:Mth) (cs:List Value) (w:World) (h:MthC X w cs m):
  Calls Tryz.prog 101 #[.agg cs.toArray] w (zgm (zfW m) w):=by
 obtain⟨va,vc,vm,rfl,_,_,ha,hc,hm⟩:=h
 obtain⟨A,cap,rfl,hcap,hlen⟩:=hc.form
 have hlen':=hlen
 unfold maxLen at hlen'
 clear ha hm
 have hB:=Bx.new w 133 #[.string m.name,va,.int .i64 m.ret.kind,.string m.ret.name,.int .i64 m.locals,.int .i64 m.stack,.slice A m.code.length cap,vm]
 have hw0:Fr No w (w.alloc (.cells #[.string m.name,va,.int .i64 m.ret.kind,.string m.ret.name,.int .i64 m.locals,.int .i64 m.stack,.slice A m.code.length cap,vm] 133)):=(Fr.refl No w).alloc _
 by_cases hr:1≤m.code.length∧m.code.length≤16
 ·obtain⟨h1,h16⟩:=hr
  have hb:Hid (zfW m=m.code.all (zfV m.locals m.code.length)):=by unfold Hid zfW;rw[decide_eq_true h1,decide_eq_true h16];rfl
  have H0:=fun W=>zlz m.code.length 1 16 W
  rw[decide_eq_true (show(1:Int)≤m.code.length by omega),decide_eq_true (show(m.code.length:Int)≤16 by omega)] at H0
  go_enter Tryz.func101,Tryz.ntmps101
  go_wp2_with (go_at_call 34;refine(H0 _).mono ?_;rintro e w1 ⟨rfl,rfl⟩)
  go_loopw [3,2] (fun i r wr=>∃k:Nat,k≤m.code.length∧i=.int .i64 k∧r=.bool false∧Hid ((m.code.take k).all (zfV m.locals m.code.length)=true) ∧
   Bx wr w.heap.size 133 #[.string m.name,va,.int .i64 m.ret.kind,.string m.ret.name,.int .i64 m.locals,.int .i64 m.stack,.slice A m.code.length cap,vm]∧Fr No w wr) (fun i _ _=>m.code.length-(intOf i).toNat)
  case atStart=>exact⟨0,Nat.zero_le _,rfl,rfl,by simp[Hid],hB,hw0⟩
  case round=>
   clear H0 hB hw0
   obtain⟨k,hk,rfl,rfl,ha,hB',hw⟩:=hrel
   obtain⟨b0,b1,b2,b3,b4,b5,b6,b7⟩:=hB'.c8
   have hBl:=hB'.lt
   by_cases hlt:k<m.code.length
   ·obtain⟨b,off,rfl,hX,c0,c1,c2,c3,hs,hs'⟩:=(hc.k0 hw).ins hlt
    clear hc
    have H:=fun W=>zly m.code[k] W hs hs'
    have ha1:=zfp (zfV m.locals m.code.length) m.code k hlt
    rw[ha.out,Bool.true_and] at ha1
    clear ha
    have HS:zfV m.locals m.code.length m.code[k]=true->Hid ((m.code.take (k+1)).all (zfV m.locals m.code.length)=true):=fun h=>ha1.trans h
    have HN:zfV m.locals m.code.length m.code[k]=false->Hid (m.code.all (zfV m.locals m.code.length)=false):=fun h=>zfq _ m.code k hlt h
    clear ha1
    have HS:=Lib.hid HS
    have HN:=Lib.hid HN
    generalize m.code[k]=i at *
    cases ht:insB i
    all_goals
     simp only[ht] at H
     have ht:=Lib.hid ht
     go_wp2_with (go_at_call 132;refine(H _).mono ?_;rintro e w1 ⟨rfl,hf1⟩;obtain⟨e0,e1,e2,e3,e4,e5,e6,e7⟩:=(hB'.keep (by exact((Fr.refl No wr).alloc _).trans0 hf1)).c8;obtain⟨f0,f1,f2,f3⟩:=((Bx.new wr 178 #[.int .i64 i.op,.int .i64 i.a,.string i.name,.string i.member]).keep hf1).c4)
    all_goals first
     | (go_roundw;(case rel=>exact⟨k+1,by omega,by go_num,rfl,HS.out (by simp[zfV,ht.out, *]),hB'.keep (by exact frc),by exact frc⟩);(case measure=>simp[intOf];omega))
     | (go_ret;exact .mk (by rw[hb.out,HN.out (by simp[zfV,ht.out, *])]) (by exact frc))
   ·have HS:Hid (m.code.all (zfV m.locals m.code.length)=true):=zfr _ m.code k (by omega) ha.out
    clear ha hc
    go_wp2
    go_ret
    exact .mk (by rw[hb.out,HS.out]) (by exact frc)
 ·have hb:Hid (zfW m=false):=by unfold Hid zfW;rw[Bool.and_eq_false_iff,Bool.and_eq_false_iff,decide_eq_false_iff_not,decide_eq_false_iff_not];omega
  have H0:=fun W=>zlz m.code.length 1 16 W
  have hd:(decide ((1:Int)≤m.code.length)&&decide ((m.code.length:Int)≤16))=false:=by rw[Bool.and_eq_false_iff,decide_eq_false_iff_not,decide_eq_false_iff_not];omega
  rw[hd] at H0
  clear hr hc hd
  go_enter Tryz.func101,Tryz.ntmps101
  go_wp2_with (go_at_call 34;refine(H0 _).mono ?_;rintro e w1 ⟨rfl,rfl⟩)
  go_ret
  exact .mk (by rw[hb.out]) (by exact frc)
theorem zlC {len locals stack last:Int} {x:Mp} (b1 b2 b3 b4 b5 b6:Bool) (h1:(decide (1≤x.at_)&&decide (x.at_≤len-1))=b1) (h2:decide (x.at_≤last)=b2) (h3:((x.locals.length:Int) != locals)=b3)
  (h4:decide (stack<(x.stack.length:Int))=b4) (h5:x.locals.all tagB=b5) (h6:x.stack.all tagB=b6) (h0:0≤last):
  zfY len locals stack last x=(b1&&!b2&&!b3&&!b4&&b5&&b6):=by
 subst h1 h2 h3 h4 h5 h6
 have e1:decide (last<x.at_)=!decide (x.at_≤last):=by rw[<-decide_not];congr 1;exact propext (by omega)
 have e4:decide ((x.stack.length:Int)≤stack)=!decide (stack<(x.stack.length:Int)):=by rw[<-decide_not];congr 1;exact propext (by omega)
 have e3:decide ((x.locals.length:Int)=locals)=!((x.locals.length:Int) != locals):=by simp[bne];rfl
 have e2:(decide (1≤x.at_)&&decide (x.at_≤len-1)&&!decide (x.at_≤last))=(decide (last<x.at_)&&decide (x.at_<len)):=by
  rw[Bool.eq_iff_iff];simp;omega
 unfold zfY
 rw[e2,e3,e4]
theorem zlD (X:Nat->Prop) (m:Mth) (cs:List Value) (w:World) (h:MthC X w cs m):
  Calls Tryz.prog 102 #[.agg cs.toArray] w (zgm (zf4 m) w):=by
 obtain⟨va,vc,vm,rfl,_,_,ha,hc,hm⟩:=h
 obtain⟨A,cap,rfl,hcap,hlen⟩:=hm.form
 obtain⟨Ac,cc,rfl,_,hcl⟩:=hc.form
 have hlen':=hlen
 unfold maxLen at hlen' hcl
 clear ha hc
 have hB:=Bx.new w 133 #[.string m.name,va,.int .i64 m.ret.kind,.string m.ret.name,.int .i64 m.locals,.int .i64 m.stack,.slice Ac m.code.length cc,.slice A m.maps.length cap]
 have hw0:Fr No w (w.alloc (.cells #[.string m.name,va,.int .i64 m.ret.kind,.string m.ret.name,.int .i64 m.locals,.int .i64 m.stack,.slice Ac m.code.length cc,.slice A m.maps.length cap] 133)):=(Fr.refl No w).alloc _
 by_cases hr:m.maps.length≤5
 ·have d1:decide (5<(m.maps.length:Int))=false:=by simp;omega
  have hb:Hid (zf4 m=zf3 m.code.length m.locals m.stack 0 m.maps):=by unfold Hid zf4;rw[decide_eq_true hr];rfl
  go_enter Tryz.func102,Tryz.ntmps102
  go_wp2
  go_loopw [3,2] (fun i r wr=>∃(k:Nat) (l:Int),k≤m.maps.length∧i=.int .i64 k∧r=.bool false∧Hid (zf4 m=zf3 m.code.length m.locals m.stack l (m.maps.drop k))∧Hid ((k=0∧l=0)∨∃k',∃h:k'<m.maps.length,k'+1=k∧l=m.maps[k'].at_∧0≤l) ∧
   Bx wr w.heap.size 133 #[.string m.name,va,.int .i64 m.ret.kind,.string m.ret.name,.int .i64 m.locals,.int .i64 m.stack,.slice Ac m.code.length cc,.slice A m.maps.length cap]∧Fr No w wr) (fun i _ _=>m.maps.length-(intOf i).toNat)
  case atStart=>exact⟨0,0,Nat.zero_le _,rfl,rfl,hb,.inl ⟨rfl,rfl⟩,hB,hw0⟩
  case round=>
   clear hB hw0 hb
   obtain⟨k,l,hk,rfl,rfl,ha,hkl,hB',hw⟩:=hrel
   obtain⟨b0,b1,b2,b3,b4,b5,b6,b7⟩:=hB'.c8
   have hBl:=hB'.lt
   by_cases hlt:k<m.maps.length
   ·have hmw:=hm.keep hw zN (fun _ _ _ h=>h.keep hw zN)
    obtain⟨b,off,Al,cl,As,cs,rfl,hX,c0,c1,c2,hl,hs,_,hll,_,hsl⟩:=hmw.map hlt
    clear hm
    have H1:=fun W (h:Fr No wr W)=>zlA X _ m.maps[k].locals W (hl.k0 h)
    have H2:=fun W (h:Fr No wr W)=>zlA X _ m.maps[k].stack W (hs.k0 h)
    clear hl hs
    unfold maxLen at hll hsl
    rw[List.drop_eq_getElem_cons hlt] at ha
    -- what stands ahead
    have hprev:Hid ((k=0∧l=0)∨(0<k∧0≤l∧∃k',k'+1=k∧wr.cell? ⟨b,off+k' * 3,none⟩=some (.int .i64 l))):=by
     rcases hkl.out with ⟨h1,h2⟩ | ⟨k',hk',he,h2,h3⟩
     ·exact .inl ⟨h1,h2⟩
     ·obtain⟨b',off',Al',cl',As',cs',he',_,c0',_⟩:=hmw.map hk'
      simp only[Option.some.injEq,Addr.mk.injEq,and_true] at he'
      obtain⟨rfl,rfl⟩:=he'
      exact .inr ⟨by omega,h3,k',he,by rw[h2];exact c0'⟩
    clear hmw
    have hbl:=lt_of_cell c0
    have hnext:Hid (0≤m.maps[k].at_->((k+1=0∧m.maps[k].at_=0)∨∃k',∃h:k'<m.maps.length,k'+1=k+1∧m.maps[k].at_=m.maps[k'].at_∧0≤m.maps[k].at_)):=fun h0=>.inr ⟨k,hlt,rfl,rfl,h0⟩
    clear hkl
    generalize m.maps[k]=x at *
    have hl1:=fun W=>zlz x.at_ 1 (m.code.length-1) W
    have wl:IntKind.i64.wrap ((m.code.length:Int)-1)=(m.code.length:Int)-1:=IntWalk.i64_in _ (by omega)
    have hl0:0≤l:=by rcases hprev.out with ⟨_,h⟩ | ⟨_,h,_⟩<;>omega
    have hcase:(decide (1≤x.at_)&&decide (x.at_≤(m.code.length:Int)-1))=false ∨
      ((decide (1≤x.at_)&&decide (x.at_≤(m.code.length:Int)-1))=true∧decide (x.at_≤l)=true) ∨
      ((decide (1≤x.at_)&&decide (x.at_≤(m.code.length:Int)-1))=true∧decide (x.at_≤l)=false∧((x.locals.length:Int) != m.locals)=true) ∨
      ((decide (1≤x.at_)&&decide (x.at_≤(m.code.length:Int)-1))=true∧decide (x.at_≤l)=false∧((x.locals.length:Int) != m.locals)=false∧decide (m.stack<(x.stack.length:Int))=true) ∨
      ((decide (1≤x.at_)&&decide (x.at_≤(m.code.length:Int)-1))=true∧decide (x.at_≤l)=false∧((x.locals.length:Int) != m.locals)=false∧decide (m.stack<(x.stack.length:Int))=false∧x.locals.all tagB=false) ∨
      ((decide (1≤x.at_)&&decide (x.at_≤(m.code.length:Int)-1))=true∧decide (x.at_≤l)=false∧((x.locals.length:Int) != m.locals)=false∧decide (m.stack<(x.stack.length:Int))=false∧x.locals.all tagB=true∧x.stack.all tagB=false) ∨
      ((decide (1≤x.at_)&&decide (x.at_≤(m.code.length:Int)-1))=true∧decide (x.at_≤l)=false∧((x.locals.length:Int) != m.locals)=false∧decide (m.stack<(x.stack.length:Int))=false∧x.locals.all tagB=true∧x.stack.all tagB=true):=by
     cases(decide (1≤x.at_)&&decide (x.at_≤(m.code.length:Int)-1))<;>cases decide (x.at_≤l)<;>cases((x.locals.length:Int) != m.locals)<;>cases decide (m.stack<(x.stack.length:Int))<;>cases x.locals.all tagB<;>cases x.stack.all tagB<;>simp
    have hA:Fr No wr (wr.alloc (.cells #[.int .i64 x.at_,.slice Al x.locals.length cl,.slice As x.stack.length cs] 165)):=(Fr.refl No wr).alloc _
    have EB:=fun W (h:Fr No (wr.alloc (.cells #[.int .i64 x.at_,.slice Al x.locals.length cl,.slice As x.stack.length cs] 165)) W)=>((hB'.alloc _).keep h).c8
    have EX:=fun W (h:Fr No (wr.alloc (.cells #[.int .i64 x.at_,.slice Al x.locals.length cl,.slice As x.stack.length cs] 165)) W)=>((Bx.new wr 165 _).keep h).c3
    have e4:=fun W h=>(EB W h).2.2.2.2.1
    have e5:=fun W h=>(EB W h).2.2.2.2.2.1
    have e6:=fun W h=>(EB W h).2.2.2.2.2.2.1
    have e7:=fun W h=>(EB W h).2.2.2.2.2.2.2
    have x0:=fun W h=>(EX W h).1
    have x1:=fun W h=>(EX W h).2.1
    have x2:=fun W h=>(EX W h).2.2
    clear EB EX
    have HM:zfY m.code.length m.locals m.stack l x=true->Hid (zf4 m=zf3 m.code.length m.locals m.stack x.at_ (m.maps.drop (k+1))):=fun h=>by
     have:=ha.out
     rwa [zf3,h,Bool.true_and] at this
    have HF:zfY m.code.length m.locals m.stack l x=false->Hid (zf4 m=false):=fun h=>by
     have:=ha.out
     rwa [zf3,h,Bool.false_and] at this
    have HM:=Lib.hid HM
    have HF:=Lib.hid HF
    clear ha
    go_wp2_with fail
    (refine zgc (X:=No) (by kernel_rfl) (by kernel_rfl) ?_)
    clear b0 b1 b2 b3 b4 b5 b6 b7 c0 c1 c2
    rcases hprev.out with ⟨hk0,hl0'⟩ | ⟨hk0,_,k',hk',hp⟩
    all_goals rcases hcase with h1 | ⟨h1,h2⟩ | ⟨h1,h2,h3⟩ | ⟨h1,h2,h3,h4⟩ | ⟨h1,h2,h3,h4,h5⟩ | ⟨h1,h2,h3,h4,h5,h6⟩ | ⟨h1,h2,h3,h4,h5,h6⟩
    all_goals first
     | (exfalso;rw[lz5,decide_eq_true_eq,decide_eq_true_eq] at h1;rw[decide_eq_true_eq] at h2;omega)
     | skip
    all_goals
     first
      | have HE:=Lib.hid (HM.out ((zlC _ _ _ _ _ _ h1 h2 h3 h4 h5 h6 hl0).trans rfl))
      | have HE:=Lib.hid (HF.out ((zlC _ _ _ _ _ _ h1 rfl rfl rfl rfl rfl hl0).trans rfl))
      | have HE:=Lib.hid (HF.out ((zlC _ _ _ _ _ _ h1 h2 rfl rfl rfl rfl hl0).trans rfl))
      | have HE:=Lib.hid (HF.out ((zlC _ _ _ _ _ _ h1 h2 h3 rfl rfl rfl hl0).trans rfl))
      | have HE:=Lib.hid (HF.out ((zlC _ _ _ _ _ _ h1 h2 h3 h4 rfl rfl hl0).trans rfl))
      | have HE:=Lib.hid (HF.out ((zlC _ _ _ _ _ _ h1 h2 h3 h4 h5 rfl hl0).trans rfl))
      | have HE:=Lib.hid (HF.out ((zlC _ _ _ _ _ _ h1 h2 h3 h4 h5 h6 hl0).trans rfl))
     try rw[h1] at hl1
     try rw[h5] at H1
     try rw[h6] at H2
     clear HM HF hprev
     try clear h1
     try clear h5
     try clear h6
     try have hp:=fun W h=>(hA.trans0 h).keep0 (w':=W) hp
     try have wk:IntKind.i64.wrap ((k:Int)-1)=(k':Int):=(IntWalk.i64_in _ (by omega)).trans (by omega)
     try have hkl:k'<m.maps.length:=by omega
     try have hk':=Lib.hid hk'
     try clear hl0'
     try(have hk00:¬0<k:=(by omega);clear hk0)
     (repeat((first|go_big_quiet_skip|(go_big_quiet_want;(apply Exists.intro;refine⟨fun W hW=>?_,?_⟩);(focus (first|exact fqc|(go_simp;first|(go_at_call 34;exact(hl1 W).mono (fun _ _ h=>zgl.toFr h hW))|(go_at_call_of 133 (Value.slice Al x.locals.length cl);exact(H1 W (hA.trans0 hW)).mono (fun _ _ h=>zgm.toFr h hW))|(go_at_call_of 133 (Value.slice As x.stack.length cs);exact(H2 W (hA.trans0 hW)).mono (fun _ _ h=>zgm.toFr h hW)))));go_big_quiet_on));(try simp only[Act.put,lz0,lz1,lz2])));refine wpQuiet_nil ?_
     intro w1 hf1
     clear H1 H2 hl1 e4 e5 e6 e7 x0 x1 x2
     try clear hp
     go_wp2
     first
      | (go_ret;exact .mk (by rw[HE.out.out]) (by exact frc))
      | (go_roundw;(case rel=>exact⟨k+1,x.at_,by omega,by go_num,rfl,HE.out,hnext.out (by have:=of_decide_eq_false h2;omega),hB'.keep (hA.trans0 hf1),by exact frc⟩);(case measure=>simp[intOf];omega))
   ·have HS:Hid (zf4 m=true):=by have:=ha.out;rwa [List.drop_eq_nil_of_le (by omega)] at this
    clear ha hm
    go_wp2
    go_ret
    exact .mk (by rw[HS.out]) (by exact frc)
 ·have hb:Hid (zf4 m=false):=by unfold Hid zf4;rw[decide_eq_false hr];rfl
  clear hm
  go_enter Tryz.func102,Tryz.ntmps102
  go_wp2
  go_ret
  exact .mk (by rw[hb.out]) (by exact frc)
end Go.Proofs.YtpghfhjhjlmljaaGreat
