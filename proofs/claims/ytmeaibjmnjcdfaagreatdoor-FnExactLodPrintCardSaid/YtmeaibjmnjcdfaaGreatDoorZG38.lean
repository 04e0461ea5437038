/- The laws' marks on a row of texts, and how they are found again; their comparison. -/
import Derived.Test.YtmeaibjmnjcdfaaGreatDoorZG37
import Derived.Test.YtmeaibjmnjcdfaaGreatDoorZG22
set_option maxHeartbeats 4000000
set_option maxRecDepth 100000
namespace Go.Proofs.YtmeaibjmnjcdfaaGreatDoor
open Go.RowKit
def zzp (k:Int) (i:Nat):Value:=.string (zoL (k+i))
structure Mk1 (g off:Nat) (k:Int) (w:World) (m:Nat) (W:World):Prop where
 tw:Tw (fun b=>b=g) w W
 cells:∀i,i<m->W.cell? ⟨g,off+i,none⟩=some (zzp k i)
section
variable {g off m a:Nat} {k x:Int} {w W W':World}
theorem Mk1.of0 (h:Mk1 g off k w m W) (hf:Fr No W W'):Mk1 g off k w m W':=⟨h.tw.trans (.of0 hf),fun i hi=>hf.keep0 (h.cells i hi)⟩
theorem Mk1.step {u v:Value} (h:Mk1 g off k w m W) (ha:a=off+m) (hu:u=zzp k m) (hc:W.cell? ⟨g,a,none⟩=some v) (hl:LkV v u):Mk1 g off k w (m+1) (W.setCell ⟨g,a,none⟩ u):=by
 subst ha
 refine⟨h.tw.trans (.set hc hl rfl),fun i hi=>?_⟩
 by_cases he:i=m
 ·subst he;rw[World.cell?_setCell_same _ _ _ hc,hu]
 ·rw[World.cell?_setCell_other W ⟨g,off+m,none⟩ ⟨g,off+i,none⟩ u (fun e=>he (by injection e with _ h2 _;omega))]
  exact h.cells i (by omega)
theorem Mk1.stepS (h:Mk1 g off k w m W) (hc:∀W,Tw (fun b=>b=g) w W->∃x,W.cell? ⟨g,a,none⟩=some (.string x)) (ha:a=off+m) (hx:x=k+m):Mk1 g off k w (m+1) (W.setCell ⟨g,a,none⟩ (.string (zoL x))):=
 let ⟨_,hv⟩:=hc W h.tw;h.step ha (by rw[hx];rfl) hv (.inr (.inr ⟨_,_,rfl,rfl⟩))
end
theorem srt1 {g a i:Nat} {w:World} (h:∃v,w.cell? ⟨g,a,none⟩=some v∧LkV (zzp 0 i) v):∀W,Tw (fun b=>b=g) w W->∃x,W.cell? ⟨g,a,none⟩=some (.string x):=fun W hT=>by
 obtain⟨v,h1,h2⟩:=h
 rw[zzp] at h2
 obtain⟨v',h3,h4⟩:=hT.like _ _ _ h1
 obtain⟨x,rfl⟩:=(h2.trans h4).str
 exact⟨x,h3⟩
theorem zzq (X Y:Nat->Prop) (v v1:Value) (xs:List Str) (w:World) (h:Sl X w 1 StrC v xs) (g:Sl Y w 1 StrC v1 xs):
  Calls Tryz.prog 11 #[v,v1] w (zgm true w):=by
 obtain⟨A,cap,rfl,_,hlen⟩:=h.form
 obtain⟨B,cap1,rfl,_,_⟩:=g.form
 unfold maxLen at hlen
 go_enter Tryz.func11,Tryz.ntmps11
 go_wp2
 go_loopw [5,4] (fun i r wr=>∃k:Nat,k≤xs.length∧i=.int .i64 k∧r=.bool false∧Fr No w wr) (fun i _ _=>xs.length-(intOf i).toNat)
 case atStart=>exact⟨0,Nat.zero_le _,rfl,rfl,Fr.refl _ _⟩
 case round=>
  obtain⟨k,hk,rfl,rfl,hf⟩:=hrel
  by_cases hlt:k<xs.length
  ·obtain⟨b,bf,rfl,_,c0,z0⟩:=(h.k0 hf).strs hlt
   obtain⟨a,af,rfl,_,f0,y0⟩:=(g.k0 hf).strs hlt
   clear h g
   generalize xs[k]=x at *
   have C0:=kp c0
   have F0:=kp f0
   go_wp2_with fail
   refine zn0 8 25 [mV (.slice (some ⟨b,bf,none⟩) xs.length cap),mV (.int .i64 k),mV (.pointer (some ⟨b,bf+k,none⟩)),mV (.string x),mV (.slice (some ⟨a,af,none⟩) xs.length cap1),mV (.int .i64 k),mV (.pointer (some ⟨a,af+k,none⟩)),mV (.string x)] (by kernel_rfl) (by kernel_rfl) (by simp) ?_ ?_
   ·refine hc4 ?_ ?_ ?_ ?_ <| hc4 ?_ ?_ ?_ ?_ <| hopZ
    all_goals (intro a' W hW hoff hdep;have hbs:=hW.size;have H0:=hoff 0 rfl;have H5:=hoff 5 rfl;have H1:=hoff 1 rfl;refine nE rfl ?_)
    ·simp[execOp,Act.eval,H0,go_sem,zaa];exact fr1 rfl
    ·simp[execOp,Act.eval,H5,go_sem,zaa];exact fr1 rfl
    ·have D17:_=_:=hdep 0 17 rfl;have D18:_=_:=hdep 1 18 rfl;clear hoff hdep;simp[execOp,Act.eval,go_sem,zaa, *];exact fr1 rfl
    ·have D19:_=_:=hdep 2 19 rfl;clear hoff hdep;simp[execOp,Act.eval,go_sem,zaa, *];exact fr1 rfl
    ·simp[execOp,Act.eval,H1,go_sem,zaa];exact fr1 rfl
    ·simp[execOp,Act.eval,H5,go_sem,zaa];exact fr1 rfl
    ·have D21:_=_:=hdep 4 21 rfl;have D22:_=_:=hdep 5 22 rfl;clear hoff hdep;simp[execOp,Act.eval,go_sem,zaa, *];exact fr1 rfl
    ·have D23:_=_:=hdep 6 23 rfl;clear hoff hdep;simp[execOp,Act.eval,go_sem,zaa, *];exact fr1 rfl
   intro vs W9 hW9 hv hne
   simp only[lz6,List.drop_zero,znK,znR,Nat.zero_add,Nat.reduceAdd]
   simp only[Act.put,lz0,lz1,lz2]
   clear hv
   clear C0 F0
   have hT1:=hf.trans0 hW9
   go_wp2
   go_roundw
   case rel=>exact⟨k+1,by omega,by go_num,rfl,hT1⟩
   case measure=>simp[intOf];omega
  ·clear h g
   go_wp2
   go_ret
   exact .mk rfl (by exact frc)
theorem zzr (A:Option Addr) (g off L cap:Nat) (k:Int) (w:World) (hcap:L≤cap) (hlen:L≤9223372036854775807) (hA:0<L->A=some ⟨g,off,none⟩∧(∀o,w.frozen? ⟨g,o,none⟩=false)∧g<w.heap.size)
  (hs:∀i,i<L->∃v,w.cell? ⟨g,off+i,none⟩=some v∧LkV (zzp 0 i) v) (h0:0≤k) (hk:k+L≤1000000000):
  Calls Tryz.prog 14 #[.slice A L cap,.int .i64 k] w (fun e w'=>e=.returned (.int .i64 (k+L))∧Mk1 g off k w L w'):=by
 go_enter Tryz.func14,Tryz.ntmps14
 go_wp2
 go_loopw [5,1] (fun i l wr=>∃(j:Nat) (n:Int),j≤L∧i=.int .i64 j∧l=.int .i64 n∧n=k+j∧Mk1 g off k w j wr) (fun i _ _=>L-(intOf i).toNat)
 case atStart=>exact⟨0,k,Nat.zero_le _,rfl,rfl,by simp,.refl _ _,fun i hi=>by omega⟩
 case round=>
  obtain⟨j,n,hj,rfl,rfl,hn,hT⟩:=hrel
  by_cases hlt:j<L
  ·obtain⟨rfl,hF,hG⟩:=hA (by omega)
   have hc_0:=srt1 (hs j (by omega))
   have hfr:∀W,Tw (fun b=>b=g) w W->(∀o,W.frozen? ⟨g,o,none⟩=false)∧g<W.heap.size:=fun W h=>⟨fun o=>by rw[h.froz g o hG];exact hF o,Nat.lt_of_lt_of_le hG h.fr.size⟩
   clear hs hA
   replace hc_0:=Lib.hid hc_0
   replace hfr:=Lib.hid hfr
   have hb:n+1≤1000000000:=by omega
   have hb0:0≤n:=by omega
   go_wp2_with fail
   refine(zoM _ _ (by omega)).mono ?_
   rintro e w1 ⟨rfl,hf1⟩
   have hT1:=hT.of0 hf1
   clear hT hf1
   obtain⟨qx0,q0⟩:=hc_0.out w1 hT1.tw
   obtain⟨qf,ql⟩:=hfr.out w1 hT1.tw
   go_wp2
   go_roundw
   case rel=>exact⟨j+1,_,by omega,by go_num,rfl,by omega,hT1.stepS hc_0.out rfl (by omega)⟩
   case measure=>simp[intOf];omega
  ·obtain rfl:j=L:=by omega
   go_wp2
   go_ret
   exact⟨by rw[hn];rfl,hT⟩
theorem zzs (A:Option Addr) (g off L cap:Nat) (k:Int) (w:World) (hcap:L≤cap) (hlen:L≤9223372036854775807) (hA:0<L->A=some ⟨g,off,none⟩)
  (hs:∀i,i<L->w.cell? ⟨g,off+i,none⟩=some (zzp k i)) (h0:0≤k) (hk:k+L≤1000000000):
  Calls Tryz.prog 15 #[.slice A L cap,.int .i64 k] w (Gives (.int .i64 (k+L)) w):=by
 go_enter Tryz.func15,Tryz.ntmps15
 go_wp2
 go_loopw [5,1] (fun i l wr=>∃(j:Nat) (n:Int),j≤L∧i=.int .i64 j∧l=.int .i64 n∧n=k+j∧Fr No w wr) (fun i _ _=>L-(intOf i).toNat)
 case atStart=>exact⟨0,k,Nat.zero_le _,rfl,rfl,by simp,Fr.refl _ _⟩
 case round=>
  obtain⟨j,n,hj,rfl,rfl,hn,hT⟩:=hrel
  by_cases hlt:j<L
  ·obtain rfl:=hA (by omega)
   have hc_0:w.cell? ⟨g,off+j,none⟩=some (.string (zoL n)):=by rw[hs j hlt,hn];rfl
   clear hs hA
   have hb:n+1≤1000000000:=by omega
   have hb0:0≤n:=by omega
   have q0:=hT.keep0 hc_0
   have K1:=fun W (hW:Fr No wr W)=>(hT.trans0 hW).keep0 hc_0
   have M1:=fun W (_:Fr No wr W)=>zoM n W (by omega)
   replace hn:=Lib.hid hn
   replace hc_0:=Lib.hid hc_0
   go_wp2_with fail
   refine zn0 6 18 [mV (.slice (some ⟨g,off,none⟩) L cap),mV (.int .i64 j),mV (.pointer (some ⟨g,off+j,none⟩)),mV (.string (zoL n)),mV (.int .i64 n),mV (.string (zoL n))] (by kernel_rfl) (by kernel_rfl) (by simp) ?_ ?_
   ·refine hc4 ?_ ?_ ?_ ?_ <| hopC ?_ <| hopC ?_ <| hopZ
    all_goals (intro a' W hW hoff hdep;have hbs:=hW.size;have H0:=hoff 0 rfl;have H5:=hoff 5 rfl;have H1:=hoff 1 rfl;refine nE rfl ?_)
    ·simp[execOp,Act.eval,H0,go_sem,zaa];exact fr1 rfl
    ·simp[execOp,Act.eval,H5,go_sem,zaa];exact fr1 rfl
    ·have D12:_=_:=hdep 0 12 rfl;have D13:_=_:=hdep 1 13 rfl;clear hoff hdep;simp[execOp,Act.eval,go_sem,zaa, *];exact fr1 rfl
    ·have D14:_=_:=hdep 2 14 rfl;clear hoff hdep;simp[execOp,Act.eval,go_sem,zaa, *];exact fr1 rfl
    ·simp[execOp,Act.eval,H1,go_sem,zaa];exact fr1 rfl
    ·have D16:_=_:=hdep 4 16 rfl;simp[Act.eval,D16,go_sem,zaa];exact(M1 _ hW).mono fun e w'' h=>⟨_,h.1,h.2,rfl⟩
   intro vs W9 hW9 hv hne
   simp only[lz6,List.drop_zero,znK,znR,Nat.zero_add,Nat.reduceAdd]
   simp only[Act.put,lz0,lz1,lz2]
   clear hv
   clear K1 M1
   have hT1:=hT.trans0 hW9
   go_wp2
   go_roundw
   case rel=>exact⟨j+1,_,by omega,by go_num,rfl,by have:=hn.out;omega,hT1⟩
   case measure=>simp[intOf];omega
  ·obtain rfl:j=L:=by omega
   go_wp2
   go_ret
   exact .mk (by rw[hn];rfl) hT
structure Rs (A:Option Addr) (g L:Nat) (C:Nat->Value) (w:World):Prop where
 at_:0<L->A=some ⟨g,0,none⟩∧(∀o,w.frozen? ⟨g,o,none⟩=false)∧g<w.heap.size
 cells:∀i,i<L->w.cell? ⟨g,0+i,none⟩=some (C i)
theorem Rs.keep {A:Option Addr} {g L:Nat} {C:Nat->Value} {X:Nat->Prop} {w w':World} (h:Rs A g L C w) (hf:Fr X w w') (hX:¬X g):Rs A g L C w':=by
 refine⟨fun h0=>?_,fun i hi=>?_⟩
 ·obtain⟨h1,h2,h3⟩:=h.at_ h0
  exact⟨h1,fun o=>by rw[hf.frozenX o h3 hX];exact h2 o,Nat.lt_of_lt_of_le h3 hf.size⟩
 ·have h3:=(h.at_ (by omega)).2.2
  rw[hf.cellX _ h3 hX]
  exact h.cells i hi
theorem Rs.marked {A:Option Addr} {g L:Nat} {C:Nat->Value} {k:Int} {w w':World} (h:Rs A g L C w) (hm:Mk1 g 0 k w L w'):Rs A g L (zzp k) w':=by
 refine⟨fun h0=>?_,hm.cells⟩
 obtain⟨h1,h2,h3⟩:=h.at_ h0
 exact⟨h1,fun o=>by rw[hm.tw.froz g o h3];exact h2 o,Nat.lt_of_lt_of_le h3 hm.tw.fr.size⟩
def stC (F:List Str) (i:Nat):Value:=.string (F[i]?.getD ⟨#[]⟩)
def rsB (F:List Str) (base:Nat):Value->World->Prop:=fun v W=>∃A c g,v=.slice A F.length c∧F.length≤c∧base≤g∧Rs A g F.length (stC F) W
theorem rsB.le {F:List Str} {b1 b0:Nat} {v:Value} {w:World} (h:rsB F b1 v w) (hb:b0≤b1):rsB F b0 v w:=by
 obtain⟨A,c,g,h1,h2,h3,h4⟩:=h
 exact⟨A,c,g,h1,h2,Nat.le_trans hb h3,h4⟩
theorem zzt {F:List Str} {base:Nat} {v:Value} {w:World} (h:zqY w base v F):rsB F base v w:=by
 obtain⟨hr,hq⟩:=h
 rcases Nat.eq_zero_or_pos F.length with h0|h0
 ·obtain rfl:=List.eq_nil_of_length_eq_zero h0
  obtain⟨A,c,rfl,h1,_⟩:=hr.form
  exact⟨A,c,base,rfl,h1,Nat.le_refl _,fun h=>absurd h (by simp),fun i h=>absurd h (by simp)⟩
 ·obtain⟨g,c,cur,rfl,h1,h2,hb,h3,h4,h5⟩:=hr.at_ h0
  refine⟨_,c,g,rfl,h1,hq _ h5,fun _=>⟨rfl,fun o=>hb.frozen o,hb.lt⟩,fun i hi=>?_⟩
  rw[Nat.zero_add,hr.cell rfl (by omega),ztk,stC,List.getElem?_map,lz8 hi]
  rfl
theorem Rs.sl {A:Option Addr} {g cap:Nat} {F:List Str} {X:Nat->Prop} {w:World} (h:Rs A g F.length (stC F) w) (hX:¬X g) (h1:F.length≤cap) (h2:F.length≤maxLen) (hn:∀x∈F,x.size≤maxLen):Sl X w 1 StrC (.slice A F.length cap) F:=by
 refine⟨_,cap,rfl,h1,h2,fun h0=>?_⟩
 refine⟨g,0,(h.at_ h0).1,hX,fun k hk=>⟨[.string F[k]],⟨rfl,hn _ (List.getElem_mem hk)⟩,rfl,fun j hj=>?_⟩⟩
 obtain rfl:j=0:=by omega
 have e:=h.cells k hk
 rw[stC,lz8 hk] at e
 rw[show(0+k * 1+0)=0+k by omega,e]
 rfl
theorem Rs.sorts {A:Option Addr} {g:Nat} {F:List Str} {w:World} (h:Rs A g F.length (stC F) w):∀i,i<F.length->∃v,w.cell? ⟨g,0+i,none⟩=some v∧LkV (zzp 0 i) v:=fun i hi=>
 ⟨_,h.cells i hi,.inr (.inr ⟨_,_,rfl,rfl⟩)⟩
def slT (F:List Str):Value->World->Prop:=fun v W=>∃A c,v=.slice A F.length c∧Sl No W 1 StrC (.slice A F.length c) F
theorem zzu {F:List Str} {v:Value} {w:World} (h:Sl No w 1 StrC v F):slT F v w:=by
 obtain⟨A,c,rfl,_,_⟩:=h.form
 exact⟨A,c,rfl,h⟩
end Go.Proofs.YtmeaibjmnjcdfaaGreatDoor
