/- The laws' marks on rows of a plan, found again (printed by marko3.py). -/
import Derived.Test.YtpghfhjhjlmljaaGreatPG40
set_option maxHeartbeats 8000000
set_option maxRecDepth 100000
namespace Go.Proofs.YtpghfhjhjlmljaaGreat
open Go.RowKit
theorem zCh (X:Nat->Prop) (v:Value) (L:Nat) (k:Int) (w:World) (h:Sl X w 2 KndC v ((List.range L).map fun i:Nat=>zBR (k+i * 2))) (h0:0≤k) (hk:k+(L:Int) * 2≤1000000000):
  Calls Tryz.prog 127 #[v,.int .i64 k] w (Gives (.int .i64 (k+(L:Int) * 2)) w):=by
 obtain⟨A,cap,rfl,hcap,hmax⟩:=h.form
 have hlen:(List.length ((List.range L).map fun i:Nat=>zBR (k+i * 2)))=L:=by simp
 rw[hlen] at h hcap hmax ⊢
 unfold maxLen at hmax
 go_enter Tryz.func127,Tryz.ntmps127
 go_wp2
 go_loopw [5,1] (fun i l wr=>∃(j:Nat) (n:Int),j≤L∧i=.int .i64 j∧l=.int .i64 n∧Hid (n=k+j * 2)∧Fr No w wr) (fun i _ _=>L-(intOf i).toNat)
 case atStart=>exact⟨0,k,Nat.zero_le _,rfl,rfl,Lib.hid (by simp),Fr.refl _ _⟩
 case round=>
  obtain⟨j,n,hj,rfl,rfl,hn,hF0⟩:=hrel
  by_cases hlt:j<L
  ·have hjl:j<List.length ((List.range L).map fun i:Nat=>zBR (k+i * 2)):=by rw[hlen];exact hlt
   obtain⟨g,off,cs,rfl,_,hC,hcs⟩:=h.cells hjl
   have hel:((List.range L).map fun i:Nat=>zBR (k+i * 2))[j]=zBR n:=by rw[hn.out];simp
   have hb:n+2≤1000000000:=by have:=hn.out;omega
   rw[hel] at hC
   have hb0:0≤n:=by have:=hn.out;omega
   obtain⟨rfl,_⟩:=hC
   have c0:w.cell? ⟨g,off+j * 2,none⟩=some (.int .i64 (n)):=hcs 0 _ (by decide) rfl
   have c1:w.cell? ⟨g,off+j * 2+1,none⟩=some (.string (zoL (n+1))):=hcs 1 _ (by decide) rfl
   replace c0:=Lib.hid c0
   replace c1:=Lib.hid c1
   clear h hcs hel
   have d0:=hF0.keep0 c0.out
   have d1:=fun W (hW:Fr No wr W)=>(hF0.trans0 hW).keep0 c1.out
   have M1:=fun W (_:Fr No wr W)=>zoM (n+1) W (by omega)
   go_wp2_with fail
   refine zn0 7 28 [mV (.slice (some ⟨g,off,none⟩) L cap),mV (.int .i64 j),mV (.pointer (some ⟨g,off+j * 2,none⟩)),mV (.pointer (some ⟨g,off+j * 2+1,none⟩)),mV (.string (zoL (n+1))),mV (.int .i64 (n+1)),mV (.string (zoL (n+1)))] (by kernel_rfl) (by kernel_rfl) (by simp) ?_ ?_
   ·refine hc4 ?_ ?_ ?_ ?_ <| hopC ?_ <| hopC ?_ <| hopC ?_ <| hopZ
    all_goals (intro a' W hW hoff hdep;have hbs:=hW.size;have H0:=hoff 0 rfl;have H5:=hoff 5 rfl;have H1:=hoff 1 rfl;refine nE rfl ?_)
    ·simp[execOp,Act.eval,H0,go_sem,zaa];exact fr1 rfl
    ·simp[execOp,Act.eval,H5,go_sem,zaa];exact fr1 rfl
    ·have D21:_=_:=hdep 0 21 rfl;have D22:_=_:=hdep 1 22 rfl;clear hoff hdep;simp[execOp,Act.eval,go_sem,zaa, *];exact fr1 rfl
    ·have D23:_=_:=hdep 2 23 rfl;simp[execOp,Act.eval,D23,go_sem,zaa];exact fr1 rfl
    ·have D24:_=_:=hdep 3 24 rfl;clear hoff hdep;simp[execOp,Act.eval,go_sem,zaa, *];exact fr1 rfl
    ·simp[execOp,Act.eval,H1,go_sem,zaa];exact fr1 rfl
    ·have D26:_=_:=hdep 5 26 rfl;simp[Act.eval,D26,go_sem,zaa];exact(M1 _ hW).mono fun e w'' h=>⟨_,h.1,h.2,rfl⟩
   intro vs W1 hW1 hv hne
   simp only[lz6,List.drop_zero,znK,znR,Nat.zero_add,Nat.reduceAdd]
   simp only[Act.put,lz0,lz1,lz2]
   clear hv
   clear d1 M1
   try clear d0
   have hF1:=hF0.trans0 hW1
   go_wp2
   go_roundw
   case rel=>exact⟨j+1,_,by omega,by go_num,rfl,Lib.hid (by rw[hn.out];omega),hF1⟩
   case measure=>simp[intOf];omega
  ·obtain rfl:j=L:=by omega
   clear h
   go_wp2
   go_ret
   exact .mk (by rw[hn.out];rfl) hF0
theorem zCi (X:Nat->Prop) (v:Value) (L:Nat) (k:Int) (w:World) (h:Sl X w 2 TagC v ((List.range L).map fun i:Nat=>zBU (k+i * 2))) (h0:0≤k) (hk:k+(L:Int) * 2≤1000000000):
  Calls Tryz.prog 141 #[v,.int .i64 k] w (Gives (.int .i64 (k+(L:Int) * 2)) w):=by
 obtain⟨A,cap,rfl,hcap,hmax⟩:=h.form
 have hlen:(List.length ((List.range L).map fun i:Nat=>zBU (k+i * 2)))=L:=by simp
 rw[hlen] at h hcap hmax ⊢
 unfold maxLen at hmax
 go_enter Tryz.func141,Tryz.ntmps141
 go_wp2
 go_loopw [5,1] (fun i l wr=>∃(j:Nat) (n:Int),j≤L∧i=.int .i64 j∧l=.int .i64 n∧Hid (n=k+j * 2)∧Fr No w wr) (fun i _ _=>L-(intOf i).toNat)
 case atStart=>exact⟨0,k,Nat.zero_le _,rfl,rfl,Lib.hid (by simp),Fr.refl _ _⟩
 case round=>
  obtain⟨j,n,hj,rfl,rfl,hn,hF0⟩:=hrel
  by_cases hlt:j<L
  ·have hjl:j<List.length ((List.range L).map fun i:Nat=>zBU (k+i * 2)):=by rw[hlen];exact hlt
   obtain⟨g,off,cs,rfl,_,hC,hcs⟩:=h.cells hjl
   have hel:((List.range L).map fun i:Nat=>zBU (k+i * 2))[j]=zBU n:=by rw[hn.out];simp
   have hb:n+2≤1000000000:=by have:=hn.out;omega
   rw[hel] at hC
   have hb0:0≤n:=by have:=hn.out;omega
   obtain⟨rfl,_⟩:=hC
   have c0:w.cell? ⟨g,off+j * 2,none⟩=some (.int .i64 (n)):=hcs 0 _ (by decide) rfl
   have c1:w.cell? ⟨g,off+j * 2+1,none⟩=some (.string (zoL (n+1))):=hcs 1 _ (by decide) rfl
   replace c0:=Lib.hid c0
   replace c1:=Lib.hid c1
   clear h hcs hel
   have d0:=hF0.keep0 c0.out
   have d1:=fun W (hW:Fr No wr W)=>(hF0.trans0 hW).keep0 c1.out
   have M1:=fun W (_:Fr No wr W)=>zoM (n+1) W (by omega)
   go_wp2_with fail
   refine zn0 7 28 [mV (.slice (some ⟨g,off,none⟩) L cap),mV (.int .i64 j),mV (.pointer (some ⟨g,off+j * 2,none⟩)),mV (.pointer (some ⟨g,off+j * 2+1,none⟩)),mV (.string (zoL (n+1))),mV (.int .i64 (n+1)),mV (.string (zoL (n+1)))] (by kernel_rfl) (by kernel_rfl) (by simp) ?_ ?_
   ·refine hc4 ?_ ?_ ?_ ?_ <| hopC ?_ <| hopC ?_ <| hopC ?_ <| hopZ
    all_goals (intro a' W hW hoff hdep;have hbs:=hW.size;have H0:=hoff 0 rfl;have H5:=hoff 5 rfl;have H1:=hoff 1 rfl;refine nE rfl ?_)
    ·simp[execOp,Act.eval,H0,go_sem,zaa];exact fr1 rfl
    ·simp[execOp,Act.eval,H5,go_sem,zaa];exact fr1 rfl
    ·have D21:_=_:=hdep 0 21 rfl;have D22:_=_:=hdep 1 22 rfl;clear hoff hdep;simp[execOp,Act.eval,go_sem,zaa, *];exact fr1 rfl
    ·have D23:_=_:=hdep 2 23 rfl;simp[execOp,Act.eval,D23,go_sem,zaa];exact fr1 rfl
    ·have D24:_=_:=hdep 3 24 rfl;clear hoff hdep;simp[execOp,Act.eval,go_sem,zaa, *];exact fr1 rfl
    ·simp[execOp,Act.eval,H1,go_sem,zaa];exact fr1 rfl
    ·have D26:_=_:=hdep 5 26 rfl;simp[Act.eval,D26,go_sem,zaa];exact(M1 _ hW).mono fun e w'' h=>⟨_,h.1,h.2,rfl⟩
   intro vs W1 hW1 hv hne
   simp only[lz6,List.drop_zero,znK,znR,Nat.zero_add,Nat.reduceAdd]
   simp only[Act.put,lz0,lz1,lz2]
   clear hv
   clear d1 M1
   try clear d0
   have hF1:=hF0.trans0 hW1
   go_wp2
   go_roundw
   case rel=>exact⟨j+1,_,by omega,by go_num,rfl,Lib.hid (by rw[hn.out];omega),hF1⟩
   case measure=>simp[intOf];omega
  ·obtain rfl:j=L:=by omega
   clear h
   go_wp2
   go_ret
   exact .mk (by rw[hn.out];rfl) hF0
theorem zCj (X:Nat->Prop) (v:Value) (L:Nat) (k:Int) (w:World) (h:Sl X w 4 InsC v ((List.range L).map fun i:Nat=>zBW (k+i * 4))) (h0:0≤k) (hk:k+(L:Int) * 4≤1000000000):
  Calls Tryz.prog 128 #[v,.int .i64 k] w (Gives (.int .i64 (k+(L:Int) * 4)) w):=by
 obtain⟨A,cap,rfl,hcap,hmax⟩:=h.form
 have hlen:(List.length ((List.range L).map fun i:Nat=>zBW (k+i * 4)))=L:=by simp
 rw[hlen] at h hcap hmax ⊢
 unfold maxLen at hmax
 go_enter Tryz.func128,Tryz.ntmps128
 go_wp2
 go_loopw [5,1] (fun i l wr=>∃(j:Nat) (n:Int),j≤L∧i=.int .i64 j∧l=.int .i64 n∧Hid (n=k+j * 4)∧Fr No w wr) (fun i _ _=>L-(intOf i).toNat)
 case atStart=>exact⟨0,k,Nat.zero_le _,rfl,rfl,Lib.hid (by simp),Fr.refl _ _⟩
 case round=>
  obtain⟨j,n,hj,rfl,rfl,hn,hF0⟩:=hrel
  by_cases hlt:j<L
  ·have hjl:j<List.length ((List.range L).map fun i:Nat=>zBW (k+i * 4)):=by rw[hlen];exact hlt
   obtain⟨g,off,cs,rfl,_,hC,hcs⟩:=h.cells hjl
   have hel:((List.range L).map fun i:Nat=>zBW (k+i * 4))[j]=zBW n:=by rw[hn.out];simp
   have hb:n+4≤1000000000:=by have:=hn.out;omega
   rw[hel] at hC
   have hb0:0≤n:=by have:=hn.out;omega
   obtain⟨rfl,_⟩:=hC
   have c0:w.cell? ⟨g,off+j * 4,none⟩=some (.int .i64 (n)):=hcs 0 _ (by decide) rfl
   have c1:w.cell? ⟨g,off+j * 4+1,none⟩=some (.int .i64 (n+1)):=hcs 1 _ (by decide) rfl
   have c2:w.cell? ⟨g,off+j * 4+2,none⟩=some (.string (zoL (n+1+1))):=hcs 2 _ (by decide) rfl
   have c3:w.cell? ⟨g,off+j * 4+3,none⟩=some (.string (zoL (n+1+1+1))):=hcs 3 _ (by decide) rfl
   replace c0:=Lib.hid c0
   replace c1:=Lib.hid c1
   replace c2:=Lib.hid c2
   replace c3:=Lib.hid c3
   clear h hcs hel
   have d0:=hF0.keep0 c0.out
   have d1:=hF0.keep0 c1.out
   have d2:=fun W (hW:Fr No wr W)=>(hF0.trans0 hW).keep0 c2.out
   have M2:=fun W (_:Fr No wr W)=>zoM (n+1+1) W (by omega)
   go_wp2_with fail
   refine zn0 7 37 [mV (.slice (some ⟨g,off,none⟩) L cap),mV (.int .i64 j),mV (.pointer (some ⟨g,off+j * 4,none⟩)),mV (.pointer (some ⟨g,off+j * 4+2,none⟩)),mV (.string (zoL (n+1+1))),mV (.int .i64 (n+1+1)),mV (.string (zoL (n+1+1)))] (by kernel_rfl) (by kernel_rfl) (by simp) ?_ ?_
   ·refine hc4 ?_ ?_ ?_ ?_ <| hopC ?_ <| hopC ?_ <| hopC ?_ <| hopZ
    all_goals (intro a' W hW hoff hdep;have hbs:=hW.size;have H0:=hoff 0 rfl;have H5:=hoff 5 rfl;have H1:=hoff 1 rfl;refine nE rfl ?_)
    ·simp[execOp,Act.eval,H0,go_sem,zaa];exact fr1 rfl
    ·simp[execOp,Act.eval,H5,go_sem,zaa];exact fr1 rfl
    ·have D30:_=_:=hdep 0 30 rfl;have D31:_=_:=hdep 1 31 rfl;clear hoff hdep;simp[execOp,Act.eval,go_sem,zaa, *];exact fr1 rfl
    ·have D32:_=_:=hdep 2 32 rfl;simp[execOp,Act.eval,D32,go_sem,zaa];exact fr1 rfl
    ·have D33:_=_:=hdep 3 33 rfl;clear hoff hdep;simp[execOp,Act.eval,go_sem,zaa, *];exact fr1 rfl
    ·simp[execOp,Act.eval,H1,go_sem,zaa];exact fr1 rfl
    ·have D35:_=_:=hdep 5 35 rfl;simp[Act.eval,D35,go_sem,zaa];exact(M2 _ hW).mono fun e w'' h=>⟨_,h.1,h.2,rfl⟩
   intro vs W2 hW2 hv hne
   simp only[lz6,List.drop_zero,znK,znR,Nat.zero_add,Nat.reduceAdd]
   simp only[Act.put,lz0,lz1,lz2]
   clear hv
   clear d2 M2
   try clear d0
   try clear d1
   have hF1:=hF0.trans0 hW2
   have d3:=fun W (hW:Fr No W2 W)=>(hF1.trans0 hW).keep0 c3.out
   have M3:=fun W (_:Fr No W2 W)=>zoM (n+1+1+1) W (by omega)
   go_wp2_with fail
   refine zn0 7 47 [mV (.slice (some ⟨g,off,none⟩) L cap),mV (.int .i64 j),mV (.pointer (some ⟨g,off+j * 4,none⟩)),mV (.pointer (some ⟨g,off+j * 4+3,none⟩)),mV (.string (zoL (n+1+1+1))),mV (.int .i64 (n+1+1+1)),mV (.string (zoL (n+1+1+1)))] (by kernel_rfl) (by kernel_rfl) (by simp) ?_ ?_
   ·refine hc4 ?_ ?_ ?_ ?_ <| hopC ?_ <| hopC ?_ <| hopC ?_ <| hopZ
    all_goals (intro a' W hW hoff hdep;have hbs:=hW.size;have H0:=hoff 0 rfl;have H5:=hoff 5 rfl;have H1:=hoff 1 rfl;refine nE rfl ?_)
    ·simp[execOp,Act.eval,H0,go_sem,zaa];exact fr1 rfl
    ·simp[execOp,Act.eval,H5,go_sem,zaa];exact fr1 rfl
    ·have D40:_=_:=hdep 0 40 rfl;have D41:_=_:=hdep 1 41 rfl;clear hoff hdep;simp[execOp,Act.eval,go_sem,zaa, *];exact fr1 rfl
    ·have D42:_=_:=hdep 2 42 rfl;simp[execOp,Act.eval,D42,go_sem,zaa];exact fr1 rfl
    ·have D43:_=_:=hdep 3 43 rfl;clear hoff hdep;simp[execOp,Act.eval,go_sem,zaa, *];exact fr1 rfl
    ·simp[execOp,Act.eval,H1,go_sem,zaa];exact fr1 rfl
    ·have D45:_=_:=hdep 5 45 rfl;simp[Act.eval,D45,go_sem,zaa];exact(M3 _ hW).mono fun e w'' h=>⟨_,h.1,h.2,rfl⟩
   intro vs W3 hW3 hv hne
   simp only[lz6,List.drop_zero,znK,znR,Nat.zero_add,Nat.reduceAdd]
   simp only[Act.put,lz0,lz1,lz2]
   clear hv
   clear d3 M3
   try clear d0
   try clear d1
   have hF2:=hF1.trans0 hW3
   go_wp2
   go_roundw
   case rel=>exact⟨j+1,_,by omega,by go_num,rfl,Lib.hid (by rw[hn.out];omega),hF2⟩
   case measure=>simp[intOf];omega
  ·obtain rfl:j=L:=by omega
   clear h
   go_wp2
   go_ret
   exact .mk (by rw[hn.out];rfl) hF0
theorem zCk (X:Nat->Prop) (v:Value) (L:Nat) (k:Int) (w:World) (h:Sl X w 3 FldC v ((List.range L).map fun i:Nat=>zBZ (k+i * 3))) (h0:0≤k) (hk:k+(L:Int) * 3≤1000000000):
  Calls Tryz.prog 94 #[v,.int .i64 k] w (Gives (.int .i64 (k+(L:Int) * 3)) w):=by
 obtain⟨A,cap,rfl,hcap,hmax⟩:=h.form
 have hlen:(List.length ((List.range L).map fun i:Nat=>zBZ (k+i * 3)))=L:=by simp
 rw[hlen] at h hcap hmax ⊢
 unfold maxLen at hmax
 go_enter Tryz.func94,Tryz.ntmps94
 go_wp2
 go_loopw [5,1] (fun i l wr=>∃(j:Nat) (n:Int),j≤L∧i=.int .i64 j∧l=.int .i64 n∧Hid (n=k+j * 3)∧Fr No w wr) (fun i _ _=>L-(intOf i).toNat)
 case atStart=>exact⟨0,k,Nat.zero_le _,rfl,rfl,Lib.hid (by simp),Fr.refl _ _⟩
 case round=>
  obtain⟨j,n,hj,rfl,rfl,hn,hF0⟩:=hrel
  by_cases hlt:j<L
  ·have hjl:j<List.length ((List.range L).map fun i:Nat=>zBZ (k+i * 3)):=by rw[hlen];exact hlt
   obtain⟨g,off,cs,rfl,_,hC,hcs⟩:=h.cells hjl
   have hel:((List.range L).map fun i:Nat=>zBZ (k+i * 3))[j]=zBZ n:=by rw[hn.out];simp
   have hb:n+3≤1000000000:=by have:=hn.out;omega
   rw[hel] at hC
   have hb0:0≤n:=by have:=hn.out;omega
   obtain⟨rfl,_⟩:=hC
   have c0:w.cell? ⟨g,off+j * 3,none⟩=some (.string (zoL (n))):=hcs 0 _ (by decide) rfl
   have c1:w.cell? ⟨g,off+j * 3+1,none⟩=some (.int .i64 (n+1)):=hcs 1 _ (by decide) rfl
   have c2:w.cell? ⟨g,off+j * 3+2,none⟩=some (.string (zoL (n+1+1))):=hcs 2 _ (by decide) rfl
   replace c0:=Lib.hid c0
   replace c1:=Lib.hid c1
   replace c2:=Lib.hid c2
   clear h hcs hel
   have d0:=fun W (hW:Fr No wr W)=>(hF0.trans0 hW).keep0 c0.out
   have M0:=fun W (_:Fr No wr W)=>zoM (n) W (by omega)
   go_wp2_with fail
   refine zn0 7 19 [mV (.slice (some ⟨g,off,none⟩) L cap),mV (.int .i64 j),mV (.pointer (some ⟨g,off+j * 3,none⟩)),mV (.pointer (some ⟨g,off+j * 3,none⟩)),mV (.string (zoL (n))),mV (.int .i64 (n)),mV (.string (zoL (n)))] (by kernel_rfl) (by kernel_rfl) (by simp) ?_ ?_
   ·refine hc4 ?_ ?_ ?_ ?_ <| hopC ?_ <| hopC ?_ <| hopC ?_ <| hopZ
    all_goals (intro a' W hW hoff hdep;have hbs:=hW.size;have H0:=hoff 0 rfl;have H5:=hoff 5 rfl;have H1:=hoff 1 rfl;refine nE rfl ?_)
    ·simp[execOp,Act.eval,H0,go_sem,zaa];exact fr1 rfl
    ·simp[execOp,Act.eval,H5,go_sem,zaa];exact fr1 rfl
    ·have D12:_=_:=hdep 0 12 rfl;have D13:_=_:=hdep 1 13 rfl;clear hoff hdep;simp[execOp,Act.eval,go_sem,zaa, *];exact fr1 rfl
    ·have D14:_=_:=hdep 2 14 rfl;simp[execOp,Act.eval,D14,go_sem,zaa];exact fr1 rfl
    ·have D15:_=_:=hdep 3 15 rfl;clear hoff hdep;simp[execOp,Act.eval,go_sem,zaa, *];exact fr1 rfl
    ·simp[execOp,Act.eval,H1,go_sem,zaa];exact fr1 rfl
    ·have D17:_=_:=hdep 5 17 rfl;simp[Act.eval,D17,go_sem,zaa];exact(M0 _ hW).mono fun e w'' h=>⟨_,h.1,h.2,rfl⟩
   intro vs W0 hW0 hv hne
   simp only[lz6,List.drop_zero,znK,znR,Nat.zero_add,Nat.reduceAdd]
   simp only[Act.put,lz0,lz1,lz2]
   clear hv
   clear d0 M0
   have hF1:=hF0.trans0 hW0
   have d1:=hF1.keep0 c1.out
   have d2:=fun W (hW:Fr No W0 W)=>(hF1.trans0 hW).keep0 c2.out
   have M2:=fun W (_:Fr No W0 W)=>zoM (n+1+1) W (by omega)
   go_wp2_with fail
   refine zn0 8 40 [mV (.slice (some ⟨g,off,none⟩) L cap),mV (.int .i64 j),mV (.pointer (some ⟨g,off+j * 3,none⟩)),mV (.pointer (some ⟨g,off+j * 3+1,none⟩)),mV (.pointer (some ⟨g,off+j * 3+2,none⟩)),mV (.string (zoL (n+1+1))),mV (.int .i64 (n+1+1)),mV (.string (zoL (n+1+1)))] (by kernel_rfl) (by kernel_rfl) (by simp) ?_ ?_
   ·refine hc4 ?_ ?_ ?_ ?_ <| hc4 ?_ ?_ ?_ ?_ <| hopZ
    all_goals (intro a' W hW hoff hdep;have hbs:=hW.size;have H0:=hoff 0 rfl;have H5:=hoff 5 rfl;have H1:=hoff 1 rfl;refine nE rfl ?_)
    ·simp[execOp,Act.eval,H0,go_sem,zaa];exact fr1 rfl
    ·simp[execOp,Act.eval,H5,go_sem,zaa];exact fr1 rfl
    ·have D32:_=_:=hdep 0 32 rfl;have D33:_=_:=hdep 1 33 rfl;clear hoff hdep;simp[execOp,Act.eval,go_sem,zaa, *];exact fr1 rfl
    ·have D34:_=_:=hdep 2 34 rfl;simp[execOp,Act.eval,D34,go_sem,zaa];exact fr1 rfl
    ·have D35:_=_:=hdep 3 35 rfl;simp[execOp,Act.eval,D35,go_sem,zaa];exact fr1 rfl
    ·have D36:_=_:=hdep 4 36 rfl;clear hoff hdep;simp[execOp,Act.eval,go_sem,zaa, *];exact fr1 rfl
    ·simp[execOp,Act.eval,H1,go_sem,zaa];exact fr1 rfl
    ·have D38:_=_:=hdep 6 38 rfl;simp[Act.eval,D38,go_sem,zaa];exact(M2 _ hW).mono fun e w'' h=>⟨_,h.1,h.2,rfl⟩
   intro vs W2 hW2 hv hne
   simp only[lz6,List.drop_zero,znK,znR,Nat.zero_add,Nat.reduceAdd]
   simp only[Act.put,lz0,lz1,lz2]
   clear hv
   clear d2 M2
   try clear d1
   have hF2:=hF1.trans0 hW2
   go_wp2
   go_roundw
   case rel=>exact⟨j+1,_,by omega,by go_num,rfl,Lib.hid (by rw[hn.out];omega),hF2⟩
   case measure=>simp[intOf];omega
  ·obtain rfl:j=L:=by omega
   clear h
   go_wp2
   go_ret
   exact .mk (by rw[hn.out];rfl) hF0
theorem zCl (X:Nat->Prop) (v:Value) (L:Nat) (k:Int) (w:World) (h:Sl X w 2 AskC v ((List.range L).map fun i:Nat=>zB2 (k+i * 2))) (h0:0≤k) (hk:k+(L:Int) * 2≤1000000000):
  Calls Tryz.prog 60 #[v,.int .i64 k] w (Gives (.int .i64 (k+(L:Int) * 2)) w):=by
 obtain⟨A,cap,rfl,hcap,hmax⟩:=h.form
 have hlen:(List.length ((List.range L).map fun i:Nat=>zB2 (k+i * 2)))=L:=by simp
 rw[hlen] at h hcap hmax ⊢
 unfold maxLen at hmax
 go_enter Tryz.func60,Tryz.ntmps60
 go_wp2
 go_loopw [5,1] (fun i l wr=>∃(j:Nat) (n:Int),j≤L∧i=.int .i64 j∧l=.int .i64 n∧Hid (n=k+j * 2)∧Fr No w wr) (fun i _ _=>L-(intOf i).toNat)
 case atStart=>exact⟨0,k,Nat.zero_le _,rfl,rfl,Lib.hid (by simp),Fr.refl _ _⟩
 case round=>
  obtain⟨j,n,hj,rfl,rfl,hn,hF0⟩:=hrel
  by_cases hlt:j<L
  ·have hjl:j<List.length ((List.range L).map fun i:Nat=>zB2 (k+i * 2)):=by rw[hlen];exact hlt
   obtain⟨g,off,cs,rfl,_,hC,hcs⟩:=h.cells hjl
   have hel:((List.range L).map fun i:Nat=>zB2 (k+i * 2))[j]=zB2 n:=by rw[hn.out];simp
   have hb:n+2≤1000000000:=by have:=hn.out;omega
   rw[hel] at hC
   have hb0:0≤n:=by have:=hn.out;omega
   obtain⟨rfl,_⟩:=hC
   have c0:w.cell? ⟨g,off+j * 2,none⟩=some (.string (zoL (n))):=hcs 0 _ (by decide) rfl
   have c1:w.cell? ⟨g,off+j * 2+1,none⟩=some (.int .i64 (n+1)):=hcs 1 _ (by decide) rfl
   replace c0:=Lib.hid c0
   replace c1:=Lib.hid c1
   clear h hcs hel
   have d0:=fun W (hW:Fr No wr W)=>(hF0.trans0 hW).keep0 c0.out
   have M0:=fun W (_:Fr No wr W)=>zoM (n) W (by omega)
   go_wp2_with fail
   refine zn0 7 19 [mV (.slice (some ⟨g,off,none⟩) L cap),mV (.int .i64 j),mV (.pointer (some ⟨g,off+j * 2,none⟩)),mV (.pointer (some ⟨g,off+j * 2,none⟩)),mV (.string (zoL (n))),mV (.int .i64 (n)),mV (.string (zoL (n)))] (by kernel_rfl) (by kernel_rfl) (by simp) ?_ ?_
   ·refine hc4 ?_ ?_ ?_ ?_ <| hopC ?_ <| hopC ?_ <| hopC ?_ <| hopZ
    all_goals (intro a' W hW hoff hdep;have hbs:=hW.size;have H0:=hoff 0 rfl;have H5:=hoff 5 rfl;have H1:=hoff 1 rfl;refine nE rfl ?_)
    ·simp[execOp,Act.eval,H0,go_sem,zaa];exact fr1 rfl
    ·simp[execOp,Act.eval,H5,go_sem,zaa];exact fr1 rfl
    ·have D12:_=_:=hdep 0 12 rfl;have D13:_=_:=hdep 1 13 rfl;clear hoff hdep;simp[execOp,Act.eval,go_sem,zaa, *];exact fr1 rfl
    ·have D14:_=_:=hdep 2 14 rfl;simp[execOp,Act.eval,D14,go_sem,zaa];exact fr1 rfl
    ·have D15:_=_:=hdep 3 15 rfl;clear hoff hdep;simp[execOp,Act.eval,go_sem,zaa, *];exact fr1 rfl
    ·simp[execOp,Act.eval,H1,go_sem,zaa];exact fr1 rfl
    ·have D17:_=_:=hdep 5 17 rfl;simp[Act.eval,D17,go_sem,zaa];exact(M0 _ hW).mono fun e w'' h=>⟨_,h.1,h.2,rfl⟩
   intro vs W0 hW0 hv hne
   simp only[lz6,List.drop_zero,znK,znR,Nat.zero_add,Nat.reduceAdd]
   simp only[Act.put,lz0,lz1,lz2]
   clear hv
   clear d0 M0
   have hF1:=hF0.trans0 hW0
   have d1:=hF1.keep0 c1.out
   go_wp2
   go_roundw
   case rel=>exact⟨j+1,_,by omega,by go_num,rfl,Lib.hid (by rw[hn.out];omega),hF1⟩
   case measure=>simp[intOf];omega
  ·obtain rfl:j=L:=by omega
   clear h
   go_wp2
   go_ret
   exact .mk (by rw[hn.out];rfl) hF0
theorem zCm (X:Nat->Prop) (v:Value) (xs:List Mp) (k:Int) (w:World) (h:Sl X w 3 (MapC X w) v (zB6 k xs)) (h0:0≤k) (hk:k+((sumL wtMp xs:Nat):Int)≤1000000000):
  Calls Tryz.prog 129 #[v,.int .i64 k] w (Gives (.int .i64 (k+((sumL wtMp xs:Nat):Int))) w):=by
 obtain⟨A,cap,rfl,hcap,hmax⟩:=h.form
 have hlen:(zB6 k xs).length=xs.length:=by simp[zB6]
 rw[<-zou] at hk ⊢
 have hsn:=fun j=>zov (xs.map wtMp) j
 have hsl:=zow (xs.map wtMp)
 have hall:sumN ((xs.map wtMp).take xs.length)=sumN (xs.map wtMp):=by rw[List.take_of_length_le (by simp)]
 generalize hS:sumN (xs.map wtMp)=S at *
 generalize hL:xs.length=L at hlen hall
 rw[hlen] at h hcap hmax ⊢
 unfold maxLen at hmax
 replace hS:=Lib.hid hS
 replace hL:=Lib.hid hL
 go_enter Tryz.func129,Tryz.ntmps129
 go_wp2
 go_loopw [5,1] (fun i l wr=>∃(j:Nat) (n:Int),j≤L∧i=.int .i64 j∧l=.int .i64 n∧Hid (n=k+((sumN ((xs.map wtMp).take j):Nat):Int))∧Fr No w wr) (fun i _ _=>L-(intOf i).toNat)
 case atStart=>exact⟨0,k,Nat.zero_le _,rfl,rfl,Lib.hid (by rw[List.take_zero];simp[sumN]),Fr.refl _ _⟩
 case round=>
  obtain⟨j,n,hj,rfl,rfl,hn,hF0⟩:=hrel
  by_cases hlt:j<L
  ·have hjl:j<List.length (zB6 k xs):=by rw[hlen];exact hlt
   obtain⟨g,off,cs,rfl,_,hC,hcs⟩:=h.cells hjl
   have hxl:j<xs.length:=by rw[hL.out];exact hlt
   obtain⟨x,hx⟩:∃x,x=xs[j]:=⟨_,rfl⟩
   have hel:(zB6 k xs)[j]=mkMp n x:=by rw[hn.out,hx];simp[zB6]
   have hb:n+((wtMp x:Nat):Int)≤1000000000:=by
    have h1:=hsn j (by simpa using hxl)
    have h2:=hsl (j+1)
    have h3:(xs.map wtMp)[j]'(by simpa using hxl)=wtMp x:=by rw[List.getElem_map,hx]
    have h4:=hn.out
    rw[h3] at h1
    omega
   have hwx:Hid (sumN ((xs.map wtMp).take (j+1))=sumN ((xs.map wtMp).take j)+wtMp x):=Lib.hid (by rw[hsn j (by simpa using hxl),List.getElem_map,hx])
   unfold wtMp at hb
   rw[hel] at hC
   have hb0:0≤n:=by have:=hn.out;omega
   obtain⟨vl,vs,rfl,hvl,hvs⟩:=hC
   obtain⟨A_vl,c_vl,rfl,hq_vl,_⟩:=hvl.form
   obtain⟨A_vs,c_vs,rfl,hq_vs,_⟩:=hvs.form
   have c0:w.cell? ⟨g,off+j * 3,none⟩=some (.int .i64 (n)):=hcs 0 _ (by decide) rfl
   have c1:w.cell? ⟨g,off+j * 3+1,none⟩=some (.slice A_vl (mkMp n x).locals.length c_vl):=hcs 1 _ (by decide) rfl
   have c2:w.cell? ⟨g,off+j * 3+2,none⟩=some (.slice A_vs (mkMp n x).stack.length c_vs):=hcs 2 _ (by decide) rfl
   have e1:(mkMp n x).locals.length=x.locals.length:=by unfold mkMp;simp
   rw[e1] at c1
   have H1:=fun W (hW:Fr No w W)=>zCi X (.slice A_vl x.locals.length c_vl) x.locals.length (n+1) W (by have h9:=hvl.k0 hW;rw[e1] at h9;exact h9) (by omega) (by omega)
   clear e1
   have e2:(mkMp n x).stack.length=x.stack.length:=by unfold mkMp;simp
   rw[e2] at c2
   have H2:=fun W (hW:Fr No w W)=>zCi X (.slice A_vs x.stack.length c_vs) x.stack.length (n+1+(x.locals.length:Int) * 2) W (by have h9:=hvs.k0 hW;rw[e2] at h9;exact h9) (by omega) (by omega)
   clear e2
   clear hvl hvs
   replace c0:=Lib.hid c0
   replace c1:=Lib.hid c1
   replace c2:=Lib.hid c2
   clear h hcs hel hsn hsl hx
   replace hall:=Lib.hid hall
   have d0:=hF0.keep0 c0.out
   have d1:=hF0.keep0 c1.out
   go_wp2_with fail
   refine(H1 _ hF0).mono ?_
   rintro e W1 ⟨rfl,hf1⟩
   clear d1 H1
   try clear d0
   have hF1:=hF0.trans0 hf1
   have d2:=hF1.keep0 c2.out
   go_wp2_with fail
   refine(H2 _ hF1).mono ?_
   rintro e W2 ⟨rfl,hf2⟩
   clear d2 H2
   try clear d0
   have hF2:=hF1.trans0 hf2
   go_wp2
   go_roundw
   case rel=>exact⟨j+1,_,by omega,by go_num,rfl,Lib.hid (by rw[hwx.out,hn.out];unfold wtMp;omega),hF2⟩
   case measure=>simp[intOf];omega
  ·obtain rfl:j=L:=by omega
   clear h
   go_wp2
   go_ret
   exact .mk (by rw[hn.out,hall];rfl) hF0
theorem zCn (X:Nat->Prop) (v:Value) (xs:List Mth) (k:Int) (w:World) (h:Sl X w 8 (MthC X w) v (zB9 k xs)) (h0:0≤k) (hk:k+((sumL zoC xs:Nat):Int)≤1000000000):
  Calls Tryz.prog 95 #[v,.int .i64 k] w (Gives (.int .i64 (k+((sumL zoC xs:Nat):Int))) w):=by
 obtain⟨A,cap,rfl,hcap,hmax⟩:=h.form
 have hlen:(zB9 k xs).length=xs.length:=by simp[zB9]
 rw[<-zou] at hk ⊢
 have hsn:=fun j=>zov (xs.map zoC) j
 have hsl:=zow (xs.map zoC)
 have hall:sumN ((xs.map zoC).take xs.length)=sumN (xs.map zoC):=by rw[List.take_of_length_le (by simp)]
 generalize hS:sumN (xs.map zoC)=S at *
 generalize hL:xs.length=L at hlen hall
 rw[hlen] at h hcap hmax ⊢
 unfold maxLen at hmax
 replace hS:=Lib.hid hS
 replace hL:=Lib.hid hL
 go_enter Tryz.func95,Tryz.ntmps95
 go_wp2
 go_loopw [5,1] (fun i l wr=>∃(j:Nat) (n:Int),j≤L∧i=.int .i64 j∧l=.int .i64 n∧Hid (n=k+((sumN ((xs.map zoC).take j):Nat):Int))∧Fr No w wr) (fun i _ _=>L-(intOf i).toNat)
 case atStart=>exact⟨0,k,Nat.zero_le _,rfl,rfl,Lib.hid (by rw[List.take_zero];simp[sumN]),Fr.refl _ _⟩
 case round=>
  obtain⟨j,n,hj,rfl,rfl,hn,hF0⟩:=hrel
  by_cases hlt:j<L
  ·have hjl:j<List.length (zB9 k xs):=by rw[hlen];exact hlt
   obtain⟨g,off,cs,rfl,_,hC,hcs⟩:=h.cells hjl
   have hxl:j<xs.length:=by rw[hL.out];exact hlt
   obtain⟨x,hx⟩:∃x,x=xs[j]:=⟨_,rfl⟩
   have hel:(zB9 k xs)[j]=zB8 n x:=by rw[hn.out,hx];simp[zB9]
   have hb:n+((zoC x:Nat):Int)≤1000000000:=by
    have h1:=hsn j (by simpa using hxl)
    have h2:=hsl (j+1)
    have h3:(xs.map zoC)[j]'(by simpa using hxl)=zoC x:=by rw[List.getElem_map,hx]
    have h4:=hn.out
    rw[h3] at h1
    omega
   have hwx:Hid (sumN ((xs.map zoC).take (j+1))=sumN ((xs.map zoC).take j)+zoC x):=Lib.hid (by rw[hsn j (by simpa using hxl),List.getElem_map,hx])
   unfold zoC at hb
   rw[hel] at hC
   have hb0:0≤n:=by have:=hn.out;omega
   obtain⟨va,vc,vm,rfl,z1,z2,hva,hvc,hvm⟩:=hC
   obtain⟨A_va,c_va,rfl,hq_va,_⟩:=hva.form
   obtain⟨A_vc,c_vc,rfl,hq_vc,_⟩:=hvc.form
   obtain⟨A_vm,c_vm,rfl,hq_vm,_⟩:=hvm.form
   have c0:w.cell? ⟨g,off+j * 8,none⟩=some (.string (zoL (n))):=hcs 0 _ (by decide) rfl
   have c1:w.cell? ⟨g,off+j * 8+1,none⟩=some (.slice A_va (zB8 n x).args.length c_va):=hcs 1 _ (by decide) rfl
   have c2:w.cell? ⟨g,off+j * 8+2,none⟩=some (.int .i64 (n+1+(x.args.length:Int) * 2)):=hcs 2 _ (by decide) rfl
   have c3:w.cell? ⟨g,off+j * 8+3,none⟩=some (.string (zoL (n+1+(x.args.length:Int) * 2+1))):=hcs 3 _ (by decide) rfl
   have c4:w.cell? ⟨g,off+j * 8+4,none⟩=some (.int .i64 (n+1+(x.args.length:Int) * 2+1+1)):=hcs 4 _ (by decide) rfl
   have c5:w.cell? ⟨g,off+j * 8+5,none⟩=some (.int .i64 (n+1+(x.args.length:Int) * 2+1+1+1)):=hcs 5 _ (by decide) rfl
   have c6:w.cell? ⟨g,off+j * 8+6,none⟩=some (.slice A_vc (zB8 n x).code.length c_vc):=hcs 6 _ (by decide) rfl
   have c7:w.cell? ⟨g,off+j * 8+7,none⟩=some (.slice A_vm (zB8 n x).maps.length c_vm):=hcs 7 _ (by decide) rfl
   have e1:(zB8 n x).args.length=x.args.length:=by unfold zB8;simp
   rw[e1] at c1
   have H1:=fun W (hW:Fr No w W)=>zCh X (.slice A_va x.args.length c_va) x.args.length (n+1) W (by have h9:=hva.k0 hW;rw[e1] at h9;exact h9) (by omega) (by omega)
   clear e1
   have e6:(zB8 n x).code.length=x.code.length:=by unfold zB8;simp
   rw[e6] at c6
   have H6:=fun W (hW:Fr No w W)=>zCj X (.slice A_vc x.code.length c_vc) x.code.length (n+1+(x.args.length:Int) * 2+1+1+1+1) W (by have h9:=hvc.k0 hW;rw[e6] at h9;exact h9) (by omega) (by omega)
   clear e6
   have e7:(zB8 n x).maps.length=x.maps.length:=by unfold zB8;simp[zB6]
   rw[e7] at c7
   have H7:=fun W (hW:Fr No w W)=>zCm X (.slice A_vm x.maps.length c_vm) x.maps (n+1+(x.args.length:Int) * 2+1+1+1+1+(x.code.length:Int) * 4) W (by have h9:=hvm.keep (R':=MapC X W) hW zN (fun _ _ _ h=>h.keep hW zN);rw[e7] at h9;exact h9) (by omega) (by omega)
   clear e7
   clear hva hvc hvm
   replace c0:=Lib.hid c0
   replace c1:=Lib.hid c1
   replace c2:=Lib.hid c2
   replace c3:=Lib.hid c3
   replace c4:=Lib.hid c4
   replace c5:=Lib.hid c5
   replace c6:=Lib.hid c6
   replace c7:=Lib.hid c7
   clear h hcs hel hsn hsl hx
   replace hall:=Lib.hid hall
   have d0:=fun W (hW:Fr No wr W)=>(hF0.trans0 hW).keep0 c0.out
   have M0:=fun W (_:Fr No wr W)=>zoM (n) W (by omega)
   go_wp2_with fail
   refine zn0 7 19 [mV (.slice (some ⟨g,off,none⟩) L cap),mV (.int .i64 j),mV (.pointer (some ⟨g,off+j * 8,none⟩)),mV (.pointer (some ⟨g,off+j * 8,none⟩)),mV (.string (zoL (n))),mV (.int .i64 (n)),mV (.string (zoL (n)))] (by kernel_rfl) (by kernel_rfl) (by simp) ?_ ?_
   ·refine hc4 ?_ ?_ ?_ ?_ <| hopC ?_ <| hopC ?_ <| hopC ?_ <| hopZ
    all_goals (intro a' W hW hoff hdep;have hbs:=hW.size;have H0:=hoff 0 rfl;have H5:=hoff 5 rfl;have H1:=hoff 1 rfl;refine nE rfl ?_)
    ·simp[execOp,Act.eval,H0,go_sem,zaa];exact fr1 rfl
    ·simp[execOp,Act.eval,H5,go_sem,zaa];exact fr1 rfl
    ·have D12:_=_:=hdep 0 12 rfl;have D13:_=_:=hdep 1 13 rfl;clear hoff hdep;simp[execOp,Act.eval,go_sem,zaa, *];exact fr1 rfl
    ·have D14:_=_:=hdep 2 14 rfl;simp[execOp,Act.eval,D14,go_sem,zaa];exact fr1 rfl
    ·have D15:_=_:=hdep 3 15 rfl;clear hoff hdep;simp[execOp,Act.eval,go_sem,zaa, *];exact fr1 rfl
    ·simp[execOp,Act.eval,H1,go_sem,zaa];exact fr1 rfl
    ·have D17:_=_:=hdep 5 17 rfl;simp[Act.eval,D17,go_sem,zaa];exact(M0 _ hW).mono fun e w'' h=>⟨_,h.1,h.2,rfl⟩
   intro vs W0 hW0 hv hne
   simp only[lz6,List.drop_zero,znK,znR,Nat.zero_add,Nat.reduceAdd]
   simp only[Act.put,lz0,lz1,lz2]
   clear hv
   clear d0 M0
   have hF1:=hF0.trans0 hW0
   have d1:=hF1.keep0 c1.out
   go_wp2_with fail
   refine(H1 _ hF1).mono ?_
   rintro e W1 ⟨rfl,hf1⟩
   clear d1 H1
   have hF2:=hF1.trans0 hf1
   have d2:=hF2.keep0 c2.out
   have d3:=fun W (hW:Fr No W1 W)=>(hF2.trans0 hW).keep0 c3.out
   have M3:=fun W (_:Fr No W1 W)=>zoM (n+1+(x.args.length:Int) * 2+1) W (by omega)
   go_wp2_with fail
   refine zn0 8 49 [mV (.slice (some ⟨g,off,none⟩) L cap),mV (.int .i64 j),mV (.pointer (some ⟨g,off+j * 8,none⟩)),mV (.pointer (some ⟨g,off+j * 8+2,none⟩)),mV (.pointer (some ⟨g,off+j * 8+3,none⟩)),mV (.string (zoL (n+1+(x.args.length:Int) * 2+1))),mV (.int .i64 (n+1+(x.args.length:Int) * 2+1)),mV (.string (zoL (n+1+(x.args.length:Int) * 2+1)))] (by kernel_rfl) (by kernel_rfl) (by simp) ?_ ?_
   ·refine hc4 ?_ ?_ ?_ ?_ <| hc4 ?_ ?_ ?_ ?_ <| hopZ
    all_goals (intro a' W hW hoff hdep;have hbs:=hW.size;have H0:=hoff 0 rfl;have H5:=hoff 5 rfl;have H1:=hoff 1 rfl;refine nE rfl ?_)
    ·simp[execOp,Act.eval,H0,go_sem,zaa];exact fr1 rfl
    ·simp[execOp,Act.eval,H5,go_sem,zaa];exact fr1 rfl
    ·have D41:_=_:=hdep 0 41 rfl;have D42:_=_:=hdep 1 42 rfl;clear hoff hdep;simp[execOp,Act.eval,go_sem,zaa, *];exact fr1 rfl
    ·have D43:_=_:=hdep 2 43 rfl;simp[execOp,Act.eval,D43,go_sem,zaa];exact fr1 rfl
    ·have D44:_=_:=hdep 3 44 rfl;simp[execOp,Act.eval,D44,go_sem,zaa];exact fr1 rfl
    ·have D45:_=_:=hdep 4 45 rfl;clear hoff hdep;simp[execOp,Act.eval,go_sem,zaa, *];exact fr1 rfl
    ·simp[execOp,Act.eval,H1,go_sem,zaa];exact fr1 rfl
    ·have D47:_=_:=hdep 6 47 rfl;simp[Act.eval,D47,go_sem,zaa];exact(M3 _ hW).mono fun e w'' h=>⟨_,h.1,h.2,rfl⟩
   intro vs W3 hW3 hv hne
   simp only[lz6,List.drop_zero,znK,znR,Nat.zero_add,Nat.reduceAdd]
   simp only[Act.put,lz0,lz1,lz2]
   clear hv
   clear d3 M3
   try clear d2
   have hF3:=hF2.trans0 hW3
   have d4:=hF3.keep0 c4.out
   have d5:=hF3.keep0 c5.out
   have d6:=hF3.keep0 c6.out
   go_wp2_with fail
   refine(H6 _ hF3).mono ?_
   rintro e W6 ⟨rfl,hf6⟩
   clear d6 H6
   try clear d2
   try clear d4
   try clear d5
   have hF4:=hF3.trans0 hf6
   have d7:=hF4.keep0 c7.out
   go_wp2_with fail
   refine(H7 _ hF4).mono ?_
   rintro e W7 ⟨rfl,hf7⟩
   clear d7 H7
   try clear d2
   try clear d4
   try clear d5
   have hF5:=hF4.trans0 hf7
   go_wp2
   go_roundw
   case rel=>exact⟨j+1,_,by omega,by go_num,rfl,Lib.hid (by rw[hwx.out,hn.out];unfold zoC;omega),hF5⟩
   case measure=>simp[intOf];omega
  ·obtain rfl:j=L:=by omega
   clear h
   go_wp2
   go_ret
   exact .mk (by rw[hn.out,hall];rfl) hF0
theorem zCo (X:Nat->Prop) (v:Value) (xs:List Cls) (k:Int) (w:World) (h:Sl X w 4 (ClsC X w) v (zCc k xs)) (h0:0≤k) (hk:k+((sumL zoD xs:Nat):Int)≤1000000000):
  Calls Tryz.prog 59 #[v,.int .i64 k] w (Gives (.int .i64 (k+((sumL zoD xs:Nat):Int))) w):=by
 obtain⟨A,cap,rfl,hcap,hmax⟩:=h.form
 have hlen:(zCc k xs).length=xs.length:=by simp[zCc]
 rw[<-zou] at hk ⊢
 have hsn:=fun j=>zov (xs.map zoD) j
 have hsl:=zow (xs.map zoD)
 have hall:sumN ((xs.map zoD).take xs.length)=sumN (xs.map zoD):=by rw[List.take_of_length_le (by simp)]
 generalize hS:sumN (xs.map zoD)=S at *
 generalize hL:xs.length=L at hlen hall
 rw[hlen] at h hcap hmax ⊢
 unfold maxLen at hmax
 replace hS:=Lib.hid hS
 replace hL:=Lib.hid hL
 go_enter Tryz.func59,Tryz.ntmps59
 go_wp2
 go_loopw [5,1] (fun i l wr=>∃(j:Nat) (n:Int),j≤L∧i=.int .i64 j∧l=.int .i64 n∧Hid (n=k+((sumN ((xs.map zoD).take j):Nat):Int))∧Fr No w wr) (fun i _ _=>L-(intOf i).toNat)
 case atStart=>exact⟨0,k,Nat.zero_le _,rfl,rfl,Lib.hid (by rw[List.take_zero];simp[sumN]),Fr.refl _ _⟩
 case round=>
  obtain⟨j,n,hj,rfl,rfl,hn,hF0⟩:=hrel
  by_cases hlt:j<L
  ·have hjl:j<List.length (zCc k xs):=by rw[hlen];exact hlt
   obtain⟨g,off,cs,rfl,_,hC,hcs⟩:=h.cells hjl
   have hxl:j<xs.length:=by rw[hL.out];exact hlt
   obtain⟨x,hx⟩:∃x,x=xs[j]:=⟨_,rfl⟩
   have hel:(zCc k xs)[j]=zCb n x:=by rw[hn.out,hx];simp[zCc]
   have hb:n+((zoD x:Nat):Int)≤1000000000:=by
    have h1:=hsn j (by simpa using hxl)
    have h2:=hsl (j+1)
    have h3:(xs.map zoD)[j]'(by simpa using hxl)=zoD x:=by rw[List.getElem_map,hx]
    have h4:=hn.out
    rw[h3] at h1
    omega
   have hwx:Hid (sumN ((xs.map zoD).take (j+1))=sumN ((xs.map zoD).take j)+zoD x):=Lib.hid (by rw[hsn j (by simpa using hxl),List.getElem_map,hx])
   unfold zoD at hb
   rw[hel] at hC
   have hb0:0≤n:=by have:=hn.out;omega
   obtain⟨vf,vm,rfl,z1,z2,hvf,hvm⟩:=hC
   obtain⟨A_vf,c_vf,rfl,hq_vf,_⟩:=hvf.form
   obtain⟨A_vm,c_vm,rfl,hq_vm,_⟩:=hvm.form
   have c0:w.cell? ⟨g,off+j * 4,none⟩=some (.string (zoL (n))):=hcs 0 _ (by decide) rfl
   have c1:w.cell? ⟨g,off+j * 4+1,none⟩=some (.string (zoL (n+1))):=hcs 1 _ (by decide) rfl
   have c2:w.cell? ⟨g,off+j * 4+2,none⟩=some (.slice A_vf (zCb n x).fields.length c_vf):=hcs 2 _ (by decide) rfl
   have c3:w.cell? ⟨g,off+j * 4+3,none⟩=some (.slice A_vm (zCb n x).methods.length c_vm):=hcs 3 _ (by decide) rfl
   have e2:(zCb n x).fields.length=x.fields.length:=by unfold zCb;simp
   rw[e2] at c2
   have H2:=fun W (hW:Fr No w W)=>zCk X (.slice A_vf x.fields.length c_vf) x.fields.length (n+1+1) W (by have h9:=hvf.k0 hW;rw[e2] at h9;exact h9) (by omega) (by omega)
   clear e2
   have e3:(zCb n x).methods.length=x.methods.length:=by unfold zCb;simp[zB9]
   rw[e3] at c3
   have H3:=fun W (hW:Fr No w W)=>zCn X (.slice A_vm x.methods.length c_vm) x.methods (n+1+1+(x.fields.length:Int) * 3) W (by have h9:=hvm.keep (R':=MthC X W) hW zN (fun _ _ _ h=>h.keep hW zN);rw[e3] at h9;exact h9) (by omega) (by omega)
   clear e3
   clear hvf hvm
   replace c0:=Lib.hid c0
   replace c1:=Lib.hid c1
   replace c2:=Lib.hid c2
   replace c3:=Lib.hid c3
   clear h hcs hel hsn hsl hx
   replace hall:=Lib.hid hall
   have d0:=fun W (hW:Fr No wr W)=>(hF0.trans0 hW).keep0 c0.out
   have M0:=fun W (_:Fr No wr W)=>zoM (n) W (by omega)
   go_wp2_with fail
   refine zn0 7 19 [mV (.slice (some ⟨g,off,none⟩) L cap),mV (.int .i64 j),mV (.pointer (some ⟨g,off+j * 4,none⟩)),mV (.pointer (some ⟨g,off+j * 4,none⟩)),mV (.string (zoL (n))),mV (.int .i64 (n)),mV (.string (zoL (n)))] (by kernel_rfl) (by kernel_rfl) (by simp) ?_ ?_
   ·refine hc4 ?_ ?_ ?_ ?_ <| hopC ?_ <| hopC ?_ <| hopC ?_ <| hopZ
    all_goals (intro a' W hW hoff hdep;have hbs:=hW.size;have H0:=hoff 0 rfl;have H5:=hoff 5 rfl;have H1:=hoff 1 rfl;refine nE rfl ?_)
    ·simp[execOp,Act.eval,H0,go_sem,zaa];exact fr1 rfl
    ·simp[execOp,Act.eval,H5,go_sem,zaa];exact fr1 rfl
    ·have D12:_=_:=hdep 0 12 rfl;have D13:_=_:=hdep 1 13 rfl;clear hoff hdep;simp[execOp,Act.eval,go_sem,zaa, *];exact fr1 rfl
    ·have D14:_=_:=hdep 2 14 rfl;simp[execOp,Act.eval,D14,go_sem,zaa];exact fr1 rfl
    ·have D15:_=_:=hdep 3 15 rfl;clear hoff hdep;simp[execOp,Act.eval,go_sem,zaa, *];exact fr1 rfl
    ·simp[execOp,Act.eval,H1,go_sem,zaa];exact fr1 rfl
    ·have D17:_=_:=hdep 5 17 rfl;simp[Act.eval,D17,go_sem,zaa];exact(M0 _ hW).mono fun e w'' h=>⟨_,h.1,h.2,rfl⟩
   intro vs W0 hW0 hv hne
   simp only[lz6,List.drop_zero,znK,znR,Nat.zero_add,Nat.reduceAdd]
   simp only[Act.put,lz0,lz1,lz2]
   clear hv
   clear d0 M0
   have hF1:=hF0.trans0 hW0
   have d1:=fun W (hW:Fr No W0 W)=>(hF1.trans0 hW).keep0 c1.out
   have M1:=fun W (_:Fr No W0 W)=>zoM (n+1) W (by omega)
   go_wp2_with fail
   refine zn0 7 29 [mV (.slice (some ⟨g,off,none⟩) L cap),mV (.int .i64 j),mV (.pointer (some ⟨g,off+j * 4,none⟩)),mV (.pointer (some ⟨g,off+j * 4+1,none⟩)),mV (.string (zoL (n+1))),mV (.int .i64 (n+1)),mV (.string (zoL (n+1)))] (by kernel_rfl) (by kernel_rfl) (by simp) ?_ ?_
   ·refine hc4 ?_ ?_ ?_ ?_ <| hopC ?_ <| hopC ?_ <| hopC ?_ <| hopZ
    all_goals (intro a' W hW hoff hdep;have hbs:=hW.size;have H0:=hoff 0 rfl;have H5:=hoff 5 rfl;have H1:=hoff 1 rfl;refine nE rfl ?_)
    ·simp[execOp,Act.eval,H0,go_sem,zaa];exact fr1 rfl
    ·simp[execOp,Act.eval,H5,go_sem,zaa];exact fr1 rfl
    ·have D22:_=_:=hdep 0 22 rfl;have D23:_=_:=hdep 1 23 rfl;clear hoff hdep;simp[execOp,Act.eval,go_sem,zaa, *];exact fr1 rfl
    ·have D24:_=_:=hdep 2 24 rfl;simp[execOp,Act.eval,D24,go_sem,zaa];exact fr1 rfl
    ·have D25:_=_:=hdep 3 25 rfl;clear hoff hdep;simp[execOp,Act.eval,go_sem,zaa, *];exact fr1 rfl
    ·simp[execOp,Act.eval,H1,go_sem,zaa];exact fr1 rfl
    ·have D27:_=_:=hdep 5 27 rfl;simp[Act.eval,D27,go_sem,zaa];exact(M1 _ hW).mono fun e w'' h=>⟨_,h.1,h.2,rfl⟩
   intro vs W1 hW1 hv hne
   simp only[lz6,List.drop_zero,znK,znR,Nat.zero_add,Nat.reduceAdd]
   simp only[Act.put,lz0,lz1,lz2]
   clear hv
   clear d1 M1
   have hF2:=hF1.trans0 hW1
   have d2:=hF2.keep0 c2.out
   go_wp2_with fail
   refine(H2 _ hF2).mono ?_
   rintro e W2 ⟨rfl,hf2⟩
   clear d2 H2
   have hF3:=hF2.trans0 hf2
   have d3:=hF3.keep0 c3.out
   go_wp2_with fail
   refine(H3 _ hF3).mono ?_
   rintro e W3 ⟨rfl,hf3⟩
   clear d3 H3
   have hF4:=hF3.trans0 hf3
   go_wp2
   go_roundw
   case rel=>exact⟨j+1,_,by omega,by go_num,rfl,Lib.hid (by rw[hwx.out,hn.out];unfold zoD;omega),hF4⟩
   case measure=>simp[intOf];omega
  ·obtain rfl:j=L:=by omega
   clear h
   go_wp2
   go_ret
   exact .mk (by rw[hn.out,hall];rfl) hF0
theorem zCp (X:Nat->Prop) (v:Value) (xs:List Kpr) (k:Int) (w:World) (h:Sl X w 2 (KprC X w) v (zCf k xs)) (h0:0≤k) (hk:k+((sumL zoE xs:Nat):Int)≤1000000000):
  Calls Tryz.prog 30 #[v,.int .i64 k] w (Gives (.int .i64 (k+((sumL zoE xs:Nat):Int))) w):=by
 obtain⟨A,cap,rfl,hcap,hmax⟩:=h.form
 have hlen:(zCf k xs).length=xs.length:=by simp[zCf]
 rw[<-zou] at hk ⊢
 have hsn:=fun j=>zov (xs.map zoE) j
 have hsl:=zow (xs.map zoE)
 have hall:sumN ((xs.map zoE).take xs.length)=sumN (xs.map zoE):=by rw[List.take_of_length_le (by simp)]
 generalize hS:sumN (xs.map zoE)=S at *
 generalize hL:xs.length=L at hlen hall
 rw[hlen] at h hcap hmax ⊢
 unfold maxLen at hmax
 replace hS:=Lib.hid hS
 replace hL:=Lib.hid hL
 go_enter Tryz.func30,Tryz.ntmps30
 go_wp2
 go_loopw [5,1] (fun i l wr=>∃(j:Nat) (n:Int),j≤L∧i=.int .i64 j∧l=.int .i64 n∧Hid (n=k+((sumN ((xs.map zoE).take j):Nat):Int))∧Fr No w wr) (fun i _ _=>L-(intOf i).toNat)
 case atStart=>exact⟨0,k,Nat.zero_le _,rfl,rfl,Lib.hid (by rw[List.take_zero];simp[sumN]),Fr.refl _ _⟩
 case round=>
  obtain⟨j,n,hj,rfl,rfl,hn,hF0⟩:=hrel
  by_cases hlt:j<L
  ·have hjl:j<List.length (zCf k xs):=by rw[hlen];exact hlt
   obtain⟨g,off,cs,rfl,_,hC,hcs⟩:=h.cells hjl
   have hxl:j<xs.length:=by rw[hL.out];exact hlt
   obtain⟨x,hx⟩:∃x,x=xs[j]:=⟨_,rfl⟩
   have hel:(zCf k xs)[j]=zCe n x:=by rw[hn.out,hx];simp[zCf]
   have hb:n+((zoE x:Nat):Int)≤1000000000:=by
    have h1:=hsn j (by simpa using hxl)
    have h2:=hsl (j+1)
    have h3:(xs.map zoE)[j]'(by simpa using hxl)=zoE x:=by rw[List.getElem_map,hx]
    have h4:=hn.out
    rw[h3] at h1
    omega
   have hwx:Hid (sumN ((xs.map zoE).take (j+1))=sumN ((xs.map zoE).take j)+zoE x):=Lib.hid (by rw[hsn j (by simpa using hxl),List.getElem_map,hx])
   unfold zoE at hb
   rw[hel] at hC
   have hb0:0≤n:=by have:=hn.out;omega
   obtain⟨vo,va,rfl,hvo,hva⟩:=hC
   obtain⟨A_vo,c_vo,rfl,hq_vo,_⟩:=hvo.form
   obtain⟨A_va,c_va,rfl,hq_va,_⟩:=hva.form
   have c0:w.cell? ⟨g,off+j * 2,none⟩=some (.slice A_vo (zCe n x).owns.length c_vo):=hcs 0 _ (by decide) rfl
   have c1:w.cell? ⟨g,off+j * 2+1,none⟩=some (.slice A_va (zCe n x).asks.length c_va):=hcs 1 _ (by decide) rfl
   have e0:(zCe n x).owns.length=x.owns.length:=by unfold zCe;simp[zCc]
   rw[e0] at c0
   have H0:=fun W (hW:Fr No w W)=>zCo X (.slice A_vo x.owns.length c_vo) x.owns (n) W (by have h9:=hvo.keep (R':=ClsC X W) hW zN (fun _ _ _ h=>h.keep hW zN);rw[e0] at h9;exact h9) (by omega) (by omega)
   clear e0
   have e1:(zCe n x).asks.length=x.asks.length:=by unfold zCe;simp
   rw[e1] at c1
   have H1:=fun W (hW:Fr No w W)=>zCl X (.slice A_va x.asks.length c_va) x.asks.length (n+((sumL zoD x.owns:Nat):Int)) W (by have h9:=hva.k0 hW;rw[e1] at h9;exact h9) (by omega) (by omega)
   clear e1
   clear hvo hva
   replace c0:=Lib.hid c0
   replace c1:=Lib.hid c1
   clear h hcs hel hsn hsl hx
   replace hall:=Lib.hid hall
   have d0:=hF0.keep0 c0.out
   go_wp2_with fail
   refine(H0 _ hF0).mono ?_
   rintro e W0 ⟨rfl,hf0⟩
   clear d0 H0
   have hF1:=hF0.trans0 hf0
   have d1:=hF1.keep0 c1.out
   go_wp2_with fail
   refine(H1 _ hF1).mono ?_
   rintro e W1 ⟨rfl,hf1⟩
   clear d1 H1
   have hF2:=hF1.trans0 hf1
   go_wp2
   go_roundw
   case rel=>exact⟨j+1,_,by omega,by go_num,rfl,Lib.hid (by rw[hwx.out,hn.out];unfold zoE;omega),hF2⟩
   case measure=>simp[intOf];omega
  ·obtain rfl:j=L:=by omega
   clear h
   go_wp2
   go_ret
   exact .mk (by rw[hn.out,hall];rfl) hF0
end Go.Proofs.YtpghfhjhjlmljaaGreat
