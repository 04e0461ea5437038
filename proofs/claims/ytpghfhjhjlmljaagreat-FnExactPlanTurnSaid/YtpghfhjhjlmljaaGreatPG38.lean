/- The laws' mark of keepers, and what it leaves. -/
import Derived.Test.YtpghfhjhjlmljaaGreatPG37
import Derived.WalkSpells
import Derived.WalkLawsBesides
set_option maxHeartbeats 4000000
set_option maxRecDepth 100000
namespace Go.Proofs.YtpghfhjhjlmljaaGreat
open Go.RowKit
theorem zpw (x:Kpr):zoE x≤8 * (1+zb8 x):=by
 have h1:=zgj zb5 x.asks
 have h2:=zox zoI x.owns
 unfold zoE zb8
 omega
section
variable {α:Type} {E:TypeId} {sz n c g:Nat} {C:List Value->α->Prop} {w:World} {Y:Nat->Prop} {v:Value} {xs:List α}
theorem OwnL.leafAt (h:OwnL E sz (zzC C) w Y v xs) {i:Nat} (hi:i<xs.length):∃g c cs,v=.slice (some ⟨g,0,none⟩) xs.length c∧(∀o,w.frozen? ⟨g,o,none⟩=false)∧g<w.heap.size∧C cs xs[i]∧∀j,j<sz->w.cell? ⟨g,i * sz+j,none⟩=cs[j]?:=by
 obtain⟨rows,Ys,h⟩:=h
 obtain⟨g,c,rfl,_,_,hf,hg,_,hc⟩:=h.at_ (by omega)
 have h1:i<rows.length:=by rw[h.len];exact hi
 exact⟨g,c,_,rfl,hf,hg,h.el i h1 hi,fun j hj=>hc i h1 j hj⟩
theorem OwnL.leafPut (h:OwnL E sz (zzC C) w Y (.slice (some ⟨g,0,none⟩) n c) xs) {i j:Nat} (hi:i<xs.length) (hj:j<sz) (u:Value) {x:α} (hx:∀cs,C cs xs[i]->C (cs.set j u) x):
  OwnL E sz (zzC C) (w.setCell ⟨g,i * sz+j,none⟩ u) Y (.slice (some ⟨g,0,none⟩) n c) (xs.set i x):=by
 obtain⟨rows,Ys,h⟩:=h
 have h1:i<rows.length:=by rw[h.len];exact hi
 exact⟨_,_,h.put (zzG C) hi h1 hj u (hx _ (h.el i h1 hi))⟩
end
theorem zBQ (k:Int) (h:k≤1000000000):(zoL k).size≤maxLen:=by
 have hd:∀(n m:Nat) (o:Str),m≤n->(zoK m o).size≤m+o.size:=by
  intro n
  induction n with
  | zero=>
   intro m o hm
   obtain rfl:m=0:=by omega
   rw[zoK,dif_pos rfl];omega
  | succ n ih=>
   intro m o hm
   rw[zoK]
   split
   ·omega
   ·rename_i h0
    have h9:=ih (m / 10) (dig1 m ++ o) (by omega)
    have e:(dig1 m ++ o).size=(dig1 m).size+o.size:=ByteArray.size_append
    have e1:(dig1 m).size=1:=rfl
    omega
 unfold zoL maxLen
 split
 ·decide
 ·have h9:=hd k.toNat k.toNat ⟨#[]⟩ (Nat.le_refl _)
  have e:((⟨#[109]⟩:Str) ++ zoK k.toNat ⟨#[]⟩).size=(⟨#[109]⟩:Str).size+(zoK k.toNat ⟨#[]⟩).size:=ByteArray.size_append
  have e1:(⟨#[109]⟩:Str).size=1:=rfl
  have e2:(⟨#[]⟩:Str).size=0:=rfl
  omega
def zBR (k:Int):Knd:=⟨k,zoL (k+1)⟩
def MkI {α:Type} (mk:Nat->α) (n j:Nat) (ys:List α):Prop:=ys.length=n∧∀i (h:i<ys.length),i<j->ys[i]=mk i
theorem MkI.zero {α:Type} (mk:Nat->α) (ys:List α):MkI mk ys.length 0 ys:=⟨rfl,fun _ _ h=>absurd h (by omega)⟩
theorem MkI.next {α:Type} {mk:Nat->α} {n j:Nat} {ys:List α} {x:α} (h:MkI mk n j ys) (hx:x=mk j):MkI mk n (j+1) (ys.set j x):=by
 refine⟨by rw[List.length_set];exact h.1,fun i hi hlt=>?_⟩
 by_cases he:i=j
 ·subst he;rw[List.getElem_set_self];exact hx
 ·rw[List.getElem_set_ne (fun e=>he e.symm)]
  exact h.2 i (by simpa using hi) (by omega)
theorem MkI.all {α:Type} {mk:Nat->α} {n:Nat} {ys:List α} (h:MkI mk n n ys):ys=(List.range n).map mk:=by
 refine List.ext_getElem (by simp[h.1]) (fun i h1 h2=>?_)
 rw[h.2 i h1 (by have:=h.1;omega)]
 simp
def zBS:TypeId:=123
theorem zBT (v:Value) (xs:List Knd) (Y:Nat->Prop) (k:Int) (w:World) (h:OwnL zBS 2 (zzC KndC) w Y v xs) (h0:0≤k) (hk:k+xs.length * 2≤1000000000):
  Calls Tryz.prog 91 #[v,.int .i64 k] w (fun e w'=>e=.returned (.int .i64 (k+xs.length * 2))∧OwnL zBS 2 (zzC KndC) w' Y v ((List.range xs.length).map fun i:Nat=>zBR (k+i * 2))∧Fr Y w w'):=by
 obtain⟨A,cap,rfl,hcap,hmax⟩:=h.form
 unfold maxLen at hmax
 have hOwn:∀q,zcP (.slice A xs.length cap)=some q->Y q:=h.choose_spec.choose_spec.own
 have hl:=h
 generalize hL:xs.length=L at *
 go_enter Tryz.func91,Tryz.ntmps91
 go_wp2
 go_loopw [5,1] (fun i l wr=>∃(j:Nat) (n:Int) (ys:List Knd),j≤L∧i=.int .i64 j∧l=.int .i64 n∧n=k+j * 2∧Hid (MkI (fun i:Nat=>zBR (k+i * 2)) L j ys∧OwnL zBS 2 (zzC KndC) wr Y (.slice A L cap) ys∧Fr Y w wr)) (fun i _ _=>L-(intOf i).toNat)
 case atStart=>exact⟨0,k,xs,Nat.zero_le _,rfl,rfl,by simp,Lib.hid ⟨hL▸MkI.zero _ xs,hl,Fr.refl _ _⟩⟩
 case round=>
  obtain⟨j,n,ys,hj,rfl,rfl,hn,hT⟩:=hrel
  by_cases hlt:j<L
  ·obtain⟨hM,hO,hF⟩:=hT.out
   have hjl:j<ys.length:=by rw[hM.1];exact hlt
   obtain⟨g,c,cs,he,hfz,hg,hC,hcs⟩:=hO.leafAt hjl
   obtain⟨rfl,hz⟩:=hC
   have c0:=hcs 0 (by omega)
   have c1:=hcs 1 (by omega)
   simp only[lz3,lz4,Nat.add_zero] at c0 c1
   rw[hM.1] at he
   cases he
   clear hl h hL
   have hb:n+2≤1000000000:=by omega
   have hb0:0≤n:=by omega
   have hYg:Y g:=hOwn g (by rw[zcQ,if_neg (by omega)])
   have hO1:=Lib.hid (hO.leafPut (j:=0) hjl (by omega) (.int .i64 n) (x:=⟨n,ys[j].name⟩) (fun cs h=>by obtain⟨rfl,hz⟩:=h;exact⟨rfl,hz⟩))
   rw[Nat.add_zero] at hO1
   replace hM:=Lib.hid hM
   replace hF:=Lib.hid hF
   replace hn:=Lib.hid hn
   clear hcs hT hO
   go_wp2_with fail
   refine zdP (fun W=>OwnL zBS 2 (zzC KndC) W Y (.slice (some ⟨g,0,none⟩) L cap) (ys.set j ⟨n,ys[j].name⟩)∧Fr Y w W) ⟨hO1.out,hF.out.setCellX (p:=⟨g,j * 2,none⟩) hYg _⟩ ?_
   rintro W1 ⟨hP,hF1⟩
   clear hO1 hfz hg c0 c1
   refine(zoM _ _ (by omega)).mono ?_
   rintro e w1 ⟨rfl,hf1⟩
   have hP1:=hP.keep (zzG _) hf1 (fun _ _ _ h=>h)
   have hF2:=Lib.hid (hF1.trans hf1.of0 (fun _ _ h=>h))
   obtain⟨g',c',cs,he,hfz,hg,hC,hcs⟩:=hP1.leafAt (i:=j) (by rw[List.length_set];exact hjl)
   obtain⟨rfl,hz1⟩:=hC
   have c1:=hcs 1 (by omega)
   simp only[lz3,lz4,List.getElem_set_self] at c1
   rw[List.length_set,hM.out.1] at he
   cases he
   have hO2:=Lib.hid (hP1.leafPut (i:=j) (j:=1) (by rw[List.length_set];exact hjl) (by omega) (.string (zoL (n+1))) (x:=zBR n) (fun cs h=>by obtain⟨rfl,hz⟩:=h;rw[List.getElem_set_self];exact⟨rfl,zBQ _ (by omega)⟩))
   rw[List.set_set] at hO2
   clear hcs hP hP1 hF1 hf1 hF
   go_wp2
   go_roundw
   case rel=>exact⟨j+1,_,ys.set j (zBR n),by omega,by go_num,rfl,by have:=hn.out;omega,Lib.hid ⟨hM.out.next (by rw[hn.out]),hO2.out,hF2.out.setCellX (p:=⟨g,j * 2+1,none⟩) hYg _⟩⟩
   case measure=>simp[intOf];omega
  ·obtain rfl:j=L:=by omega
   have hT:=hT
   go_wp2
   go_ret
   obtain⟨hM,hO,hF⟩:=hT.out
   exact⟨by rw[hn];rfl,hM.all▸hO,hF⟩
end Go.Proofs.YtpghfhjhjlmljaaGreat
