/- What the laws' marks lay on frames, and how they are found again. -/
import Derived.Test.YthembcdcdnffeaaGreatEHPrw1
import Derived.Test.YthembcdcdnffeaaGreatEG34
import Derived.Test.YthembcdcdnffeaaGreatEG46
set_option maxHeartbeats 8000000
set_option maxRecDepth 100000
namespace Go.Proofs.YthembcdcdnffeaaGreat
open Go.RowKit
def RT (C:Nat->Value->Prop) (W:World) (v:Value) (n:Nat):Prop:=
 ∃A c g,v=.slice A n c∧n≤c∧n≤maxLen∧(0<n->A=some ⟨g,0,none⟩∧zcP v=some g∧(∀o,W.frozen? ⟨g,o,none⟩=false)∧g<W.heap.size)∧∀i,i<n * 2->∃u,W.cell? ⟨g,i,none⟩=some u∧C i u
def tRaw (i:Nat) (u:Value):Prop:=LkV (zoN 0 i) u
def tMkd (k:Int) (i:Nat) (u:Value):Prop:=u=zoN k i
theorem RT.keep {C:Nat->Value->Prop} {X:Nat->Prop} {W W':World} {v:Value} {n:Nat} (h:RT C W v n) (hf:Fr X W W') (hX:∀q,zcP v=some q->¬X q):RT C W' v n:=by
 obtain⟨A,c,g,rfl,h1,h2,h3,h4⟩:=h
 refine⟨A,c,g,rfl,h1,h2,fun h0=>?_,fun i hi=>?_⟩
 ·obtain⟨e,hb,hfz,hlt⟩:=h3 h0
  exact⟨e,hb,fun o=>by rw[hf.frozenX o hlt (hX g hb)];exact hfz o,Nat.lt_of_lt_of_le hlt hf.size⟩
 ·obtain⟨e,hb,hfz,hlt⟩:=h3 (by omega)
  rw[hf.cellX _ hlt (hX g hb)]
  exact h4 i hi
theorem zoQ:∀(xs:List (Value×Value)) (k:Nat) (hk:k<xs.length) (j:Nat),j<2->(xs.flatMap kvC)[k * 2+j]? =(kvC xs[k])[j]?
 | a :: xs,0,_,j,hj=>by
  rw[List.flatMap_cons,List.getElem?_append_left (by simp[kvC];omega)]
  simp
 | a :: xs,k+1,hk,j,hj=>by
  rw[List.flatMap_cons,List.getElem?_append_right (by simp[kvC];omega)]
  have:=zoQ xs k (by simpa using hk) j hj
  have e:(k+1) * 2+j-(kvC a).length=k * 2+j:=by simp[kvC];omega
  rw[e,this]
  simp
theorem zoR {W:World} {v:Value} {xs:List Tag} (h:zcX W tTag v xs):RT tRaw W v xs.length:=by
 obtain⟨A,c,rfl,h1,h2⟩:=h.1.form
 rcases Nat.eq_zero_or_pos xs.length with h0|h0
 ·exact⟨A,c,0,rfl,h1,by omega,fun h=>by omega,fun i hi=>by omega⟩
 ·obtain⟨g,c',cur,he,_,_,hB,h3,h4,hq⟩:=h.1.at_ h0
  cases he
  refine⟨_,c,g,rfl,h1,by omega,fun _=>⟨rfl,hq,fun o=>hB.frozen o,hB.lt⟩,fun i hi=>?_⟩
  have hk:i / 2<xs.length:=by omega
  have e:=zcV xs (i / 2) hk (i % 2) (by omega)
  rw[show i / 2 * 2+i % 2=i by omega] at e
  rw[h.1.cell rfl hi,e]
  unfold tRaw zoN zcU
  have h2:i % 2<2:=by omega
  generalize i % 2=j at *
  match j,h2 with
  | 0,_=>exact⟨_,rfl,by rw[if_neg (by decide)];exact .inr (.inl ⟨_,_,rfl,rfl⟩)⟩
  | 1,_=>exact⟨_,rfl,by rw[if_pos rfl];exact .inr (.inr ⟨_,_,rfl,rfl⟩)⟩
theorem zoS (v:Value) (n:Nat) (k:Int) (w:World) (h:RT tRaw w v n) (h0:0≤k) (hk:k+n * 2≤1000000000):
  Calls Tryz.prog 37 #[v,.int .i64 k] w (fun e w'=>e=.returned (.int .i64 (k+n * 2))∧RT (tMkd k) w' v n∧Fr (fun b=>zcP v=some b) w w'):=by
 obtain⟨A,c,g,rfl,h1,h2,h3,h4⟩:=h
 unfold maxLen at h2
 rcases Nat.eq_zero_or_pos n with hn|hn
 ·subst hn
  refine(zoO A w.heap.size 0 c k w h1 h2 (fun h=>absurd h (by omega)) (fun i hi=>by omega) h0 hk).mono ?_
  rintro e w' ⟨rfl,hm⟩
  exact⟨rfl,⟨A,c,0,rfl,h1,by unfold maxLen;omega,fun h=>absurd h (by omega),fun i hi=>by omega⟩,hm.tw.fr.mono (fun b hb e=>by omega)⟩
 ·obtain⟨e,hb,hfz,hlt⟩:=h3 hn
  refine(zoO A g n c k w h1 h2 (fun _=>⟨e,hfz,hlt⟩) h4 h0 hk).mono ?_
  rintro e' w' ⟨rfl,hm⟩
  refine⟨rfl,⟨A,c,g,rfl,h1,by unfold maxLen;omega,fun _=>⟨e,hb,fun o=>by rw[hm.tw.froz g o hlt];exact hfz o,Nat.lt_of_lt_of_le hlt hm.tw.fr.size⟩,fun i hi=>⟨_,hm.cells i hi,rfl⟩⟩,hm.tw.fr.mono (fun b _ e=>by rw[e];exact hb)⟩
theorem zoT (v:Value) (n:Nat) (k:Int) (w:World) (h:RT (tMkd k) w v n) (h0:0≤k) (hk:k+n * 2≤1000000000):
  Calls Tryz.prog 38 #[v,.int .i64 k] w (Gives (.int .i64 (k+n * 2)) w):=by
 obtain⟨A,c,g,rfl,h1,h2,h3,h4⟩:=h
 unfold maxLen at h2
 exact zoP A g n c k w h1 h2 (fun h=>(h3 h).1) (fun i hi=>by obtain⟨u,h5,h6⟩:=h4 i hi;rw[h5,h6]) h0 hk
def wF (f:Frm):Nat:=f.locals.length * 2+f.stack.length * 2
def sF (fs:List Frm) (j:Nat):Nat:=sumN ((fs.map wF).take j)
theorem zoU {fs:List Frm} {j:Nat} (h:j<fs.length):sF fs (j+1)=sF fs j+wF fs[j]:=by
 unfold sF
 rw[zov _ _ (by simpa using h)]
 simp
theorem zoV (fs:List Frm) (j:Nat):sF fs j≤sumN (fs.map wF):=zow _ _
theorem zoW (fs:List Frm):sF fs fs.length=sumN (fs.map wF):=by
 unfold sF
 rw[List.take_of_length_le (by simp)]
structure FrL (W:World) (A:Option Addr) (g c:Nat) (kvs:List (Value×Value)) (fs:List Frm):Prop where
 len:kvs.length=fs.length
 le:fs.length≤c
 sm:fs.length≤maxLen
 at_:0<fs.length->A=some ⟨g,0,none⟩∧g<W.heap.size∧g∉kvs.flatMap kvB
 cells:∀j (hj:j<kvs.length),W.cell? ⟨g,j * 2,none⟩=some kvs[j].1∧W.cell? ⟨g,j * 2+1,none⟩=some kvs[j].2
 nd:(kvs.flatMap kvB).Nodup
def RawF (W:World) (v1 v2:Value) (f:Frm):Prop:=RT tRaw W v1 f.locals.length∧RT tRaw W v2 f.stack.length
def MkdF (k:Int) (W:World) (v1 v2:Value) (f:Frm):Prop:=RT (tMkd k) W v1 f.locals.length∧RT (tMkd (k+f.locals.length * 2)) W v2 f.stack.length
theorem FrL.keep {W W':World} {A:Option Addr} {g c:Nat} {kvs:List (Value×Value)} {fs:List Frm} {X:Nat->Prop} (h:FrL W A g c kvs fs) (hf:Fr X W W') (hX:0<fs.length->¬X g):FrL W' A g c kvs fs:=by
 refine⟨h.len,h.le,h.sm,fun h0=>?_,fun j hj=>?_,h.nd⟩
 ·obtain⟨h1,h2,h3⟩:=h.at_ h0
  exact⟨h1,Nat.lt_of_lt_of_le h2 hf.size,h3⟩
 ·have h0:0<fs.length:=by rw[<-h.len];omega
  obtain⟨_,h2,_⟩:=h.at_ h0
  obtain⟨h4,h5⟩:=h.cells j hj
  exact⟨(hf.cellX _ h2 (hX h0)).trans h4,(hf.cellX _ h2 (hX h0)).trans h5⟩
section
variable {A:Option Addr} {g c:Nat} {kvs:List (Value×Value)} {fs:List Frm} {w W W':World} {X:Nat->Prop} {k:Int}
theorem zoX (h:(kvs.flatMap kvB).Nodup) {i j:Nat} (hi:i<kvs.length) (hj:j<kvs.length) (hne:i≠j) {q:Nat} (h1:q∈kvB kvs[i]) (h2:q∈kvB kvs[j]):False:=by
 have hp:=(List.pairwise_flatMap.1 h).2
 rw[List.pairwise_iff_getElem] at hp
 rcases Nat.lt_or_gt_of_ne hne with hl|hl
 ·exact hp i j hi hj hl q h1 q h2 rfl
 ·exact hp j i hj hi hl q h2 q h1 rfl
theorem zoY (h:(kvs.flatMap kvB).Nodup) {j:Nat} (hj:j<kvs.length) {q:Nat} (h1:zcP kvs[j].1=some q) (h2:zcP kvs[j].2=some q):False:=by
 have hp:=(List.pairwise_flatMap.1 h).1 _ (List.getElem_mem hj)
 unfold kvB at hp
 rw[h1,h2] at hp
 simp at hp
theorem zoZ {j:Nat} (hj:j<kvs.length) {q:Nat} (h:q∈kvB kvs[j]):q∈kvs.flatMap kvB:=List.mem_flatMap.2 ⟨_,List.getElem_mem hj,h⟩
theorem RawF.keep {v1 v2:Value} {f:Frm} (h:RawF W v1 v2 f) (hf:Fr X W W') (hX:∀q∈kvB (v1,v2),¬X q):RawF W' v1 v2 f:=⟨h.1.keep hf (fun q e=>hX q (zdx.2 (.inl e))),h.2.keep hf (fun q e=>hX q (zdx.2 (.inr e)))⟩
theorem MkdF.keep {v1 v2:Value} {f:Frm} (h:MkdF k W v1 v2 f) (hf:Fr X W W') (hX:∀q∈kvB (v1,v2),¬X q):MkdF k W' v1 v2 f:=⟨h.1.keep hf (fun q e=>hX q (zdx.2 (.inl e))),h.2.keep hf (fun q e=>hX q (zdx.2 (.inr e)))⟩
structure FmI (k:Int) (kvs:List (Value×Value)) (fs:List Frm) (w:World) (j:Nat) (W:World):Prop where
 fr:Fr (fun b=>b∈kvs.flatMap kvB) w W
 done:∀i (h1:i<kvs.length) (h2:i<fs.length),i<j->MkdF (k+sF fs i) W kvs[i].1 kvs[i].2 fs[i]
 left:∀i (h1:i<kvs.length) (h2:i<fs.length),j≤i->RawF W kvs[i].1 kvs[i].2 fs[i]
theorem FmI.next {j:Nat} {w1 w2:World} (h:FmI k kvs fs w j W) (hnd:(kvs.flatMap kvB).Nodup) (hj:j<kvs.length) (hj2:j<fs.length) (h1:RT (tMkd (k+sF fs j)) w1 kvs[j].1 fs[j].locals.length) (hf1:Fr (fun b=>zcP kvs[j].1=some b) W w1)
  (h2:RT (tMkd (k+sF fs j+fs[j].locals.length * 2)) w2 kvs[j].2 fs[j].stack.length) (hf2:Fr (fun b=>zcP kvs[j].2=some b) w1 w2):FmI k kvs fs w (j+1) w2:=by
 have hf:Fr (fun b=>b∈kvB kvs[j]) W w2:=(hf1.mono (fun b _ e=>zdx.2 (.inl e))).same (hf2.mono (fun b _ e=>zdx.2 (.inr e)))
 refine⟨h.fr.same (hf.mono (fun b _ e=>zoZ hj e)),fun i hi1 hi2 hlt=>?_,fun i hi1 hi2 hle=>?_⟩
 ·by_cases he:i=j
  ·subst he
   exact⟨h1.keep hf2 (fun q e1 e2=>zoY hnd hj e1 e2),h2⟩
  ·exact(h.done i hi1 hi2 (by omega)).keep hf (fun q e1 e2=>zoX hnd hi1 hj he e1 e2)
 ·exact(h.left i hi1 hi2 (by omega)).keep hf (fun q e1 e2=>zoX hnd hi1 hj (by omega) e1 e2)
end
theorem zo0 (A:Option Addr) (g c:Nat) (kvs:List (Value×Value)) (fs:List Frm) (k:Int) (w:World) (h:FrL w A g c kvs fs) (hr:∀i (h1:i<kvs.length) (h2:i<fs.length),RawF w kvs[i].1 kvs[i].2 fs[i]) (h0:0≤k) (hk:k+sumN (fs.map wF)≤1000000000):
  Calls Tryz.prog 19 #[.slice A fs.length c,.int .i64 k] w (fun e w'=>e=.returned (.int .i64 (k+sumN (fs.map wF)))∧FmI k kvs fs w fs.length w'):=by
 have hlen:=h.sm
 have hcap:=h.le
 unfold maxLen at hlen
 have hI0:FmI k kvs fs w 0 w:=⟨Fr.refl _ _,fun i _ _ h=>by omega,fun i h1 h2 _=>hr i h1 h2⟩
 clear hr
 go_enter Tryz.func19,Tryz.ntmps19
 go_wp2
 go_loopw [5,1] (fun i l wr=>∃(j:Nat) (n:Int),j≤fs.length∧i=.int .i64 j∧l=.int .i64 n∧Hid (n=k+sF fs j)∧Hid (FmI k kvs fs w j wr)) (fun i _ _=>fs.length-(intOf i).toNat)
 case atStart=>exact⟨0,k,Nat.zero_le _,rfl,rfl,by simp[Hid,sF,sumN],hI0⟩
 case round=>
  clear hI0
  obtain⟨j,n,hj,rfl,rfl,hn,hI⟩:=hrel
  by_cases hlt:j<fs.length
  ·have hkv:j<kvs.length:=by rw[h.len];exact hlt
   obtain⟨rfl,hg,hgn⟩:=h.at_ (by omega)
   obtain⟨hc0,hc1⟩:=h.cells j hkv
   have hs1:=zoU hlt
   have hs2:=zoV fs (j+1)
   have hnn:=hn.out
   have hnd:=h.nd
   unfold wF at hs1
   have hR:=hI.out.left j hkv hlt (Nat.le_refl _)
   have hN:=fun w1 w2 h1 hf1 h2 hf2=>FmI.next (w1:=w1) (w2:=w2) hI.out hnd hkv hlt h1 hf1 h2 hf2
   have hfr:=hI.out.fr
   rw[<-hnn] at hN
   have hkb:∀q,zcP kvs[j].1=some q->q≠g:=fun q e he=>hgn (he▸zoZ hkv (zdx.2 (.inl e)))
   have hap:∀q,zcP kvs[j].2=some q->¬zcP kvs[j].1=some q:=fun q e1 e2=>zoY hnd hkv e2 e1
   have hr0:=(hfr.cellX (j * 2) hg hgn).trans hc0
   have hr1:=(hfr.cellX (j * 2+1) hg hgn).trans hc1
   have hgr:=Nat.lt_of_lt_of_le hg hfr.size
   obtain⟨hR1,hR2⟩:=hR
   generalize fs[j]=f at *
   generalize kvs[j]=kv at *
   obtain⟨vl,vs⟩:=kv
   dsimp only at *
   replace hN:=Lib.hid hN
   replace hap:=Lib.hid hap
   replace hkb:=Lib.hid hkb
   have hb0:0≤n:=by omega
   have hb1:n+(f.locals.length:Int) * 2+(f.stack.length:Int) * 2≤1000000000:=by omega
   have hnx:Hid (n+(f.locals.length:Int) * 2+(f.stack.length:Int) * 2=k+sF fs (j+1)):=by unfold Hid;omega
   have HM1:=zoS vl _ n wr hR1 (by omega) (by omega)
   clear hI hc0 hc1 hnd h hfr hn hnn hs1 hs2 hR1
   go_wp2_with fail
   refine HM1.mono ?_
   rintro e w1 ⟨rfl,hm1,hf1⟩
   have hr1':=(hf1.cellX (j * 2+1) hgr (fun e=>hkb.out g e rfl)).trans hr1
   have hR2':=hR2.keep hf1 (fun q e=>hap.out q e)
   have HM2:=zoS vs _ (n+(f.locals.length:Int) * 2) w1 hR2' (by omega) (by omega)
   clear hr0 hr1 hR2 HM1
   go_wp2_with fail
   refine HM2.mono ?_
   rintro e w2 ⟨rfl,hm2,hf2⟩
   clear hr1' hR2' HM2
   have hI2:=Lib.hid (hN.out w1 w2 hm1 hf1 hm2 hf2)
   clear hN
   go_wp2
   go_roundw
   case rel=>exact⟨j+1,_,by omega,by go_num,rfl,hnx,hI2⟩
   case measure=>simp[intOf];omega
  ·obtain rfl:j=fs.length:=by omega
   have hn2:=hn.out
   rw[zoW] at hn2
   subst hn2
   go_wp2
   go_ret
   exact⟨rfl,hI.out⟩
theorem zo1 (A:Option Addr) (g c:Nat) (kvs:List (Value×Value)) (fs:List Frm) (k:Int) (w:World) (h:FrL w A g c kvs fs) (hr:∀i (h1:i<kvs.length) (h2:i<fs.length),MkdF (k+sF fs i) w kvs[i].1 kvs[i].2 fs[i]) (h0:0≤k) (hk:k+sumN (fs.map wF)≤1000000000):
  Calls Tryz.prog 20 #[.slice A fs.length c,.int .i64 k] w (Gives (.int .i64 (k+sumN (fs.map wF))) w):=by
 have hlen:=h.sm
 have hcap:=h.le
 unfold maxLen at hlen
 replace hr:=Lib.hid hr
 go_enter Tryz.func20,Tryz.ntmps20
 go_wp2
 go_loopw [5,1] (fun i l wr=>∃(j:Nat) (n:Int),j≤fs.length∧i=.int .i64 j∧l=.int .i64 n∧Hid (n=k+sF fs j)∧Fr No w wr) (fun i _ _=>fs.length-(intOf i).toNat)
 case atStart=>exact⟨0,k,Nat.zero_le _,rfl,rfl,by simp[Hid,sF,sumN],Fr.refl _ _⟩
 case round=>
  obtain⟨j,n,hj,rfl,rfl,hn,hfr⟩:=hrel
  by_cases hlt:j<fs.length
  ·have hkv:j<kvs.length:=by rw[h.len];exact hlt
   obtain⟨rfl,hg,hgn⟩:=h.at_ (by omega)
   obtain⟨hc0,hc1⟩:=h.cells j hkv
   have hs1:=zoU hlt
   have hs2:=zoV fs (j+1)
   have hnn:=hn.out
   unfold wF at hs1
   obtain⟨hR1,hR2⟩:=hr.out j hkv hlt
   rw[<-hnn] at hR1 hR2
   replace hR1:=fun W (hW:Fr No w W)=>hR1.keep hW (fun _ _ h=>h)
   replace hR2:=fun W (hW:Fr No w W)=>hR2.keep hW (fun _ _ h=>h)
   have hr0:=hfr.keep0 hc0
   have K1:=kp hc1
   generalize fs[j]=f at *
   generalize kvs[j]=kv at *
   obtain⟨vl,vs⟩:=kv
   dsimp only at *
   have hb0:0≤n:=by omega
   have hb1:n+(f.locals.length:Int) * 2+(f.stack.length:Int) * 2≤1000000000:=by omega
   have hnx:Hid (n+(f.locals.length:Int) * 2+(f.stack.length:Int) * 2=k+sF fs (j+1)):=by unfold Hid;omega
   have hl1:¬n+(f.locals.length:Int) * 2<0:=by omega
   have hl2:¬n+(f.locals.length:Int) * 2+(f.stack.length:Int) * 2<0:=by omega
   have HM1:=zoT vl _ n wr (hR1 wr hfr) (by omega) (by omega)
   have HM2:=fun W hW=>zoT vs _ (n+(f.locals.length:Int) * 2) W (hR2 W hW) (by omega) (by omega)
   clear hc0 hc1 h hn hnn hs1 hs2 hR1 hR2
   go_wp2_with fail
   refine HM1.mono ?_
   rintro e w1 ⟨rfl,hf1⟩
   have q1:=hfr.trans0 hf1
   have r1:=K1 w1 q1
   clear hr0 HM1
   go_wp2_with fail
   refine(HM2 w1 q1).mono ?_
   rintro e w2 ⟨rfl,hf2⟩
   have q2:=q1.trans0 hf2
   clear r1 HM2 K1
   go_wp2
   go_roundw
   case rel=>exact⟨j+1,_,by omega,by go_num,rfl,hnx,q2⟩
   case measure=>simp[intOf];omega
  ·obtain rfl:j=fs.length:=by omega
   have hn2:=hn.out
   rw[zoW] at hn2
   subst hn2
   go_wp2
   go_ret
   exact .mk rfl hfr
theorem Frms.open_ {W:World} {Y:Nat->Prop} {v:Value} {fs:List Frm} (h:Frms W Y v fs):∃A g c kvs,v=.slice A fs.length c∧FrL W A g c kvs fs∧(∀i (h1:i<kvs.length) (h2:i<fs.length),RawF W kvs[i].1 kvs[i].2 fs[i])∧(∀q∈kvs.flatMap kvB,Y q)∧(0<fs.length->Y g):=by
 obtain⟨kvs,h1,h2,h3,h4,h5,h6⟩:=h
 obtain⟨A,c,rfl,hc,hm⟩:=h1.form
 have hR:∀i (h1:i<kvs.length) (h2:i<fs.length),FrmR W kvs[i] fs[i]:=fun i a b=>h3 (kvs[i],fs[i]) (by
  rw[List.mem_iff_getElem]
  exact⟨i,by simp;omega,by simp⟩)
 have hraw:∀i (h1:i<kvs.length) (h2:i<fs.length),RawF W kvs[i].1 kvs[i].2 fs[i]:=fun i a b=>⟨zoR (hR i a b).1,zoR (hR i a b).2⟩
 rcases Nat.eq_zero_or_pos fs.length with h0|h0
 ·exact⟨A,0,c,kvs,rfl,⟨h2,hc,by omega,fun h=>by omega,fun j hj=>by omega,h4⟩,hraw,h5,fun h=>by omega⟩
 ·obtain⟨g,c',cur,he,_,_,hB,_,_,hq⟩:=h1.at_ h0
  cases he
  refine⟨_,g,c,kvs,rfl,⟨h2,hc,by omega,fun _=>⟨rfl,hB.lt,fun hm=>?_⟩,fun j hj=>?_,h4⟩,hraw,h5,fun _=>h6 g hq⟩
  ·obtain⟨kv,hkv,hq2⟩:=List.mem_flatMap.1 hm
   obtain⟨i,hi,rfl⟩:=List.getElem_of_mem hkv
   have hi2:i<fs.length:=by omega
   rcases zdx.1 hq2 with e|e
   ·exact(hR i hi hi2).1.1.ne hB (by decide) e rfl
   ·exact(hR i hi hi2).2.1.ne hB (by decide) e rfl
  ·have e0:=zoQ kvs j hj 0 (by decide)
   have e1:=zoQ kvs j hj 1 (by decide)
   have g0:=h1.cell (j:=j * 2) rfl (by omega)
   have g1:=h1.cell (j:=j * 2+1) rfl (by omega)
   exact⟨g0.trans e0,g1.trans e1⟩
structure Val where
 kind:Int
 n:Int
structure LMth where
 of_:Ref
 at_:Int
structure Obj where
 of_:Ref
 fields:List Val
structure Cal where
 of_:LMth
 pc:Int
 locals:List Val
 stack:List Val
structure St where
 status:Int
 frames:List Cal
 heap:List Obj
 outs:List Int
 back:Val
def OutC (cs:List Value) (n:Int):Prop:=cs=[.int .i64 n]
def ValC (cs:List Value) (v:Val):Prop:=cs=[.int .i64 v.kind,.int .i64 v.n]
def ObjC (X:Nat->Prop) (w:World) (cs:List Value) (o:Obj):Prop:=
 ∃vf,cs=[.int .i64 o.of_.keeper,.string o.of_.name,vf]∧o.of_.name.size≤maxLen∧Sl X w 2 ValC vf o.fields
def CalC (X:Nat->Prop) (w:World) (cs:List Value) (f:Cal):Prop:=
 ∃vl vs,cs=[.int .i64 f.of_.of_.keeper,.string f.of_.of_.name,.int .i64 f.of_.at_,.int .i64 f.pc,vl,vs]∧f.of_.of_.name.size≤maxLen∧Sl X w 2 ValC vl f.locals∧Sl X w 2 ValC vs f.stack
def StC (X:Nat->Prop) (w:World) (cs:List Value) (s:St):Prop:=
 ∃vf vh vo,cs=[.int .i64 s.status,vf,vh,vo,.int .i64 s.back.kind,.int .i64 s.back.n]∧Sl X w 6 (CalC X w) vf s.frames∧Sl X w 3 (ObjC X w) vh s.heap∧Sl X w 1 OutC vo s.outs
section
variable {X Y:Nat->Prop} {w w':World} {cs:List Value}
theorem ObjC.keep {o:Obj} (h:ObjC X w cs o) (hf:Fr Y w w') (hXY:∀b,Y b->X b):ObjC X w' cs o:=by
 obtain⟨vf,rfl,h1,h2⟩:=h
 exact⟨vf,rfl,h1,h2.keep hf hXY (fun _ _ _ h=>h)⟩
theorem CalC.keep {f:Cal} (h:CalC X w cs f) (hf:Fr Y w w') (hXY:∀b,Y b->X b):CalC X w' cs f:=by
 obtain⟨vl,vs,rfl,h1,h2,h3⟩:=h
 exact⟨vl,vs,rfl,h1,h2.keep hf hXY (fun _ _ _ h=>h),h3.keep hf hXY (fun _ _ _ h=>h)⟩
theorem StC.keep {s:St} (h:StC X w cs s) (hf:Fr Y w w') (hXY:∀b,Y b->X b):StC X w' cs s:=by
 obtain⟨vf,vh,vo,rfl,h1,h2,h3⟩:=h
 exact⟨vf,vh,vo,rfl,h1.keep hf hXY (fun _ _ _ h=>h.keep hf hXY),h2.keep hf hXY (fun _ _ _ h=>h.keep hf hXY),h3.keep hf hXY (fun _ _ _ h=>h)⟩
theorem ObjC.weaken {o:Obj} (h:ObjC X w cs o) (hYX:∀b,Y b->X b):ObjC Y w cs o:=by
 obtain⟨vf,rfl,h1,h2⟩:=h
 exact⟨vf,rfl,h1,h2.weaken hYX (fun _ _ _ h=>h)⟩
theorem CalC.weaken {f:Cal} (h:CalC X w cs f) (hYX:∀b,Y b->X b):CalC Y w cs f:=by
 obtain⟨vl,vs,rfl,h1,h2,h3⟩:=h
 exact⟨vl,vs,rfl,h1,h2.weaken hYX (fun _ _ _ h=>h),h3.weaken hYX (fun _ _ _ h=>h)⟩
theorem StC.weaken {s:St} (h:StC X w cs s) (hYX:∀b,Y b->X b):StC Y w cs s:=by
 obtain⟨vf,vh,vo,rfl,h1,h2,h3⟩:=h
 exact⟨vf,vh,vo,rfl,h1.weaken hYX (fun _ _ _ h=>h.weaken hYX),h2.weaken hYX (fun _ _ _ h=>h.weaken hYX),h3.weaken hYX (fun _ _ _ h=>h)⟩
theorem ObjC.old {o:Obj} (h:ObjC No w cs o):ObjC (fun b=>w.heap.size≤b) w cs o:=by
 obtain⟨vf,rfl,h1,h2⟩:=h
 exact⟨vf,rfl,h1,h2.old (by decide) (fun _ _ _ h=>h)⟩
theorem CalC.old {f:Cal} (h:CalC No w cs f):CalC (fun b=>w.heap.size≤b) w cs f:=by
 obtain⟨vl,vs,rfl,h1,h2,h3⟩:=h
 exact⟨vl,vs,rfl,h1,h2.old (by decide) (fun _ _ _ h=>h),h3.old (by decide) (fun _ _ _ h=>h)⟩
theorem StC.old {s:St} (h:StC No w cs s):StC (fun b=>w.heap.size≤b) w cs s:=by
 obtain⟨vf,vh,vo,rfl,h1,h2,h3⟩:=h
 exact⟨vf,vh,vo,rfl,h1.old (by decide) (fun _ _ _ h=>h.old),h2.old (by decide) (fun _ _ _ h=>h.old),h3.old (by decide) (fun _ _ _ h=>h)⟩
end
section
variable {X:Nat->Prop} {w:World} {A:Option Addr} {n cap:Nat}
theorem Sl.val {xs:List Val} (h:Sl X w 2 ValC (.slice A n cap) xs) {k:Nat} (hk:k<xs.length):
  ∃b off,A=some ⟨b,off,none⟩∧¬X b∧w.cell? ⟨b,off+k * 2,none⟩=some (.int .i64 xs[k].kind)∧w.cell? ⟨b,off+k * 2+1,none⟩=some (.int .i64 xs[k].n):=by
 obtain⟨b,off,cs,hA,hX,rfl,hc⟩:=h.cells hk
 exact⟨b,off,hA,hX,hc 0 _ (by decide) rfl,hc 1 _ (by decide) rfl⟩
theorem Bx.c6 {g:Nat} {t:TypeId} {c0 c1 c2 c3 c4 c5:Value} (h:Bx w g t #[c0,c1,c2,c3,c4,c5]):w.cell? ⟨g,0,none⟩=some c0∧w.cell? ⟨g,1,none⟩=some c1∧w.cell? ⟨g,2,none⟩=some c2∧w.cell? ⟨g,3,none⟩=some c3∧w.cell? ⟨g,4,none⟩=some c4∧w.cell? ⟨g,5,none⟩=some c5:=
 ⟨h.cell 0,h.cell 1,h.cell 2,h.cell 3,h.cell 4,h.cell 5⟩
end
def zo2:Mth:=⟨noS,[],⟨0,noS⟩,0,0,[],[]⟩
def zo3 (p:Plan) (m:LMth):Mth:=(zbG p m.of_).methods.getD m.at_.toNat zo2
def zo4 (p:Plan) (m:LMth):Bool:=canB p m.of_&&decide (0≤m.at_)&&decide (m.at_<(zbG p m.of_).methods.length)
def zo5 (b:Bool) (p:Plan) (l bl n:Nat) (w:World) (e:Ending) (w':World):Prop:=
 e=.returned (.bool b)∧Fr (fun b=>b=bl) w w'∧Lg w' l bl n p
theorem zo5.mk {b c:Bool} {p:Plan} {l bl n:Nat} {w w':World} (h:b=c) (hf:Fr (fun b=>b=bl) w w') (hl:Lg w' l bl n p):zo5 c p l bl n w (.returned (.bool b)) w':=⟨by rw[h],hf,hl⟩
def GotJ (p:Plan) (l bl n:Nat) (a:World) (j:Nat) (W:World):Prop:=Fr (fun b=>b=bl) a W∧Lg W l bl (n+j) p
theorem GotJ.to {p:Plan} {l bl n j:Nat} {a W W':World} (h:GotJ p l bl n a j W) (hf:Fr No W W'):GotJ p l bl n a j W':=⟨h.1.trans0 hf,h.2.keep hf⟩
def lenV (n:Nat):Value->World->Prop:=fun v _=>∃A c,v=.slice A n c
theorem zo6 (n:Nat):MonP (lenV n):=fun _ _ _ h _=>h
def clsV (c:Cls):Value->World->Prop:=fun v _=>∃Af cf Am cm,v=.agg #[.string c.name,.string c.super,.slice Af c.fields.length cf,.slice Am c.methods.length cm]
theorem zo7 (c:Cls):MonP (clsV c):=fun _ _ _ h _=>h
theorem zo8 {p:Plan} {r:Ref} (hp:lodB p=true) (h:canB p r=true):∃k i:Nat,Here p r k i:=by
 obtain⟨_,k,i,hh,_⟩:=zos (p:=p) (r:=r) (by unfold canS;rw[hp,h];rfl)
 exact⟨k,i,hh⟩
theorem zo9 {l bl n:Nat} {p:Plan} {k i:Nat} {s:Str} {w:World} (h:Lg w l bl n p) (hh:Here p ⟨k,s⟩ k i) (hs:s.size≤maxLen):
  Calls Tryz.prog 52 #[.pointer (some ⟨l,0,none⟩),.agg #[.int .i64 k,.string s]] w (fun e w'=>∃v,e=.returned v∧clsV (zbG p ⟨k,s⟩) v w'∧Fr No w w'):=by
 obtain⟨g,hL,_⟩:=h
 obtain⟨Af,cf,Am,cm,_,HC⟩:=zjq hL hh hs
 exact(HC w (Fr.refl _ _)).mono fun e w' h=>⟨_,h.1,⟨Af,cf,Am,cm,rfl⟩,h.2⟩
theorem zpa (l bl n:Nat) (p:Plan) (m:LMth) (w:World) (h:Lg w l bl n p) (hs:m.of_.name.size≤maxLen) (wk:(Lit.int .i64 m.of_.keeper).wf=true) (hn:n<100000):
  Calls Tryz.prog 33 #[.pointer (some ⟨l,0,none⟩),.agg #[.int .i64 m.of_.keeper,.string m.of_.name,.int .i64 m.at_]] w (zo5 (zo4 p m) p l bl (n+1) w):=by
 obtain⟨⟨rk,rn⟩,ra⟩:=m
 dsimp only at hs wk ⊢
 obtain⟨V,hV⟩:∃V,V=zo4 p ⟨⟨rk,rn⟩,ra⟩:=⟨_,rfl⟩
 rw[<-hV]
 unfold zo4 at hV
 dsimp only at hV
 have hp:=h.ok
 have hblr:=h.lt
 obtain⟨wA,hwA⟩:∃wA,wA=w.alloc (.cells #[.int .i64 rk,.string rn,.int .i64 ra] 71):=⟨_,rfl⟩
 have hfA:Fr No w wA:=hwA▸frc
 have B0:Bx wA w.heap.size 71 #[.int .i64 rk,.string rn,.int .i64 ra]:=hwA▸bxc
 have HC:=fun m W (hm:m<100) (h:Lg W l bl (n+m) p)=>zjo l bl (n+m) p ⟨rk,rn⟩ W h hs wk (by omega)
 unfold zjn at HC
 have hG:∀m W,GotJ p l bl n wA m W->Fr (fun b=>b=bl) wA W:=fun _ _ h=>h.1
 have hGs:∀W,Fr (fun b=>b=bl) wA W->wA.heap.size≤W.heap.size:=fun _ h=>h.size
 have KB:∀W,Fr (fun b=>b=bl) wA W->W.cell? ⟨w.heap.size,0,none⟩=some (.int .i64 rk)∧W.cell? ⟨w.heap.size,1,none⟩=some (.string rn)∧W.cell? ⟨w.heap.size,2,none⟩=some (.int .i64 ra)∧w.heap.size<W.heap.size:=fun W hW=>by
  have hb:=B0.keepX hW (by omega)
  exact⟨hb.cell 0,hb.cell 1,hb.cell 2,hb.lt⟩
 cases hc:canB p ⟨rk,rn⟩
 ·rw[hc] at HC hV
  have hE:Hid (V=false):=by rw[hV];rfl
  clear hV hc
  go_enter Tryz.func33,Tryz.ntmps33
  go_wp2_with fail
  rw[<-hwA]
  replace hwA:=Lib.hid hwA
  refine zpN 1 25 [aV (.pointer (some ⟨l,0,none⟩)),aV (.pointer (some ⟨w.heap.size,0,none⟩)),aV (.agg #[.int .i64 rk,.string rn]),aX (.bool false),aV (.bool false),aN,aN,aN,aV (.bool false),aV (.bool false),aN,aN,aN,aN,aN,aN,aN,aN,aN,aV (.bool false),aV (.bool false)] (GotJ p l bl n wA) (fun W W'=>Fr (fun b=>b=bl) W W') (by kernel_rfl) (by kernel_rfl) (by simp) (fun _ _ _ h hf=>h.to hf) (⟨(Fr.refl _ _).drew,(h.keep hfA).keep (Fr.refl _ _).drew⟩) ?_ ?_ ?_
  ·exact fun v W W' hs=>hSA rfl <| hSA rfl <| hSA rfl <| hSA rfl <| hSA rfl <| hSA rfl <| hSA rfl <| hSA rfl <| hSA rfl <| hSA rfl <| hSA rfl <| hSA rfl <| hSA rfl <| hSA rfl <| hSA rfl <| hSA rfl <| hSA rfl <| hSA rfl <| hSA rfl <| hSA rfl <| hSA rfl <| zpL
  ·refine hopA ?_ <| hopA ?_ <| hopA ?_ <| hopA ?_ <| hopA ?_ <| hopA aNo <| hopA aNo <| hopA aNo <| hopA ?_ <| hopA ?_ <| hopA aNo <| hopA aNo <| hopA aNo <| hopA aNo <| hopA aNo <| hopA aNo <| hopA aNo <| hopA aNo <| hopA aNo <| hopA ?_ <| hopA ?_ <| zpL
   all_goals (intro _ a' W jc hjc hW0 hoff hdep;have hW:=hG jc _ hW0;have hbs:=hGs _ hW;have H0:=hoff 0 rfl;have H3:=hoff 3 rfl)
   ·simp[execOp,Act.eval,H0,go_sem,zaa];exact fr1 rfl
   ·simp[execOp,Act.eval,H3,go_sem,zaa];exact fr1 rfl
   ·have D6:_=_:=hdep 1 6 rfl;clear hoff hdep;simp[execOp,Act.eval,go_sem,zaa, *];exact fr1 rfl
   ·have D5:_=_:=hdep 0 5 rfl;have D7:_=_:=hdep 2 7 rfl;replace hjc:jc<1:=hjc;simp[Act.eval,D5,D7,go_sem,zaa];exact(HC jc W (by omega) hW0.2).mono fun e w' ⟨h1,h2,h3⟩=>⟨_,h1,⟨hW0.1.same h2,h3⟩,h2,rfl⟩
   ·have D8:_=_:=hdep 3 8 rfl;simp[execOp,Act.eval,D8,go_sem,zaa];exact fr1 rfl
   ·have D9:_=_:=hdep 4 9 rfl;have D12:_=_:=hdep 7 12 rfl;simp[execOp,Act.eval,D9,D12,go_sem,zaa];exact fr1 rfl
   ·have D13:_=_:=hdep 8 13 rfl;simp[execOp,Act.eval,D13,go_sem,zaa];exact fr1 rfl
   ·have D14:_=_:=hdep 9 14 rfl;have D23:_=_:=hdep 18 23 rfl;simp[execOp,Act.eval,D14,D23,go_sem,zaa];exact fr1 rfl
   ·have D24:_=_:=hdep 19 24 rfl;simp[execOp,Act.eval,D24,go_sem,zaa];exact fr1 rfl
  intro vs WR hWR hv
  simp only[zpG,zpE,zpF,zpJ,Nat.zero_add,Nat.reduceAdd]
  simp only[Act.put,lz0,lz1,lz2]
  clear  hv
  go_wp2
  go_ret
  exact .mk hE.out.symm (hfA.of0.same hWR.1) hWR.2
 ·obtain⟨k0,i0,hh⟩:=zo8 hp hc
  obtain rfl:rk=(k0:Int):=hh.1
  rw[hc] at HC hV
  rw[Bool.true_and] at hV
  replace hc:=Lib.hid hc
  by_cases hlo:0≤ra
  ·have HCl:=fun {m:Nat} W (h:Lg W l bl (n+m) p)=>zo9 h hh hs
   generalize zbG p ⟨k0,rn⟩=c at *
   by_cases hhi:ra<(c.methods.length:Int)
   ·have hE:Hid (V=true):=by rw[hV,decide_eq_true hlo,decide_eq_true hhi];rfl
    replace hlo:=Lib.hid hlo
    replace hhi:=Lib.hid hhi
    clear hV hh
    go_enter Tryz.func33,Tryz.ntmps33
    go_wp2_with fail
    rw[<-hwA]
    replace hwA:=Lib.hid hwA
    refine zpN 1 25 [aV (.pointer (some ⟨l,0,none⟩)),aV (.pointer (some ⟨w.heap.size,0,none⟩)),aV (.agg #[.int .i64 k0,.string rn]),aX (.bool true),aV (.bool true),aV (.pointer (some ⟨w.heap.size,2,none⟩)),aV (.int .i64 ra),aV (.bool true),aV (.bool true),aV (.bool true),aV (.pointer (some ⟨w.heap.size,2,none⟩)),aV (.int .i64 ra),aV (.pointer (some ⟨l,0,none⟩)),aV (.pointer (some ⟨w.heap.size,0,none⟩)),aV (.agg #[.int .i64 k0,.string rn]),aC (clsV c) (zo7 _),aC (lenV c.methods.length) (zo6 _),aV (.int .i64 c.methods.length),aV (.bool true),aV (.bool true),aV (.bool true)] (GotJ p l bl n wA) (fun W W'=>Fr (fun b=>b=bl) W W') (by kernel_rfl) (by kernel_rfl) (by simp) (fun _ _ _ h hf=>h.to hf) (⟨(Fr.refl _ _).drew,(h.keep hfA).keep (Fr.refl _ _).drew⟩) ?_ ?_ ?_
    ·exact fun v W W' hs=>hSA rfl <| hSA rfl <| hSA rfl <| hSA rfl <| hSA rfl <| hSA rfl <| hSA rfl <| hSA rfl <| hSA rfl <| hSA rfl <| hSA rfl <| hSA rfl <| hSA rfl <| hSA rfl <| hSA rfl <| hopA (fun _ h=>by exact h) <| hopA (fun _ h=>by exact h) <| hSA rfl <| hSA rfl <| hSA rfl <| hSA rfl <| zpL
    ·refine hopA ?_ <| hopA ?_ <| hopA ?_ <| hopA ?_ <| hopA ?_ <| hopA ?_ <| hopA ?_ <| hopA ?_ <| hopA ?_ <| hopA ?_ <| hopA ?_ <| hopA ?_ <| hopA ?_ <| hopA ?_ <| hopA ?_ <| hopA ?_ <| hopA ?_ <| hopA ?_ <| hopA ?_ <| hopA ?_ <| hopA ?_ <| zpL
     all_goals (intro _ a' W jc hjc hW0 hoff hdep;have hW:=hG jc _ hW0;have hbs:=hGs _ hW;have H0:=hoff 0 rfl;have H3:=hoff 3 rfl)
     ·simp[execOp,Act.eval,H0,go_sem,zaa];exact fr1 rfl
     ·simp[execOp,Act.eval,H3,go_sem,zaa];exact fr1 rfl
     ·have D6:_=_:=hdep 1 6 rfl;clear hoff hdep;simp[execOp,Act.eval,go_sem,zaa, *];exact fr1 rfl
     ·have D5:_=_:=hdep 0 5 rfl;have D7:_=_:=hdep 2 7 rfl;replace hjc:jc<1:=hjc;simp[Act.eval,D5,D7,go_sem,zaa];exact(HC jc W (by omega) hW0.2).mono fun e w' ⟨h1,h2,h3⟩=>⟨_,h1,⟨hW0.1.same h2,h3⟩,h2,rfl⟩
     ·have D8:_=_:=hdep 3 8 rfl;simp[execOp,Act.eval,D8,go_sem,zaa];exact fr1 rfl
     ·simp[execOp,Act.eval,H3,go_sem,zaa];exact fr1 rfl
     ·have D10:_=_:=hdep 5 10 rfl;clear hoff hdep;simp[execOp,Act.eval,go_sem,zaa, *];exact fr1 rfl
     ·have D11:_=_:=hdep 6 11 rfl;simp[execOp,Act.eval,D11,go_sem,zaa];exact⟨Fr.refl _ _,by unfold isV;have:=hlo.out;first|(simp[this];done)|(simp;omega)⟩
     ·have D9:_=_:=hdep 4 9 rfl;have D12:_=_:=hdep 7 12 rfl;simp[execOp,Act.eval,D9,D12,go_sem,zaa];exact fr1 rfl
     ·have D13:_=_:=hdep 8 13 rfl;simp[execOp,Act.eval,D13,go_sem,zaa];exact fr1 rfl
     ·simp[execOp,Act.eval,H3,go_sem,zaa];exact fr1 rfl
     ·have D15:_=_:=hdep 10 15 rfl;clear hoff hdep;simp[execOp,Act.eval,go_sem,zaa, *];exact fr1 rfl
     ·simp[execOp,Act.eval,H0,go_sem,zaa];exact fr1 rfl
     ·simp[execOp,Act.eval,H3,go_sem,zaa];exact fr1 rfl
     ·have D18:_=_:=hdep 13 18 rfl;clear hoff hdep;simp[execOp,Act.eval,go_sem,zaa, *];exact fr1 rfl
     ·have D17:_=_:=hdep 12 17 rfl;have D19:_=_:=hdep 14 19 rfl;simp[Act.eval,D17,D19,go_sem,zaa];exact(HCl _ hW0.2).mono fun e w' ⟨v,h1,h2,h3⟩=>⟨_,h1,h3,h2⟩
     ·obtain⟨Af,cf,Am,cm,D20⟩:(clsV c) _ W:=hdep 15 20 rfl
      simp[execOp,Act.eval,D20,go_sem,zaa]
      exact⟨Fr.refl _ _,_,_,rfl⟩
     ·obtain⟨Ay,cy,D21⟩:(lenV c.methods.length) _ W:=hdep 16 21 rfl
      simp[Act.eval,D21,go_sem,zaa]
      exact fr1 rfl
     ·have D16:_=_:=hdep 11 16 rfl;have D22:_=_:=hdep 17 22 rfl;simp[execOp,Act.eval,D16,D22,go_sem,zaa];exact⟨Fr.refl _ _,by unfold isV;have:=hhi.out;first|(simp[this];done)|(simp;omega)⟩
     ·have D14:_=_:=hdep 9 14 rfl;have D23:_=_:=hdep 18 23 rfl;simp[execOp,Act.eval,D14,D23,go_sem,zaa];exact fr1 rfl
     ·have D24:_=_:=hdep 19 24 rfl;simp[execOp,Act.eval,D24,go_sem,zaa];exact fr1 rfl
    intro vs WR hWR hv
    obtain⟨AfR15,cfR15,AmR15,cmR15,e15⟩:=hv 15 (by decide)
    obtain⟨AyR16,cyR16,e16⟩:=hv 16 (by decide)
    simp only[zpH,zpE,zpF,zpJ,Nat.zero_add,Nat.reduceAdd,e15,e16]
    simp only[Act.put,lz0,lz1,lz2]
    clear e15 e16 hv
    clear KB HC HCl
    go_wp2
    go_ret
    exact .mk hE.out.symm (hfA.of0.same hWR.1) hWR.2
   ·have hE:Hid (V=false):=by rw[hV,decide_eq_false hhi];simp[Hid]
    replace hlo:=Lib.hid hlo
    replace hhi:=Lib.hid hhi
    clear hV hh
    go_enter Tryz.func33,Tryz.ntmps33
    go_wp2_with fail
    rw[<-hwA]
    replace hwA:=Lib.hid hwA
    refine zpN 1 25 [aV (.pointer (some ⟨l,0,none⟩)),aV (.pointer (some ⟨w.heap.size,0,none⟩)),aV (.agg #[.int .i64 k0,.string rn]),aX (.bool true),aV (.bool true),aV (.pointer (some ⟨w.heap.size,2,none⟩)),aV (.int .i64 ra),aV (.bool true),aV (.bool true),aV (.bool true),aV (.pointer (some ⟨w.heap.size,2,none⟩)),aV (.int .i64 ra),aV (.pointer (some ⟨l,0,none⟩)),aV (.pointer (some ⟨w.heap.size,0,none⟩)),aV (.agg #[.int .i64 k0,.string rn]),aC (clsV c) (zo7 _),aC (lenV c.methods.length) (zo6 _),aV (.int .i64 c.methods.length),aV (.bool false),aV (.bool false),aV (.bool false)] (GotJ p l bl n wA) (fun W W'=>Fr (fun b=>b=bl) W W') (by kernel_rfl) (by kernel_rfl) (by simp) (fun _ _ _ h hf=>h.to hf) (⟨(Fr.refl _ _).drew,(h.keep hfA).keep (Fr.refl _ _).drew⟩) ?_ ?_ ?_
    ·exact fun v W W' hs=>hSA rfl <| hSA rfl <| hSA rfl <| hSA rfl <| hSA rfl <| hSA rfl <| hSA rfl <| hSA rfl <| hSA rfl <| hSA rfl <| hSA rfl <| hSA rfl <| hSA rfl <| hSA rfl <| hSA rfl <| hopA (fun _ h=>by exact h) <| hopA (fun _ h=>by exact h) <| hSA rfl <| hSA rfl <| hSA rfl <| hSA rfl <| zpL
    ·refine hopA ?_ <| hopA ?_ <| hopA ?_ <| hopA ?_ <| hopA ?_ <| hopA ?_ <| hopA ?_ <| hopA ?_ <| hopA ?_ <| hopA ?_ <| hopA ?_ <| hopA ?_ <| hopA ?_ <| hopA ?_ <| hopA ?_ <| hopA ?_ <| hopA ?_ <| hopA ?_ <| hopA ?_ <| hopA ?_ <| hopA ?_ <| zpL
     all_goals (intro _ a' W jc hjc hW0 hoff hdep;have hW:=hG jc _ hW0;have hbs:=hGs _ hW;have H0:=hoff 0 rfl;have H3:=hoff 3 rfl)
     ·simp[execOp,Act.eval,H0,go_sem,zaa];exact fr1 rfl
     ·simp[execOp,Act.eval,H3,go_sem,zaa];exact fr1 rfl
     ·have D6:_=_:=hdep 1 6 rfl;clear hoff hdep;simp[execOp,Act.eval,go_sem,zaa, *];exact fr1 rfl
     ·have D5:_=_:=hdep 0 5 rfl;have D7:_=_:=hdep 2 7 rfl;replace hjc:jc<1:=hjc;simp[Act.eval,D5,D7,go_sem,zaa];exact(HC jc W (by omega) hW0.2).mono fun e w' ⟨h1,h2,h3⟩=>⟨_,h1,⟨hW0.1.same h2,h3⟩,h2,rfl⟩
     ·have D8:_=_:=hdep 3 8 rfl;simp[execOp,Act.eval,D8,go_sem,zaa];exact fr1 rfl
     ·simp[execOp,Act.eval,H3,go_sem,zaa];exact fr1 rfl
     ·have D10:_=_:=hdep 5 10 rfl;clear hoff hdep;simp[execOp,Act.eval,go_sem,zaa, *];exact fr1 rfl
     ·have D11:_=_:=hdep 6 11 rfl;simp[execOp,Act.eval,D11,go_sem,zaa];exact⟨Fr.refl _ _,by unfold isV;have:=hlo.out;first|(simp[this];done)|(simp;omega)⟩
     ·have D9:_=_:=hdep 4 9 rfl;have D12:_=_:=hdep 7 12 rfl;simp[execOp,Act.eval,D9,D12,go_sem,zaa];exact fr1 rfl
     ·have D13:_=_:=hdep 8 13 rfl;simp[execOp,Act.eval,D13,go_sem,zaa];exact fr1 rfl
     ·simp[execOp,Act.eval,H3,go_sem,zaa];exact fr1 rfl
     ·have D15:_=_:=hdep 10 15 rfl;clear hoff hdep;simp[execOp,Act.eval,go_sem,zaa, *];exact fr1 rfl
     ·simp[execOp,Act.eval,H0,go_sem,zaa];exact fr1 rfl
     ·simp[execOp,Act.eval,H3,go_sem,zaa];exact fr1 rfl
     ·have D18:_=_:=hdep 13 18 rfl;clear hoff hdep;simp[execOp,Act.eval,go_sem,zaa, *];exact fr1 rfl
     ·have D17:_=_:=hdep 12 17 rfl;have D19:_=_:=hdep 14 19 rfl;simp[Act.eval,D17,D19,go_sem,zaa];exact(HCl _ hW0.2).mono fun e w' ⟨v,h1,h2,h3⟩=>⟨_,h1,h3,h2⟩
     ·obtain⟨Af,cf,Am,cm,D20⟩:(clsV c) _ W:=hdep 15 20 rfl
      simp[execOp,Act.eval,D20,go_sem,zaa]
      exact⟨Fr.refl _ _,_,_,rfl⟩
     ·obtain⟨Ay,cy,D21⟩:(lenV c.methods.length) _ W:=hdep 16 21 rfl
      simp[Act.eval,D21,go_sem,zaa]
      exact fr1 rfl
     ·have D16:_=_:=hdep 11 16 rfl;have D22:_=_:=hdep 17 22 rfl;simp[execOp,Act.eval,D16,D22,go_sem,zaa];exact⟨Fr.refl _ _,by unfold isV;have:=hhi.out;first|(simp[this];done)|(simp;omega)⟩
     ·have D14:_=_:=hdep 9 14 rfl;have D23:_=_:=hdep 18 23 rfl;simp[execOp,Act.eval,D14,D23,go_sem,zaa];exact fr1 rfl
     ·have D24:_=_:=hdep 19 24 rfl;simp[execOp,Act.eval,D24,go_sem,zaa];exact fr1 rfl
    intro vs WR hWR hv
    obtain⟨AfR15,cfR15,AmR15,cmR15,e15⟩:=hv 15 (by decide)
    obtain⟨AyR16,cyR16,e16⟩:=hv 16 (by decide)
    simp only[zpH,zpE,zpF,zpJ,Nat.zero_add,Nat.reduceAdd,e15,e16]
    simp only[Act.put,lz0,lz1,lz2]
    clear e15 e16 hv
    clear KB HC HCl
    go_wp2
    go_ret
    exact .mk hE.out.symm (hfA.of0.same hWR.1) hWR.2
  ·have hE:Hid (V=false):=by rw[hV,decide_eq_false hlo];rfl
   replace hlo:=Lib.hid hlo
   clear hV hh
   go_enter Tryz.func33,Tryz.ntmps33
   go_wp2_with fail
   rw[<-hwA]
   replace hwA:=Lib.hid hwA
   refine zpN 1 25 [aV (.pointer (some ⟨l,0,none⟩)),aV (.pointer (some ⟨w.heap.size,0,none⟩)),aV (.agg #[.int .i64 k0,.string rn]),aX (.bool true),aV (.bool true),aV (.pointer (some ⟨w.heap.size,2,none⟩)),aV (.int .i64 ra),aV (.bool false),aV (.bool false),aV (.bool false),aN,aN,aN,aN,aN,aN,aN,aN,aN,aV (.bool false),aV (.bool false)] (GotJ p l bl n wA) (fun W W'=>Fr (fun b=>b=bl) W W') (by kernel_rfl) (by kernel_rfl) (by simp) (fun _ _ _ h hf=>h.to hf) (⟨(Fr.refl _ _).drew,(h.keep hfA).keep (Fr.refl _ _).drew⟩) ?_ ?_ ?_
   ·exact fun v W W' hs=>hSA rfl <| hSA rfl <| hSA rfl <| hSA rfl <| hSA rfl <| hSA rfl <| hSA rfl <| hSA rfl <| hSA rfl <| hSA rfl <| hSA rfl <| hSA rfl <| hSA rfl <| hSA rfl <| hSA rfl <| hSA rfl <| hSA rfl <| hSA rfl <| hSA rfl <| hSA rfl <| hSA rfl <| zpL
   ·refine hopA ?_ <| hopA ?_ <| hopA ?_ <| hopA ?_ <| hopA ?_ <| hopA ?_ <| hopA ?_ <| hopA ?_ <| hopA ?_ <| hopA ?_ <| hopA aNo <| hopA aNo <| hopA aNo <| hopA aNo <| hopA aNo <| hopA aNo <| hopA aNo <| hopA aNo <| hopA aNo <| hopA ?_ <| hopA ?_ <| zpL
    all_goals (intro _ a' W jc hjc hW0 hoff hdep;have hW:=hG jc _ hW0;have hbs:=hGs _ hW;have H0:=hoff 0 rfl;have H3:=hoff 3 rfl)
    ·simp[execOp,Act.eval,H0,go_sem,zaa];exact fr1 rfl
    ·simp[execOp,Act.eval,H3,go_sem,zaa];exact fr1 rfl
    ·have D6:_=_:=hdep 1 6 rfl;clear hoff hdep;simp[execOp,Act.eval,go_sem,zaa, *];exact fr1 rfl
    ·have D5:_=_:=hdep 0 5 rfl;have D7:_=_:=hdep 2 7 rfl;replace hjc:jc<1:=hjc;simp[Act.eval,D5,D7,go_sem,zaa];exact(HC jc W (by omega) hW0.2).mono fun e w' ⟨h1,h2,h3⟩=>⟨_,h1,⟨hW0.1.same h2,h3⟩,h2,rfl⟩
    ·have D8:_=_:=hdep 3 8 rfl;simp[execOp,Act.eval,D8,go_sem,zaa];exact fr1 rfl
    ·simp[execOp,Act.eval,H3,go_sem,zaa];exact fr1 rfl
    ·have D10:_=_:=hdep 5 10 rfl;clear hoff hdep;simp[execOp,Act.eval,go_sem,zaa, *];exact fr1 rfl
    ·have D11:_=_:=hdep 6 11 rfl;simp[execOp,Act.eval,D11,go_sem,zaa];exact⟨Fr.refl _ _,by unfold isV;have:=hlo.out;first|(simp[this];done)|(simp;omega)⟩
    ·have D9:_=_:=hdep 4 9 rfl;have D12:_=_:=hdep 7 12 rfl;simp[execOp,Act.eval,D9,D12,go_sem,zaa];exact fr1 rfl
    ·have D13:_=_:=hdep 8 13 rfl;simp[execOp,Act.eval,D13,go_sem,zaa];exact fr1 rfl
    ·have D14:_=_:=hdep 9 14 rfl;have D23:_=_:=hdep 18 23 rfl;simp[execOp,Act.eval,D14,D23,go_sem,zaa];exact fr1 rfl
    ·have D24:_=_:=hdep 19 24 rfl;simp[execOp,Act.eval,D24,go_sem,zaa];exact fr1 rfl
   intro vs WR hWR hv
   simp only[zpG,zpE,zpF,zpJ,Nat.zero_add,Nat.reduceAdd]
   simp only[Act.put,lz0,lz1,lz2]
   clear  hv
   clear KB HC
   go_wp2
   go_ret
   exact .mk hE.out.symm (hfA.of0.same hWR.1) hWR.2
section
variable {w:World}
end
theorem zpb {p:Plan} {m:LMth} (hp:lodB p=true) (h:zo4 p m=true):∃k i a:Nat,m.of_.keeper=k∧m.at_=a∧Here p m.of_ k i∧∃ha:a<(zbG p m.of_).methods.length,zo3 p m=(zbG p m.of_).methods[a]:=by
 unfold zo4 at h
 simp only[lz5,decide_eq_true_eq] at h
 obtain⟨⟨h1,h2⟩,h3⟩:=h
 obtain⟨k,i,hh⟩:=zo8 hp h1
 have ha:m.at_.toNat<(zbG p m.of_).methods.length:=by omega
 refine⟨k,i,m.at_.toNat,hh.1,by omega,hh,ha,?_⟩
 unfold zo3
 simp[List.getD,lz8 ha]
def lkmF (p:Plan) (r:Ref) (i:Int):List Frm×Int:=if lodB p&&zo4 p ⟨r,i⟩ then zcN p r.keeper r.name (zo3 p ⟨r,i⟩) else ([], -1)
def lkV (base:Nat) (L:List Frm×Int):Value->World->Prop:=fun v W=>∃u,v=.tuple #[u,.int .i64 L.2]∧Frms W (fun q=>base≤q) u L.1
theorem zpc (base:Nat) (L:List Frm×Int):MonP (lkV base L):=fun _ _ _ ⟨u,h1,h2⟩ hf=>⟨u,h1,h2.keep hf (fun _ _ _ h=>h) (fun _ h _=>h)⟩
def fsV (base:Nat) (fs:List Frm):Value->World->Prop:=fun v W=>∃u,v=u∧Frms W (fun q=>base≤q) u fs
theorem zpd (base:Nat) (fs:List Frm):MonP (fsV base fs):=fun _ _ _ ⟨u,h1,h2⟩ hf=>⟨u,h1,h2.keep hf (fun _ _ _ h=>h) (fun _ h _=>h)⟩
theorem Frms.none_ (W:World) (Y:Nat->Prop) (A:Option Addr):Frms W Y (.slice A 0 0) []:=by
 refine⟨[],?_,rfl,by simp,by simp,by simp,fun q hq=>?_⟩
 ·cases A with
  | none=>exact RowV.nil _ _ _
  | some a=>exact .inr ⟨rfl,rfl,a,rfl⟩
 ·cases A<;>cases hq
theorem zpe (X:Nat->Prop) (p:Plan) (v:Value) (r:Ref) (ix:Int) (w:World) (h:Sl X w 2 (KprC X w) v p.keepers) (hXn:∀b,w.heap.size≤b->X b) (hr:r.name.size≤maxLen):
  Calls Tryz.prog 15 #[.agg #[v],.agg #[.int .i64 r.keeper,.string r.name],.int .i64 ix] w (zdE (lkmF p r ix) w):=by
 have hkw:=fun W (hW:Fr No w W)=>h.keep (R':=KprC X W) hW zN (fun _ _ _ h=>h.keep hW zN)
 have HL:=fun W (hW:Fr No w W)=>zdc X p v r W (hkw W hW) hr
 have HK:=fun(hp:lodB p=true) (k:Nat) (m:Mth) (ms:List Value) W (hW:Fr No w W) (hk0:k<p.keepers.length) (hm:MthC X W ms m) (hok:mthB m=true)=>zdu X X p v k r.name m ms W hp (hkw W hW) (fun b hb=>hXn b (Nat.le_trans hW.size hb)) hk0 hm (fun b hb=>hXn b (Nat.le_trans hW.size hb)) hr hok
 have HC:=fun(k i:Nat) (s:Str) W (hW:Fr No w W) (hh:Here p ⟨k,s⟩ k i) (hs:s.size≤maxLen)=>zaU X p v k s i W (hkw W hW) hh hs
 have hcs:canS p r=(lodB p&&canB p r):=rfl
 obtain⟨A,cap,rfl,_,_⟩:=h.form
 clear h hkw
 obtain⟨wA,hwA⟩:∃wA,wA=((w.alloc (.cells #[.slice A p.keepers.length cap] 32)).alloc (.cells #[.int .i64 r.keeper,.string r.name] 34)):=⟨_,rfl⟩
 have hfA:Fr No w wA:=hwA▸frc
 have B0:=(hwA▸bxc:Bx wA w.heap.size 32 #[.slice A p.keepers.length cap])
 have B1:=(hwA▸bxc:Bx wA (w.heap.size+1) 34 #[.int .i64 r.keeper,.string r.name])
 have HLA:=HL wA hfA
 obtain⟨R,hR⟩:∃R,R=lkmF p r ix:=⟨_,rfl⟩
 rw[<-hR]
 go_enter Tryz.func15,Tryz.ntmps15
 cases hcan:canS p r with
 | false=>
  obtain rfl:R=([], -1):=by
   rw[hR,lkmF]
   unfold zo4
   rw[<-Bool.and_assoc,<-Bool.and_assoc,<-hcs,hcan]
   rfl
  rw[hcan] at HLA
  clear HL HK HC hcs hR
  go_wp2_with (go_at_call 22;rw[<-hwA];refine HLA.mono ?_;rintro e w1 ⟨rfl,hf1⟩;replace hwA:=Lib.hid hwA)
  refine bodyPost_ret (v:=.tuple #[.slice (some ⟨w1.heap.size,0,none⟩) 0 0,.int .i64 (-1)]) (by simp[results,Tryz.results15,go_sem]) rfl ?_
  exact⟨(hfA.trans0 hf1).trans0 frc,_,rfl,Frms.none_ _ _ _⟩
 | true=>
  rw[hcan] at HLA
  rw[hcan] at hcs
  have hp:lodB p=true:=(Bool.and_eq_true_iff.1 hcs.symm).1
  have hcb:canB p r=true:=by rw[hp] at hcs;simpa using hcs.symm
  obtain⟨k,jx,hh⟩:=zlh hp hcb
  obtain⟨rk,rn⟩:=r
  obtain rfl:rk=(k:Int):=hh.1
  have hk0:k<p.keepers.length:=hh.2.1
  have hcls:=Here.clsB hp hh
  have hmok:=zg1 hcls
  have hm4:=zlg hcls
  have hmt:∀(a:Nat) (ha:a<(zbG p ⟨k,rn⟩).methods.length),zo3 p ⟨⟨k,rn⟩,a⟩=(zbG p ⟨k,rn⟩).methods[a]:=fun a ha=>by
   unfold zo3
   simp[List.getD,lz8 ha]
  have hV:R=if 0≤ix∧ix<((zbG p ⟨k,rn⟩).methods.length:Int) then zcN p k rn (zo3 p ⟨⟨k,rn⟩,ix⟩) else ([], -1):=by
   rw[hR,lkmF]
   unfold zo4
   rw[hp,hcb]
   by_cases h1:0≤ix<;>by_cases h2:ix<((zbG p ⟨k,rn⟩).methods.length:Int)<;>simp[h1,h2]
  dsimp only at *
  have HK2:=fun m ms W (hW:Fr No w W) (hm:MthC X W ms m) (hok:mthB m=true)=>HK hp k m ms W hW hk0 hm hok
  obtain⟨Af,cf,Am,cm,hRc,HCw⟩:=HC k jx rn wA hfA hh hr
  clear HL HK HC hcs hcan hcb hcls hR
  generalize zbG p ⟨k,rn⟩=c at *
  obtain⟨vf,vm,he,_,_,_,hm⟩:=hRc
  simp only[List.cons.injEq,true_and,and_true] at he
  obtain⟨rfl,rfl⟩:=he
  have HI:=fun W=>zlz ix 0 ((c.methods.length:Int)-1) W
  have hsub:IntKind.i64.wrap ((c.methods.length:Int)-1)=(c.methods.length:Int)-1:=IntWalk.i64_in _ (by omega)
  have hfd:=zlc
  by_cases hix:0≤ix∧ix<(c.methods.length:Int)
  ·rw[if_pos hix] at hV
   rw[show(decide ((0:Int)≤ix)&&decide (ix≤(c.methods.length:Int)-1))=true by simp;omega] at HI
   obtain⟨a,rfl⟩:∃a:Nat,ix=a:=⟨ix.toNat,by omega⟩
   have hlt:a<c.methods.length:=by omega
   rw[hmt a hlt] at hV
   have hHK:=fun ms W (hW:Fr No w W) (hm:MthC X W ms c.methods[a])=>HK2 c.methods[a] ms W hW hm (hmok _ (List.getElem_mem hlt))
   unfold zdE at hHK
   rw[<-hV] at hHK
   clear HK2 hmok hmt hV
   go_wp2_with (first
    | (go_at_call 22;rw[<-hwA];refine HLA.mono ?_;rintro e w1 ⟨rfl,hf1⟩;replace hwA:=Lib.hid hwA;have C0:=B0.keep hf1;have C1:=B1.keep hf1;have z0:=C0.c1;have zl:=C0.lt;obtain⟨t0,t1⟩:=C1.c2;have tl:=C1.lt)
    | (go_at_call 23;refine(HCw w1 hf1).mono ?_;rintro e w2 ⟨rfl,hf2⟩)
    | (go_at_call 32;refine(HI _).mono ?_;rintro e w3 ⟨rfl,rfl⟩))
   have q2:=hf1.trans0 hf2
   have KA:=(C0.keep hf2).r1
   have KR:=(C1.keep hf2).r2
   have hm2:=hm.keep (R':=MthC X w2) q2 zN (fun _ _ _ h=>h.keep q2 zN)
   obtain⟨bm,om,Aa,ca,Ac,cc,Ax,cx,rfl,_,d0,d1,d2,d3,d4,d5,d6,d7,hr1,hr2,hr3,hr4,hr5,_⟩:=hm2.mth hlt
   have hHK2:=fun W (hW:Fr No w2 W)=>hHK [.string c.methods[a].name,.slice Aa c.methods[a].args.length ca,.int .i64 c.methods[a].ret.kind,.string c.methods[a].ret.name,.int .i64 c.methods[a].locals,.int .i64 c.methods[a].stack,.slice Ac c.methods[a].code.length cc,.slice Ax c.methods[a].maps.length cx] W ((hfA.trans0 q2).trans0 hW) (MthC.keep (X:=X) (w:=w2) ⟨_,_,_,rfl,hr1,hr2,hr3,hr4,hr5⟩ hW zN)
   generalize c.methods[a]=m at *
   obtain⟨L1,L2⟩:=R
   dsimp only at hHK2
   have KX0:=cr d0
   have KX1:=cr d1
   have KX2:=cr d2
   have KX3:=cr d3
   have KX4:=cr d4
   have KX5:=cr d5
   have KX6:=cr d6
   have KX7:=cr d7
   have HCx:=fun W (hW:Fr No w2 W)=>HCw W (q2.trans0 hW)
   replace hHK2:=Lib.hid hHK2
   replace HCx:=Lib.hid HCx
   clear hm2 hm hr1 hr2 hr3 hr4 hr5 d0 d1 d2 d3 d4 d5 d6 d7 hHK C0 C1 z0 zl t0 t1 tl HCw HI HLA B0 B1
   go_wp2_with fail
   refine zn0 15 39 [mV (.agg #[.slice A p.keepers.length cap]),mV (.pointer (some ⟨w.heap.size+1,0,none⟩)),mV (.int .i64 k),mV (.pointer (some ⟨w.heap.size+1,1,none⟩)),mV (.string rn),mV (.agg #[.slice A p.keepers.length cap]),mV (.agg #[.int .i64 k,.string rn]),mV (.agg #[.string c.name,.string c.super,.slice Af c.fields.length cf,.slice (some ⟨bm,om,none⟩) c.methods.length cm]),mV (.slice (some ⟨bm,om,none⟩) c.methods.length cm),mV (.int .i64 a),mV (.pointer (some ⟨bm,om+a * 8,none⟩)),mV (.agg #[.string m.name,.slice Aa m.args.length ca,.int .i64 m.ret.kind,.string m.ret.name,.int .i64 m.locals,.int .i64 m.stack,.slice Ac m.code.length cc,.slice Ax m.maps.length cx]),mC (lkV w2.heap.size (L1,L2)) (zpc _ _),mC (fsV w2.heap.size L1) (zpd _ _),mV (.int .i64 L2)] (by kernel_rfl) (by kernel_rfl) (by simp) ?_ ?_
   ·refine hc4 ?_ ?_ ?_ ?_ <| hc4 ?_ ?_ ?_ ?_ <| hc4 ?_ ?_ ?_ ?_ <| hopC ?_ <| hopC ?_ <| hopC ?_ <| hopZ
    all_goals (intro a' W hW hoff hdep;have hbs:=hW.size;have H3:=hoff 3 rfl;have H4:=hoff 4 rfl;have H2:=hoff 2 rfl;refine nE rfl ?_)
    ·exact gx0
    ·simp[execOp,Act.eval,H4,go_sem,zaa];exact fr1 rfl
    ·have D25:_=_:=hdep 1 25 rfl;clear hoff hdep;simp[execOp,Act.eval,go_sem,zaa, *];exact fr1 rfl
    ·simp[execOp,Act.eval,H4,go_sem,zaa];exact fr1 rfl
    ·have D27:_=_:=hdep 3 27 rfl;clear hoff hdep;simp[execOp,Act.eval,go_sem,zaa, *];exact fr1 rfl
    ·exact gx0
    ·exact gx0
    ·have D29:_=_:=hdep 5 29 rfl;have D30:_=_:=hdep 6 30 rfl;simp[Act.eval,D29,D30,go_sem,zaa];exact(HCx.out _ hW).mono fun e w'' h=>⟨_,h.1,h.2,rfl⟩
    ·have D31:_=_:=hdep 7 31 rfl;simp[execOp,Act.eval,D31,go_sem,zaa];exact fr1 rfl
    ·simp[execOp,Act.eval,H2,go_sem,zaa];exact fr1 rfl
    ·have D32:_=_:=hdep 8 32 rfl;have D33:_=_:=hdep 9 33 rfl;clear hoff hdep;simp[execOp,Act.eval,go_sem,zaa, *];exact fr1 rfl
    ·have D34:_=_:=hdep 10 34 rfl;clear hoff hdep;simp[execOp,Act.eval,go_sem,zaa, *];exact fr1 rfl
    ·have D24:_=_:=hdep 0 24 rfl;have D26:_=_:=hdep 2 26 rfl;have D28:_=_:=hdep 4 28 rfl;have D35:_=_:=hdep 11 35 rfl;simp[Act.eval,D24,D26,D28,D35,go_sem,zaa];exact(hHK2.out _ hW).mono fun e w'' h=>(let ⟨h1,u,h2,h3⟩:=h;⟨_,h2,h1,u,rfl,h3.keep (Fr.refl No _) (fun _ _ _ h=>h) (fun b h _=>Nat.le_trans hbs h)⟩)
    ·obtain⟨u9,D36,hF⟩:(lkV w2.heap.size (L1,L2)) _ W:=hdep 12 36 rfl;simp[execOp,Act.eval,D36,go_sem,zaa];exact⟨Fr.refl _ _,_,rfl,hF⟩
    ·obtain⟨u9,D36,hF⟩:(lkV w2.heap.size (L1,L2)) _ W:=hdep 12 36 rfl;simp[execOp,Act.eval,D36,go_sem,zaa];exact fr1 rfl
   intro vs WR hWR hv hne
   obtain⟨u9R12,e12,hFR12⟩:=hv 12 (by omega)
   obtain⟨u9R13,e13,hFR13⟩:=hv 13 (by omega)
   simp only[lz6,List.drop_zero,znM,znK,znR,Nat.zero_add,Nat.reduceAdd,e12,e13]
   simp only[Act.put,lz0,lz1,lz2]
   clear e12 e13 hv
   clear KA KR KX0 KX1 KX2 KX3 KX4 KX5 KX6 KX7 hHK2 HCx hFR12
   go_wp2
   refine bodyPost_ret (v:=.tuple #[u9R13,.int .i64 L2]) (by simp[results,Tryz.results15,go_sem]) rfl ?_
   have hq:=((hfA.trans0 q2)).size
   exact⟨(hfA.trans0 q2).trans0 hWR,_,rfl,hFR13.keep (Fr.refl No _) (fun _ _ _ h=>h) (fun b h _=>Nat.le_trans hq h)⟩
  ·rw[if_neg hix] at hV
   subst hV
   rw[show(decide ((0:Int)≤ix)&&decide (ix≤(c.methods.length:Int)-1))=false by
    rcases Int.lt_or_le ix 0 with h1|h1
    ·simp[show ¬0≤ix by omega]
    ·simp;omega] at HI
   clear HK2 hmok hmt hm
   go_wp2_with (first
    | (go_at_call 22;rw[<-hwA];refine HLA.mono ?_;rintro e w1 ⟨rfl,hf1⟩;replace hwA:=Lib.hid hwA;have C0:=B0.keep hf1;have C1:=B1.keep hf1;have z0:=C0.c1;have zl:=C0.lt;obtain⟨t0,t1⟩:=C1.c2;have tl:=C1.lt)
    | (go_at_call 23;refine(HCw w1 hf1).mono ?_;rintro e w2 ⟨rfl,hf2⟩)
    | (go_at_call 32;refine(HI _).mono ?_;rintro e w3 ⟨rfl,rfl⟩))
   refine bodyPost_ret (v:=.tuple #[.slice (some ⟨w2.heap.size,0,none⟩) 0 0,.int .i64 (-1)]) (by simp[results,Tryz.results15,go_sem]) rfl ?_
   exact⟨((hfA.trans0 hf1).trans0 hf2).trans0 frc,_,rfl,Frms.none_ _ _ _⟩
theorem zpf {p:Plan} {k:Int} {m:Mth} {P:Frm->Prop} (hM:∀j x,mapF m j=some x->P ⟨x.locals,x.stack⟩):∀(is:List Ins) (j:Nat) (f:Frm) (goes:Bool) (out:List Frm),(∀i∈is,∀g h,P g->insF p k m g i=some h->P h)->P f->(∀g∈out,P g)->
  (∀g∈(zcL p k m j is f goes out).1,P g)∧(zcL p k m j is f goes out).1.length≤out.length+is.length
 | [],j,f,goes,out,_,_,ho=>by
  rw[zcL]
  cases goes
  ·exact⟨ho,by simp⟩
  ·exact⟨by simp,by simp⟩
 | i :: is,j,f,goes,out,hI,hf,ho=>by
  have hno:(∀g∈(([],(j:Int)+1):List Frm×Int).1,P g)∧(([],(j:Int)+1):List Frm×Int).1.length≤out.length+(i :: is).length:=⟨by simp,by simp⟩
  rw[zcL]
  cases hm:zcJ p k m j f goes with
  | none=>exact hno
  | some g=>
   have hg:P g:=by
    cases hma:mapF m j with
    | none=>
     rw[zdr hma] at hm
     cases goes
     ·cases hm
     ·cases hm;exact hf
    | some x=>
     rw[zds hma] at hm
     split at hm
     ·cases hm
     ·cases hm;exact hM _ _ hma
   dsimp only
   cases hi:insF p k m g i with
   | none=>exact hno
   | some h=>
    have hh:=hI i (by simp) g h hg hi
    dsimp only
    split
    ·have:=zpf hM is (j+1) h (zcK i) (out ++ [g]) (fun i' hi'=>hI i' (by simp[hi'])) hh (fun g' hg'=>by
      rcases List.mem_append.1 hg' with h1|h1
      ·exact ho _ h1
      ·rw[List.mem_singleton.1 h1];exact hg)
     refine⟨this.1,Nat.le_trans this.2 (by simp;omega)⟩
    ·exact hno
theorem zpg {fs:List Frm} {c:Nat} (h:∀f∈fs,wF f≤c):sumN (fs.map wF)≤fs.length * c:=by
 induction fs with
 | nil=>simp[sumN]
 | cons f fs ih=>
  have h1:=h f (by simp)
  have h2:=ih (fun g hg=>h g (by simp[hg]))
  simp only[List.map_cons,sumN,List.length_cons,Nat.succ_mul]
  omega
theorem zph {p:Plan} {k:Int} {s:Str} {m:Mth} (hok:mthB m=true):sumN ((zcN p k s m).1.map wF)≤512:=by
 obtain⟨_,_,_,hlo,hhi,hs1,hs5,hcodeB,hmapsB⟩:=ze7 hok
 have hcode:m.code.length≤16∧∀i∈m.code,zfV m.locals m.code.length i=true:=by
  unfold zfW at hcodeB
  simp only[lz5,decide_eq_true_eq,List.all_eq_true] at hcodeB
  exact⟨hcodeB.1.2,hcodeB.2⟩
 obtain⟨hc16,hins⟩:=hcode
 have hall:=zpf (p:=p) (k:=k) (m:=m) (P:=fun g=>(g.locals.length:Int)=m.locals∧(g.stack.length:Int)≤m.stack) (fun j x hx=>zdM hok hx) m.code 0 (zcM s m) true [] (fun i hi g h hg hx=>by
   have hia:=hins i hi
   have hb:=zdK (by unfold zfV at hia;rw[lz5] at hia;exact hia.1) hx hg.2
   exact⟨by rw[hb.1];exact hg.1,hb.2⟩) ⟨by unfold zcM;simp;omega,by show((0:Nat):Int)≤_;omega⟩ (by simp)
 have h1:∀f∈(zcN p k s m).1,wF f≤22:=fun f hf=>by
  have:=hall.1 f hf
  unfold wF
  omega
 have h2:(zcN p k s m).1.length≤16:=by
  have:=hall.2
  unfold zcN
  simp at this
  omega
 have h3:=zpg h1
 omega
theorem zpi (p:Plan) (r:Ref) (ix:Int):sumN ((lkmF p r ix).1.map wF)≤512:=by
 unfold lkmF
 split
 ·rename_i hc
  rw[lz5] at hc
  obtain⟨k,i,a,_,_,hh,hlt,hmt⟩:=zpb hc.1 hc.2
  rw[hmt]
  exact zph (zg1 (Here.clsB hc.1 hh) _ (List.getElem_mem hlt))
 ·simp[sumN]
end Go.Proofs.YthembcdcdnffeaaGreat
