/- The laws' marks on a tree of rows: tags, instructions, fields, asks (printed by marko.py). -/
import Derived.Test.YtpghfhjhjlmljaaGreatPG38
set_option maxHeartbeats 4000000
set_option maxRecDepth 100000
namespace Go.Proofs.YtpghfhjhjlmljaaGreat
open Go.RowKit
def zBU (k:Int):Tag:=⟨k,zoL (k+1)⟩
theorem zBV (v:Value) (xs:List Tag) (Y:Nat->Prop) (k:Int) (w:World) (h:OwnL zzD 2 (zzC TagC) w Y v xs) (h0:0≤k) (hk:k+xs.length * 2≤1000000000):
  Calls Tryz.prog 126 #[v,.int .i64 k] w (fun e w'=>e=.returned (.int .i64 (k+xs.length * 2))∧OwnL zzD 2 (zzC TagC) w' Y v ((List.range xs.length).map fun i:Nat=>zBU (k+i * 2))∧Fr Y w w'):=by
 obtain⟨A,cap,rfl,hcap,hmax⟩:=h.form
 unfold maxLen at hmax
 have hOwn:∀q,zcP (.slice A xs.length cap)=some q->Y q:=h.choose_spec.choose_spec.own
 have hl:=h
 generalize hL:xs.length=L at *
 go_enter Tryz.func126,Tryz.ntmps126
 go_wp2
 go_loopw [5,1] (fun i l wr=>∃(j:Nat) (n:Int) (ys:List Tag),j≤L∧i=.int .i64 j∧l=.int .i64 n∧n=k+j * 2∧Hid (MkI (fun i:Nat=>zBU (k+i * 2)) L j ys∧OwnL zzD 2 (zzC TagC) wr Y (.slice A L cap) ys∧Fr Y w wr)) (fun i _ _=>L-(intOf i).toNat)
 case atStart=>exact⟨0,k,xs,Nat.zero_le _,rfl,rfl,by simp,Lib.hid ⟨hL▸MkI.zero _ xs,hl,Fr.refl _ _⟩⟩
 case round=>
  obtain⟨j,n,ys,hj,rfl,rfl,hn,hT⟩:=hrel
  by_cases hlt:j<L
  ·obtain⟨hM,hO,hF0⟩:=hT.out
   have hjl:j<ys.length:=by rw[hM.1];exact hlt
   have hP0:OwnL zzD 2 (zzC TagC) wr Y (.slice A L cap) (ys.set j ys[j]):=by rw[List.set_getElem_self];exact hO
   have hb:n+2≤1000000000:=by omega
   have hb0:0≤n:=by omega
   obtain⟨g,c,cs0,he,h9⟩:=hO.leafAt hjl
   clear h9
   rw[hM.1] at he
   cases he
   have hYg:Y g:=hOwn g (by rw[zcQ,if_neg (by omega)])
   replace hM:=Lib.hid hM
   replace hn:=Lib.hid hn
   clear hl h hL hT hO
   obtain⟨g',c',cs,he,hfz,hg,hC,hcs⟩:=hP0.leafAt (i:=j) (by rw[List.length_set];exact hjl)
   obtain⟨rfl,_⟩:=hC
   have c0:=hcs 0 (by omega)
   simp only[lz3,List.getElem_set_self,Nat.add_zero] at c0
   rw[List.length_set,hM.out.1] at he
   cases he
   have hQ0:=Lib.hid (hP0.leafPut (i:=j) (j:=0) (by rw[List.length_set];exact hjl) (by omega) (.int .i64 (n)) (x:=⟨n,ys[j].name⟩) (fun cs h=>by rw[List.getElem_set_self] at h;obtain⟨rfl,z1⟩:=h;exact⟨rfl,z1⟩))
   rw[List.set_set,Nat.add_zero] at hQ0
   have hG:=Lib.hid (hF0.setCellX (p:=⟨g,j * 2,none⟩) hYg (.int .i64 (n)))
   clear hcs hF0 hP0
   go_wp2_with fail
   refine zdP (fun W=>OwnL zzD 2 (zzC TagC) W Y (.slice (some ⟨g,0,none⟩) L cap) (ys.set j ⟨n,ys[j].name⟩)∧Fr Y w W) ⟨hQ0.out,hG.out⟩ ?_
   rintro W0 ⟨hP,hF⟩
   clear hG hfz hg c0 hQ0
   refine(zoM _ _ (by omega)).mono ?_
   rintro e w1 ⟨rfl,hf⟩
   have hP1:=hP.keep (zzG _) hf (fun _ _ _ h=>h)
   have hF1:=hF.trans hf.of0 (fun _ _ h=>h)
   clear hP hF hf
   obtain⟨g',c',cs,he,hfz,hg,hC,hcs⟩:=hP1.leafAt (i:=j) (by rw[List.length_set];exact hjl)
   obtain⟨rfl,_⟩:=hC
   have c1:=hcs 1 (by omega)
   simp only[lz3,lz4,List.getElem_set_self] at c1
   rw[List.length_set,hM.out.1] at he
   cases he
   have hQ1:=Lib.hid (hP1.leafPut (i:=j) (j:=1) (by rw[List.length_set];exact hjl) (by omega) (.string (zoL (n+1))) (x:=⟨n,zoL (n+1)⟩) (fun cs h=>by rw[List.getElem_set_self] at h;obtain⟨rfl,z1⟩:=h;exact⟨rfl,zBQ _ (by omega)⟩))
   rw[List.set_set] at hQ1
   have hG:=Lib.hid (hF1.setCellX (p:=⟨g,j * 2+1,none⟩) hYg (.string (zoL (n+1))))
   clear hcs hF1 hP1
   go_wp2
   go_roundw
   case rel=>exact⟨j+1,_,ys.set j (⟨n,zoL (n+1)⟩),by omega,by go_num,rfl,by have:=hn.out;omega,Lib.hid ⟨hM.out.next (by rw[hn.out];rfl),hQ1.out,hG.out⟩⟩
   case measure=>simp[intOf];omega
  ·obtain rfl:j=L:=by omega
   have hT:=hT
   go_wp2
   go_ret
   obtain⟨hM,hO,hF⟩:=hT.out
   exact⟨by rw[hn];rfl,hM.all▸hO,hF⟩
def zBW (k:Int):Ins:=⟨k,k+1,zoL (k+1+1),zoL (k+1+1+1)⟩
def zBX:TypeId:=178
theorem zBY (v:Value) (xs:List Ins) (Y:Nat->Prop) (k:Int) (w:World) (h:OwnL zBX 4 (zzC InsC) w Y v xs) (h0:0≤k) (hk:k+xs.length * 4≤1000000000):
  Calls Tryz.prog 92 #[v,.int .i64 k] w (fun e w'=>e=.returned (.int .i64 (k+xs.length * 4))∧OwnL zBX 4 (zzC InsC) w' Y v ((List.range xs.length).map fun i:Nat=>zBW (k+i * 4))∧Fr Y w w'):=by
 obtain⟨A,cap,rfl,hcap,hmax⟩:=h.form
 unfold maxLen at hmax
 have hOwn:∀q,zcP (.slice A xs.length cap)=some q->Y q:=h.choose_spec.choose_spec.own
 have hl:=h
 generalize hL:xs.length=L at *
 go_enter Tryz.func92,Tryz.ntmps92
 go_wp2
 go_loopw [5,1] (fun i l wr=>∃(j:Nat) (n:Int) (ys:List Ins),j≤L∧i=.int .i64 j∧l=.int .i64 n∧n=k+j * 4∧Hid (MkI (fun i:Nat=>zBW (k+i * 4)) L j ys∧OwnL zBX 4 (zzC InsC) wr Y (.slice A L cap) ys∧Fr Y w wr)) (fun i _ _=>L-(intOf i).toNat)
 case atStart=>exact⟨0,k,xs,Nat.zero_le _,rfl,rfl,by simp,Lib.hid ⟨hL▸MkI.zero _ xs,hl,Fr.refl _ _⟩⟩
 case round=>
  obtain⟨j,n,ys,hj,rfl,rfl,hn,hT⟩:=hrel
  by_cases hlt:j<L
  ·obtain⟨hM,hO,hF0⟩:=hT.out
   have hjl:j<ys.length:=by rw[hM.1];exact hlt
   have hP0:OwnL zBX 4 (zzC InsC) wr Y (.slice A L cap) (ys.set j ys[j]):=by rw[List.set_getElem_self];exact hO
   have hb:n+4≤1000000000:=by omega
   have hb0:0≤n:=by omega
   obtain⟨g,c,cs0,he,h9⟩:=hO.leafAt hjl
   clear h9
   rw[hM.1] at he
   cases he
   have hYg:Y g:=hOwn g (by rw[zcQ,if_neg (by omega)])
   replace hM:=Lib.hid hM
   replace hn:=Lib.hid hn
   clear hl h hL hT hO
   obtain⟨g',c',cs,he,hfz,hg,hC,hcs⟩:=hP0.leafAt (i:=j) (by rw[List.length_set];exact hjl)
   obtain⟨rfl,_,_⟩:=hC
   have c0:=hcs 0 (by omega)
   have c1:=hcs 1 (by omega)
   simp only[lz3,lz4,List.getElem_set_self,Nat.add_zero] at c0 c1
   rw[List.length_set,hM.out.1] at he
   cases he
   have hQ0:=Lib.hid (hP0.leafPut (i:=j) (j:=0) (by rw[List.length_set];exact hjl) (by omega) (.int .i64 (n)) (x:=⟨n,ys[j].a,ys[j].name,ys[j].member⟩) (fun cs h=>by rw[List.getElem_set_self] at h;obtain⟨rfl,z2,z3⟩:=h;exact⟨rfl,z2,z3⟩))
   rw[List.set_set,Nat.add_zero] at hQ0
   have hQ1:=Lib.hid (hQ0.out.leafPut (i:=j) (j:=1) (by rw[List.length_set];exact hjl) (by omega) (.int .i64 (n+1)) (x:=⟨n,n+1,ys[j].name,ys[j].member⟩) (fun cs h=>by rw[List.getElem_set_self] at h;obtain⟨rfl,z2,z3⟩:=h;exact⟨rfl,z2,z3⟩))
   rw[List.set_set] at hQ1
   have hG:=Lib.hid ((hF0.setCellX (p:=⟨g,j * 4,none⟩) hYg (.int .i64 (n))).setCellX (p:=⟨g,j * 4+1,none⟩) hYg (.int .i64 (n+1)))
   clear hcs hF0 hP0
   go_wp2_with fail
   refine zdP (fun W=>OwnL zBX 4 (zzC InsC) W Y (.slice (some ⟨g,0,none⟩) L cap) (ys.set j ⟨n,n+1,ys[j].name,ys[j].member⟩)∧Fr Y w W) ⟨hQ1.out,hG.out⟩ ?_
   rintro W0 ⟨hP,hF⟩
   clear hG hfz hg c0 hQ0 c1 hQ1
   refine(zoM _ _ (by omega)).mono ?_
   rintro e w1 ⟨rfl,hf⟩
   have hP1:=hP.keep (zzG _) hf (fun _ _ _ h=>h)
   have hF1:=hF.trans hf.of0 (fun _ _ h=>h)
   clear hP hF hf
   obtain⟨g',c',cs,he,hfz,hg,hC,hcs⟩:=hP1.leafAt (i:=j) (by rw[List.length_set];exact hjl)
   obtain⟨rfl,_,_⟩:=hC
   have c2:=hcs 2 (by omega)
   simp only[lz3,lz4,List.getElem_set_self] at c2
   rw[List.length_set,hM.out.1] at he
   cases he
   have hQ2:=Lib.hid (hP1.leafPut (i:=j) (j:=2) (by rw[List.length_set];exact hjl) (by omega) (.string (zoL (n+1+1))) (x:=⟨n,n+1,zoL (n+1+1),ys[j].member⟩) (fun cs h=>by rw[List.getElem_set_self] at h;obtain⟨rfl,z2,z3⟩:=h;exact⟨rfl,zBQ _ (by omega),z3⟩))
   rw[List.set_set] at hQ2
   have hG:=Lib.hid (hF1.setCellX (p:=⟨g,j * 4+2,none⟩) hYg (.string (zoL (n+1+1))))
   clear hcs hF1 hP1
   go_wp2_with fail
   refine zdP (fun W=>OwnL zBX 4 (zzC InsC) W Y (.slice (some ⟨g,0,none⟩) L cap) (ys.set j ⟨n,n+1,zoL (n+1+1),ys[j].member⟩)∧Fr Y w W) ⟨hQ2.out,hG.out⟩ ?_
   rintro W1 ⟨hP,hF⟩
   clear hG hfz hg c2 hQ2
   refine(zoM _ _ (by omega)).mono ?_
   rintro e w2 ⟨rfl,hf⟩
   have hP2:=hP.keep (zzG _) hf (fun _ _ _ h=>h)
   have hF2:=hF.trans hf.of0 (fun _ _ h=>h)
   clear hP hF hf
   obtain⟨g',c',cs,he,hfz,hg,hC,hcs⟩:=hP2.leafAt (i:=j) (by rw[List.length_set];exact hjl)
   obtain⟨rfl,_,_⟩:=hC
   have c3:=hcs 3 (by omega)
   simp only[lz3,lz4,List.getElem_set_self] at c3
   rw[List.length_set,hM.out.1] at he
   cases he
   have hQ3:=Lib.hid (hP2.leafPut (i:=j) (j:=3) (by rw[List.length_set];exact hjl) (by omega) (.string (zoL (n+1+1+1))) (x:=⟨n,n+1,zoL (n+1+1),zoL (n+1+1+1)⟩) (fun cs h=>by rw[List.getElem_set_self] at h;obtain⟨rfl,z2,z3⟩:=h;exact⟨rfl,zBQ _ (by omega),zBQ _ (by omega)⟩))
   rw[List.set_set] at hQ3
   have hG:=Lib.hid (hF2.setCellX (p:=⟨g,j * 4+3,none⟩) hYg (.string (zoL (n+1+1+1))))
   clear hcs hF2 hP2
   go_wp2
   go_roundw
   case rel=>exact⟨j+1,_,ys.set j (⟨n,n+1,zoL (n+1+1),zoL (n+1+1+1)⟩),by omega,by go_num,rfl,by have:=hn.out;omega,Lib.hid ⟨hM.out.next (by rw[hn.out];rfl),hQ3.out,hG.out⟩⟩
   case measure=>simp[intOf];omega
  ·obtain rfl:j=L:=by omega
   have hT:=hT
   go_wp2
   go_ret
   obtain⟨hM,hO,hF⟩:=hT.out
   exact⟨by rw[hn];rfl,hM.all▸hO,hF⟩
def zBZ (k:Int):Fld:=⟨zoL (k),⟨k+1,zoL (k+1+1)⟩⟩
def zB0:TypeId:=125
theorem zB1 (v:Value) (xs:List Fld) (Y:Nat->Prop) (k:Int) (w:World) (h:OwnL zB0 3 (zzC FldC) w Y v xs) (h0:0≤k) (hk:k+xs.length * 3≤1000000000):
  Calls Tryz.prog 57 #[v,.int .i64 k] w (fun e w'=>e=.returned (.int .i64 (k+xs.length * 3))∧OwnL zB0 3 (zzC FldC) w' Y v ((List.range xs.length).map fun i:Nat=>zBZ (k+i * 3))∧Fr Y w w'):=by
 obtain⟨A,cap,rfl,hcap,hmax⟩:=h.form
 unfold maxLen at hmax
 have hOwn:∀q,zcP (.slice A xs.length cap)=some q->Y q:=h.choose_spec.choose_spec.own
 have hl:=h
 generalize hL:xs.length=L at *
 go_enter Tryz.func57,Tryz.ntmps57
 go_wp2
 go_loopw [5,1] (fun i l wr=>∃(j:Nat) (n:Int) (ys:List Fld),j≤L∧i=.int .i64 j∧l=.int .i64 n∧n=k+j * 3∧Hid (MkI (fun i:Nat=>zBZ (k+i * 3)) L j ys∧OwnL zB0 3 (zzC FldC) wr Y (.slice A L cap) ys∧Fr Y w wr)) (fun i _ _=>L-(intOf i).toNat)
 case atStart=>exact⟨0,k,xs,Nat.zero_le _,rfl,rfl,by simp,Lib.hid ⟨hL▸MkI.zero _ xs,hl,Fr.refl _ _⟩⟩
 case round=>
  obtain⟨j,n,ys,hj,rfl,rfl,hn,hT⟩:=hrel
  by_cases hlt:j<L
  ·obtain⟨hM,hO,hF0⟩:=hT.out
   have hjl:j<ys.length:=by rw[hM.1];exact hlt
   have hP0:OwnL zB0 3 (zzC FldC) wr Y (.slice A L cap) (ys.set j ys[j]):=by rw[List.set_getElem_self];exact hO
   have hb:n+3≤1000000000:=by omega
   have hb0:0≤n:=by omega
   obtain⟨g,c,cs0,he,h9⟩:=hO.leafAt hjl
   clear h9
   rw[hM.1] at he
   cases he
   have hYg:Y g:=hOwn g (by rw[zcQ,if_neg (by omega)])
   replace hM:=Lib.hid hM
   replace hn:=Lib.hid hn
   clear hl h hL hT hO
   obtain⟨g',c',cs,he,hfz,hg,hC,hcs⟩:=hP0.leafAt (i:=j) (by rw[List.length_set];exact hjl)
   obtain⟨rfl,_,_⟩:=hC
   rw[List.length_set,hM.out.1] at he
   cases he
   have hG:=Lib.hid hF0
   replace hP0:=Lib.hid hP0
   clear hcs hF0
   go_wp2_with fail
   refine zdP (fun W=>OwnL zB0 3 (zzC FldC) W Y (.slice (some ⟨g,0,none⟩) L cap) (ys.set j ys[j])∧Fr Y w W) ⟨hP0.out,hG.out⟩ ?_
   rintro W0 ⟨hP,hF⟩
   clear hG hfz hg hP0
   refine(zoM _ _ (by omega)).mono ?_
   rintro e w1 ⟨rfl,hf⟩
   have hP1:=hP.keep (zzG _) hf (fun _ _ _ h=>h)
   have hF1:=hF.trans hf.of0 (fun _ _ h=>h)
   clear hP hF hf
   obtain⟨g',c',cs,he,hfz,hg,hC,hcs⟩:=hP1.leafAt (i:=j) (by rw[List.length_set];exact hjl)
   obtain⟨rfl,_,_⟩:=hC
   have c0:=hcs 0 (by omega)
   have c1:=hcs 1 (by omega)
   simp only[lz3,lz4,List.getElem_set_self,Nat.add_zero] at c0 c1
   rw[List.length_set,hM.out.1] at he
   cases he
   have hQ0:=Lib.hid (hP1.leafPut (i:=j) (j:=0) (by rw[List.length_set];exact hjl) (by omega) (.string (zoL (n))) (x:=⟨zoL (n),⟨ys[j].kind.kind,ys[j].kind.name⟩⟩) (fun cs h=>by rw[List.getElem_set_self] at h;obtain⟨rfl,z0,z2⟩:=h;exact⟨rfl,zBQ _ (by omega),z2⟩))
   rw[List.set_set,Nat.add_zero] at hQ0
   have hQ1:=Lib.hid (hQ0.out.leafPut (i:=j) (j:=1) (by rw[List.length_set];exact hjl) (by omega) (.int .i64 (n+1)) (x:=⟨zoL (n),⟨n+1,ys[j].kind.name⟩⟩) (fun cs h=>by rw[List.getElem_set_self] at h;obtain⟨rfl,z0,z2⟩:=h;exact⟨rfl,zBQ _ (by omega),z2⟩))
   rw[List.set_set] at hQ1
   have hG:=Lib.hid ((hF1.setCellX (p:=⟨g,j * 3,none⟩) hYg (.string (zoL (n)))).setCellX (p:=⟨g,j * 3+1,none⟩) hYg (.int .i64 (n+1)))
   clear hcs hF1 hP1
   go_wp2_with fail
   refine zdP (fun W=>OwnL zB0 3 (zzC FldC) W Y (.slice (some ⟨g,0,none⟩) L cap) (ys.set j ⟨zoL (n),⟨n+1,ys[j].kind.name⟩⟩)∧Fr Y w W) ⟨hQ1.out,hG.out⟩ ?_
   rintro W1 ⟨hP,hF⟩
   clear hG hfz hg c0 hQ0 c1 hQ1
   refine(zoM _ _ (by omega)).mono ?_
   rintro e w2 ⟨rfl,hf⟩
   have hP2:=hP.keep (zzG _) hf (fun _ _ _ h=>h)
   have hF2:=hF.trans hf.of0 (fun _ _ h=>h)
   clear hP hF hf
   obtain⟨g',c',cs,he,hfz,hg,hC,hcs⟩:=hP2.leafAt (i:=j) (by rw[List.length_set];exact hjl)
   obtain⟨rfl,_,_⟩:=hC
   have c2:=hcs 2 (by omega)
   simp only[lz3,lz4,List.getElem_set_self] at c2
   rw[List.length_set,hM.out.1] at he
   cases he
   have hQ2:=Lib.hid (hP2.leafPut (i:=j) (j:=2) (by rw[List.length_set];exact hjl) (by omega) (.string (zoL (n+1+1))) (x:=⟨zoL (n),⟨n+1,zoL (n+1+1)⟩⟩) (fun cs h=>by rw[List.getElem_set_self] at h;obtain⟨rfl,z0,z2⟩:=h;exact⟨rfl,zBQ _ (by omega),zBQ _ (by omega)⟩))
   rw[List.set_set] at hQ2
   have hG:=Lib.hid (hF2.setCellX (p:=⟨g,j * 3+2,none⟩) hYg (.string (zoL (n+1+1))))
   clear hcs hF2 hP2
   go_wp2
   go_roundw
   case rel=>exact⟨j+1,_,ys.set j (⟨zoL (n),⟨n+1,zoL (n+1+1)⟩⟩),by omega,by go_num,rfl,by have:=hn.out;omega,Lib.hid ⟨hM.out.next (by rw[hn.out];rfl),hQ2.out,hG.out⟩⟩
   case measure=>simp[intOf];omega
  ·obtain rfl:j=L:=by omega
   have hT:=hT
   go_wp2
   go_ret
   obtain⟨hM,hO,hF⟩:=hT.out
   exact⟨by rw[hn];rfl,hM.all▸hO,hF⟩
def zB2 (k:Int):Ask:=⟨zoL (k),k+1⟩
def zB3:TypeId:=86
theorem zB4 (v:Value) (xs:List Ask) (Y:Nat->Prop) (k:Int) (w:World) (h:OwnL zB3 2 (zzC AskC) w Y v xs) (h0:0≤k) (hk:k+xs.length * 2≤1000000000):
  Calls Tryz.prog 56 #[v,.int .i64 k] w (fun e w'=>e=.returned (.int .i64 (k+xs.length * 2))∧OwnL zB3 2 (zzC AskC) w' Y v ((List.range xs.length).map fun i:Nat=>zB2 (k+i * 2))∧Fr Y w w'):=by
 obtain⟨A,cap,rfl,hcap,hmax⟩:=h.form
 unfold maxLen at hmax
 have hOwn:∀q,zcP (.slice A xs.length cap)=some q->Y q:=h.choose_spec.choose_spec.own
 have hl:=h
 generalize hL:xs.length=L at *
 go_enter Tryz.func56,Tryz.ntmps56
 go_wp2
 go_loopw [5,1] (fun i l wr=>∃(j:Nat) (n:Int) (ys:List Ask),j≤L∧i=.int .i64 j∧l=.int .i64 n∧n=k+j * 2∧Hid (MkI (fun i:Nat=>zB2 (k+i * 2)) L j ys∧OwnL zB3 2 (zzC AskC) wr Y (.slice A L cap) ys∧Fr Y w wr)) (fun i _ _=>L-(intOf i).toNat)
 case atStart=>exact⟨0,k,xs,Nat.zero_le _,rfl,rfl,by simp,Lib.hid ⟨hL▸MkI.zero _ xs,hl,Fr.refl _ _⟩⟩
 case round=>
  obtain⟨j,n,ys,hj,rfl,rfl,hn,hT⟩:=hrel
  by_cases hlt:j<L
  ·obtain⟨hM,hO,hF0⟩:=hT.out
   have hjl:j<ys.length:=by rw[hM.1];exact hlt
   have hP0:OwnL zB3 2 (zzC AskC) wr Y (.slice A L cap) (ys.set j ys[j]):=by rw[List.set_getElem_self];exact hO
   have hb:n+2≤1000000000:=by omega
   have hb0:0≤n:=by omega
   obtain⟨g,c,cs0,he,h9⟩:=hO.leafAt hjl
   clear h9
   rw[hM.1] at he
   cases he
   have hYg:Y g:=hOwn g (by rw[zcQ,if_neg (by omega)])
   replace hM:=Lib.hid hM
   replace hn:=Lib.hid hn
   clear hl h hL hT hO
   obtain⟨g',c',cs,he,hfz,hg,hC,hcs⟩:=hP0.leafAt (i:=j) (by rw[List.length_set];exact hjl)
   obtain⟨rfl,_⟩:=hC
   rw[List.length_set,hM.out.1] at he
   cases he
   have hG:=Lib.hid hF0
   replace hP0:=Lib.hid hP0
   clear hcs hF0
   go_wp2_with fail
   refine zdP (fun W=>OwnL zB3 2 (zzC AskC) W Y (.slice (some ⟨g,0,none⟩) L cap) (ys.set j ys[j])∧Fr Y w W) ⟨hP0.out,hG.out⟩ ?_
   rintro W0 ⟨hP,hF⟩
   clear hG hfz hg hP0
   refine(zoM _ _ (by omega)).mono ?_
   rintro e w1 ⟨rfl,hf⟩
   have hP1:=hP.keep (zzG _) hf (fun _ _ _ h=>h)
   have hF1:=hF.trans hf.of0 (fun _ _ h=>h)
   clear hP hF hf
   obtain⟨g',c',cs,he,hfz,hg,hC,hcs⟩:=hP1.leafAt (i:=j) (by rw[List.length_set];exact hjl)
   obtain⟨rfl,_⟩:=hC
   have c0:=hcs 0 (by omega)
   have c1:=hcs 1 (by omega)
   simp only[lz3,lz4,List.getElem_set_self,Nat.add_zero] at c0 c1
   rw[List.length_set,hM.out.1] at he
   cases he
   have hQ0:=Lib.hid (hP1.leafPut (i:=j) (j:=0) (by rw[List.length_set];exact hjl) (by omega) (.string (zoL (n))) (x:=⟨zoL (n),ys[j].keeper⟩) (fun cs h=>by rw[List.getElem_set_self] at h;obtain⟨rfl,z0⟩:=h;exact⟨rfl,zBQ _ (by omega)⟩))
   rw[List.set_set,Nat.add_zero] at hQ0
   have hQ1:=Lib.hid (hQ0.out.leafPut (i:=j) (j:=1) (by rw[List.length_set];exact hjl) (by omega) (.int .i64 (n+1)) (x:=⟨zoL (n),n+1⟩) (fun cs h=>by rw[List.getElem_set_self] at h;obtain⟨rfl,z0⟩:=h;exact⟨rfl,zBQ _ (by omega)⟩))
   rw[List.set_set] at hQ1
   have hG:=Lib.hid ((hF1.setCellX (p:=⟨g,j * 2,none⟩) hYg (.string (zoL (n)))).setCellX (p:=⟨g,j * 2+1,none⟩) hYg (.int .i64 (n+1)))
   clear hcs hF1 hP1
   go_wp2
   go_roundw
   case rel=>exact⟨j+1,_,ys.set j (⟨zoL (n),n+1⟩),by omega,by go_num,rfl,by have:=hn.out;omega,Lib.hid ⟨hM.out.next (by rw[hn.out];rfl),hQ1.out,hG.out⟩⟩
   case measure=>simp[intOf];omega
  ·obtain rfl:j=L:=by omega
   have hT:=hT
   go_wp2
   go_ret
   obtain⟨hM,hO,hF⟩:=hT.out
   exact⟨by rw[hn];rfl,hM.all▸hO,hF⟩
end Go.Proofs.YtpghfhjhjlmljaaGreat
