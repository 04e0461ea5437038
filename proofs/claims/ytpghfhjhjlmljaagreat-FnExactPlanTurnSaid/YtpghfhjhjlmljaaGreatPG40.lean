/- The laws' marks on trees of rows: maps, methods, classes, keepers (printed by marko2.py). -/
import Derived.Test.YtpghfhjhjlmljaaGreatPG39
set_option maxHeartbeats 8000000
set_option maxRecDepth 100000
namespace Go.Proofs.YtpghfhjhjlmljaaGreat
open Go.RowKit
theorem zB5 {w:World} {g o o':Nat} {u:Value} (h:o≠o'):(w.setCell ⟨g,o,none⟩ u).cell? ⟨g,o',none⟩=w.cell? ⟨g,o',none⟩:=World.cell?_setCell_other w ⟨g,o,none⟩ ⟨g,o',none⟩ u (fun e=>h (by injection e))
def MkJ {α:Type} (mk:Nat->α->α) (xs:List α) (j:Nat) (ys:List α):Prop:=ys.length=xs.length∧∀i (h1:i<ys.length) (h2:i<xs.length),ys[i]=if i<j then mk i xs[i] else xs[i]
theorem MkJ.zero {α:Type} (mk:Nat->α->α) (xs:List α):MkJ mk xs 0 xs:=⟨rfl,fun i h1 h2=>by rw[if_neg (by omega)]⟩
theorem MkJ.next {α:Type} {mk:Nat->α->α} {xs ys:List α} {j:Nat} {x:α} (h:MkJ mk xs j ys) (hj:j<xs.length) (hx:x=mk j xs[j]):MkJ mk xs (j+1) (ys.set j x):=by
 refine⟨by rw[List.length_set];exact h.1,fun i h1 h2=>?_⟩
 by_cases he:i=j
 ·subst he;rw[List.getElem_set_self,if_pos (by omega)];exact hx
 ·rw[List.getElem_set_ne (fun e=>he e.symm),h.2 i (by simpa using h1) h2]
  by_cases hl:i<j
  ·rw[if_pos hl,if_pos (by omega)]
  ·rw[if_neg hl,if_neg (by omega)]
theorem MkJ.all {α:Type} {mk:Nat->α->α} {xs ys:List α} (h:MkJ mk xs xs.length ys):ys=xs.mapIdx mk:=by
 refine List.ext_getElem (by simp[h.1]) (fun i h1 h2=>?_)
 have hi:i<xs.length:=by rw[<-h.1];exact h1
 rw[h.2 i h1 hi,if_pos hi]
 simp
def mkMp (k:Int) (m:Mp):Mp:=⟨k,((List.range m.locals.length).map fun i:Nat=>zBU (k+1+i * 2)),((List.range m.stack.length).map fun i:Nat=>zBU (k+1+(m.locals.length:Int) * 2+i * 2))⟩
def zB6 (k:Int) (xs:List Mp):List Mp:=xs.mapIdx fun i m=>mkMp (k+((sumN ((xs.map wtMp).take i):Nat):Int)) m
theorem zB7 (v:Value) (xs:List Mp) (Y:Nat->Prop) (k:Int) (w:World) (h:OwnL 165 3 MapO w Y v (xs)) (h0:0≤k) (hk:k+((sumL wtMp xs:Nat):Int)≤1000000000):
  Calls Tryz.prog 93 #[v,.int .i64 k] w (fun e w'=>e=.returned (.int .i64 (k+((sumL wtMp xs:Nat):Int)))∧OwnL 165 3 MapO w' Y v (zB6 k xs)∧Fr Y w w'):=by
 obtain⟨A,cap,rfl,hcap,hmax⟩:=h.form
 unfold maxLen at hmax
 have hOwn:∀q,zcP (.slice A xs.length cap)=some q->Y q:=h.choose_spec.choose_spec.own
 rw[<-zou] at hk ⊢
 have hl:=h
 have hsn:=fun j=>zov (xs.map wtMp) j
 have hsl:=zow (xs.map wtMp)
 have hall:sumN ((xs.map wtMp).take xs.length)=sumN (xs.map wtMp):=by rw[List.take_of_length_le (by simp)]
 have hXL:Hid (xs.length=xs.length):=Lib.hid rfl
 revert hXL
 generalize hL:xs.length=L at hcap hl hOwn hall ⊢
 intro _
 generalize hS:sumN (xs.map wtMp)=S at *
 replace hS:=Lib.hid hS
 go_enter Tryz.func93,Tryz.ntmps93
 go_wp2
 go_loopw [5,1] (fun i l wr=>∃(j:Nat) (n:Int) (ys:List Mp),j≤L∧i=.int .i64 j∧l=.int .i64 n∧Hid (n=k+((sumN ((xs.map wtMp).take j):Nat):Int))∧Hid (MkJ (fun i m=>mkMp (k+((sumN ((xs.map wtMp).take i):Nat):Int)) m) xs j ys∧OwnL 165 3 MapO wr Y (.slice A L cap) (ys)∧Fr Y w wr)) (fun i _ _=>L-(intOf i).toNat)
 case atStart=>exact⟨0,k,xs,Nat.zero_le _,rfl,rfl,Lib.hid (by rw[List.take_zero];simp[sumN]),Lib.hid ⟨MkJ.zero _ xs,hl,Fr.refl _ _⟩⟩
 case round=>
  obtain⟨j,n,ys,hj,rfl,rfl,hn,hT⟩:=hrel
  by_cases hlt:j<L
  ·obtain⟨hM,hO,hF0⟩:=hT.out
   have hxl:j<xs.length:=by rw[hL];exact hlt
   have hyl:ys.length=L:=by rw[hM.1];exact hL
   have hjl:j<ys.length:=by omega
   obtain⟨x,hx⟩:∃x,x=xs[j]:=⟨_,rfl⟩
   have hyx:ys[j]=x:=by rw[hM.2 j hjl hxl,if_neg (by omega)];exact hx.symm
   have hP0:OwnL 165 3 MapO wr Y (.slice A L cap) (ys.set j x):=by rw[<-hyx,List.set_getElem_self];exact hO
   have hb:n+((wtMp x:Nat):Int)≤1000000000:=by
    have h1:=hsn j (by simpa using hxl)
    have h2:=hsl (j+1)
    have h3:(xs.map wtMp)[j]'(by simpa using hxl)=wtMp x:=by rw[List.getElem_map,hx]
    have h4:=hn.out
    rw[h3] at h1
    omega
   have hwx:Hid (sumN ((xs.map wtMp).take (j+1))=sumN ((xs.map wtMp).take j)+wtMp x):=Lib.hid (by rw[hsn j (by simpa using hxl),List.getElem_map,hx])
   unfold wtMp at hb
   have hb0:0≤n:=by have:=hn.out;omega
   obtain⟨g,c,cs0,Z9,he,_,_,hYg,h9⟩:=hO.at_ hjl
   clear h9
   rw[hyl] at he
   cases he
   replace hM:=Lib.hid hM
   replace hx:=Lib.hid hx
   replace hyx:=Lib.hid hyx
   replace hall:=Lib.hid hall
   clear hl h hT hO hsn hsl hOwn
   obtain⟨g',c',cs,Z0,he,hfz,hg,_,hC,_,hcs⟩:=hP0.at_ (i:=j) (by rw[List.length_set];exact hjl)
   obtain⟨vl,vs,Y1,Y2,rfl,_,_,hvl,hvs⟩:=hC
   simp only[List.getElem_set_self] at hvl hvs
   obtain⟨A_vl,c_vl,rfl,_,_⟩:=hvl.form
   obtain⟨A_vs,c_vs,rfl,_,_⟩:=hvs.form
   have c0:=hcs 0 (by omega)
   have c1:=hcs 1 (by omega)
   simp only[lz3,lz4,List.getElem_set_self,Nat.add_zero] at c0 c1
   rw[List.length_set,hyl] at he
   cases he
   clear hcs hvl hvs
   have hQ0:=Lib.hid (hP0.putF zzH (i:=j) (j:=0) (by rw[List.length_set];exact hjl) (by omega) (.int .i64 (n)) (x:=⟨n,x.locals,x.stack⟩) (fun w Z cs h=>by rw[List.getElem_set_self] at h;obtain⟨vl,vs,Y1,Y2,rfl,h⟩:=h;exact⟨vl,vs,Y1,Y2,rfl,h⟩))
   rw[List.set_set,Nat.add_zero] at hQ0
   have hG:=Lib.hid (hF0.setCellX (p:=⟨g,j * 3,none⟩) hYg (.int .i64 (n)))
   clear hF0 hP0
   go_wp2_with fail
   obtain⟨Z,u,hu,hT,hZ,hk1⟩:=hQ0.out.open_ zzH zBa (i:=j) (j:=1) (by rw[List.length_set];exact hjl) (by omega)
   simp only[List.getElem_set_self] at hu hT hk1
   rw[zB5 (by omega),c1] at hu
   cases hu
   refine(zBV _ _ Z _ _ hT (by omega) (by omega)).mono ?_
   rintro e w1 ⟨rfl,hT1,hf⟩
   have hP1:=hk1 _ _ hT1 hf
   rw[List.set_set] at hP1
   have hF1:=hG.out.trans hf (fun b _ h=>(hZ b h).1)
   clear hG hfz hg hT hT1 hk1 hf hZ c0 c1 hQ0
   obtain⟨g',c',cs,Z0,he,hfz,hg,_,hC,_,hcs⟩:=hP1.at_ (i:=j) (by rw[List.length_set];exact hjl)
   obtain⟨vl,vs,Y1,Y2,rfl,_,_,hvl,hvs⟩:=hC
   simp only[List.getElem_set_self] at hvl hvs
   obtain⟨A_vl,c_vl,rfl,_,_⟩:=hvl.form
   obtain⟨A_vs,c_vs,rfl,_,_⟩:=hvs.form
   have c2:=hcs 2 (by omega)
   simp only[lz3,lz4,List.getElem_set_self] at c2
   rw[List.length_set,hyl] at he
   cases he
   clear hcs hvl hvs
   have hG:=Lib.hid hF1
   have hQ:=Lib.hid hP1
   clear hF1 hP1
   go_wp2_with fail
   obtain⟨Z,u,hu,hT,hZ,hk1⟩:=hQ.out.open_ zzH zBb (i:=j) (j:=2) (by rw[List.length_set];exact hjl) (by omega)
   simp only[List.getElem_set_self] at hu hT hk1
   rw[c2] at hu
   cases hu
   refine(zBV _ _ Z _ _ hT (by omega) (by omega)).mono ?_
   rintro e w2 ⟨rfl,hT1,hf⟩
   have hP2:=hk1 _ _ hT1 hf
   rw[List.set_set] at hP2
   have hF2:=hG.out.trans hf (fun b _ h=>(hZ b h).1)
   clear hG hfz hg hT hT1 hk1 hf hZ c2 hQ
   obtain⟨g',c',cs,Z0,he,hfz,hg,_,hC,_,hcs⟩:=hP2.at_ (i:=j) (by rw[List.length_set];exact hjl)
   obtain⟨vl,vs,Y1,Y2,rfl,_,_,hvl,hvs⟩:=hC
   simp only[List.getElem_set_self] at hvl hvs
   obtain⟨A_vl,c_vl,rfl,_,_⟩:=hvl.form
   obtain⟨A_vs,c_vs,rfl,_,_⟩:=hvs.form
   rw[List.length_set,hyl] at he
   cases he
   clear hcs hvl hvs
   have hG:=Lib.hid hF2
   have hQ:=Lib.hid hP2
   clear hF2 hP2
   go_wp2
   go_roundw
   case rel=>exact⟨j+1,_,ys.set j (⟨n,((List.range x.locals.length).map fun i:Nat=>zBU (n+1+i * 2)),((List.range x.stack.length).map fun i:Nat=>zBU (n+1+(x.locals.length:Int) * 2+i * 2))⟩),by omega,by go_num,rfl,Lib.hid (by rw[hwx.out,hn.out];unfold wtMp;omega),Lib.hid ⟨hM.out.next hxl (by rw[<-hx.out,<-hn.out];rfl),hQ.out,hG.out⟩⟩
   case measure=>simp[intOf];omega
  ·obtain rfl:j=L:=by omega
   have hT:=hT
   go_wp2
   go_ret
   obtain⟨hM,hO,hF⟩:=hT.out
   have hE:zB6 k xs=ys:=by
    subst hL
    exact hM.all.symm
   exact⟨by rw[hn.out,hall];rfl,hE▸hO,hF⟩
def zB8 (k:Int) (m:Mth):Mth:=⟨zoL (k),((List.range m.args.length).map fun i:Nat=>zBR (k+1+i * 2)),⟨k+1+(m.args.length:Int) * 2,zoL (k+1+(m.args.length:Int) * 2+1)⟩,k+1+(m.args.length:Int) * 2+1+1,k+1+(m.args.length:Int) * 2+1+1+1,((List.range m.code.length).map fun i:Nat=>zBW (k+1+(m.args.length:Int) * 2+1+1+1+1+i * 4)),(zB6 (k+1+(m.args.length:Int) * 2+1+1+1+1+(m.code.length:Int) * 4) m.maps)⟩
def zB9 (k:Int) (xs:List Mth):List Mth:=xs.mapIdx fun i m=>zB8 (k+((sumN ((xs.map zoC).take i):Nat):Int)) m
theorem zCa (v:Value) (xs:List Mth) (Y:Nat->Prop) (k:Int) (w:World) (h:OwnL 133 8 MthO w Y v (xs)) (h0:0≤k) (hk:k+((sumL zoC xs:Nat):Int)≤1000000000):
  Calls Tryz.prog 58 #[v,.int .i64 k] w (fun e w'=>e=.returned (.int .i64 (k+((sumL zoC xs:Nat):Int)))∧OwnL 133 8 MthO w' Y v (zB9 k xs)∧Fr Y w w'):=by
 obtain⟨A,cap,rfl,hcap,hmax⟩:=h.form
 unfold maxLen at hmax
 have hOwn:∀q,zcP (.slice A xs.length cap)=some q->Y q:=h.choose_spec.choose_spec.own
 rw[<-zou] at hk ⊢
 have hl:=h
 have hsn:=fun j=>zov (xs.map zoC) j
 have hsl:=zow (xs.map zoC)
 have hall:sumN ((xs.map zoC).take xs.length)=sumN (xs.map zoC):=by rw[List.take_of_length_le (by simp)]
 have hXL:Hid (xs.length=xs.length):=Lib.hid rfl
 revert hXL
 generalize hL:xs.length=L at hcap hl hOwn hall ⊢
 intro _
 generalize hS:sumN (xs.map zoC)=S at *
 replace hS:=Lib.hid hS
 go_enter Tryz.func58,Tryz.ntmps58
 go_wp2
 go_loopw [5,1] (fun i l wr=>∃(j:Nat) (n:Int) (ys:List Mth),j≤L∧i=.int .i64 j∧l=.int .i64 n∧Hid (n=k+((sumN ((xs.map zoC).take j):Nat):Int))∧Hid (MkJ (fun i m=>zB8 (k+((sumN ((xs.map zoC).take i):Nat):Int)) m) xs j ys∧OwnL 133 8 MthO wr Y (.slice A L cap) (ys)∧Fr Y w wr)) (fun i _ _=>L-(intOf i).toNat)
 case atStart=>exact⟨0,k,xs,Nat.zero_le _,rfl,rfl,Lib.hid (by rw[List.take_zero];simp[sumN]),Lib.hid ⟨MkJ.zero _ xs,hl,Fr.refl _ _⟩⟩
 case round=>
  obtain⟨j,n,ys,hj,rfl,rfl,hn,hT⟩:=hrel
  by_cases hlt:j<L
  ·obtain⟨hM,hO,hF0⟩:=hT.out
   have hxl:j<xs.length:=by rw[hL];exact hlt
   have hyl:ys.length=L:=by rw[hM.1];exact hL
   have hjl:j<ys.length:=by omega
   obtain⟨x,hx⟩:∃x,x=xs[j]:=⟨_,rfl⟩
   have hyx:ys[j]=x:=by rw[hM.2 j hjl hxl,if_neg (by omega)];exact hx.symm
   have hP0:OwnL 133 8 MthO wr Y (.slice A L cap) (ys.set j x):=by rw[<-hyx,List.set_getElem_self];exact hO
   have hb:n+((zoC x:Nat):Int)≤1000000000:=by
    have h1:=hsn j (by simpa using hxl)
    have h2:=hsl (j+1)
    have h3:(xs.map zoC)[j]'(by simpa using hxl)=zoC x:=by rw[List.getElem_map,hx]
    have h4:=hn.out
    rw[h3] at h1
    omega
   have hwx:Hid (sumN ((xs.map zoC).take (j+1))=sumN ((xs.map zoC).take j)+zoC x):=Lib.hid (by rw[hsn j (by simpa using hxl),List.getElem_map,hx])
   unfold zoC at hb
   have hb0:0≤n:=by have:=hn.out;omega
   obtain⟨g,c,cs0,Z9,he,_,_,hYg,h9⟩:=hO.at_ hjl
   clear h9
   rw[hyl] at he
   cases he
   replace hM:=Lib.hid hM
   replace hx:=Lib.hid hx
   replace hyx:=Lib.hid hyx
   replace hall:=Lib.hid hall
   clear hl h hT hO hsn hsl hOwn
   obtain⟨g',c',cs,Z0,he,hfz,hg,_,hC,_,hcs⟩:=hP0.at_ (i:=j) (by rw[List.length_set];exact hjl)
   obtain⟨va,vc,vm,Y1,Y2,Y3,rfl,_,_,_,_,_,hva,hvc,hvm⟩:=hC
   simp only[List.getElem_set_self] at hva hvc hvm
   obtain⟨A_va,c_va,rfl,_,_⟩:=hva.form
   obtain⟨A_vc,c_vc,rfl,_,_⟩:=hvc.form
   obtain⟨A_vm,c_vm,rfl,_,_⟩:=hvm.form
   rw[List.length_set,hyl] at he
   cases he
   clear hcs hva hvc hvm
   have hG:=Lib.hid hF0
   have hQ:=Lib.hid hP0
   clear hF0 hP0
   go_wp2_with fail
   refine zdP (fun W=>OwnL 133 8 MthO W Y (.slice (some ⟨g,0,none⟩) L cap) (ys.set j (⟨x.name,x.args,⟨x.ret.kind,x.ret.name⟩,x.locals,x.stack,x.code,x.maps⟩))∧Fr Y w W) ⟨hQ.out,hG.out⟩ ?_
   rintro W1 ⟨hP,hF⟩
   clear hG hfz hg  hQ
   refine(zoM _ _ (by omega)).mono ?_
   rintro e w1 ⟨rfl,hf⟩
   have hP1:=hP.keep zzI hf (fun _ _ _ h=>h)
   have hF1:=hF.trans hf.of0 (fun _ _ h=>h)
   clear hP hF hf
   obtain⟨g',c',cs,Z0,he,hfz,hg,_,hC,_,hcs⟩:=hP1.at_ (i:=j) (by rw[List.length_set];exact hjl)
   obtain⟨va,vc,vm,Y1,Y2,Y3,rfl,_,_,_,_,_,hva,hvc,hvm⟩:=hC
   simp only[List.getElem_set_self] at hva hvc hvm
   obtain⟨A_va,c_va,rfl,_,_⟩:=hva.form
   obtain⟨A_vc,c_vc,rfl,_,_⟩:=hvc.form
   obtain⟨A_vm,c_vm,rfl,_,_⟩:=hvm.form
   have c0:=hcs 0 (by omega)
   have c1:=hcs 1 (by omega)
   simp only[lz3,lz4,List.getElem_set_self,Nat.add_zero] at c0 c1
   rw[List.length_set,hyl] at he
   cases he
   clear hcs hva hvc hvm
   have hQ0:=Lib.hid (hP1.putF zzI (i:=j) (j:=0) (by rw[List.length_set];exact hjl) (by omega) (.string (zoL (n))) (x:=⟨zoL (n),x.args,⟨x.ret.kind,x.ret.name⟩,x.locals,x.stack,x.code,x.maps⟩) (fun w Z cs h=>by rw[List.getElem_set_self] at h;obtain⟨va,vc,vm,Y1,Y2,Y3,rfl,z0,z1,h⟩:=h;exact⟨va,vc,vm,Y1,Y2,Y3,rfl,zBQ _ (by omega),z1,h⟩))
   rw[List.set_set,Nat.add_zero] at hQ0
   have hG:=Lib.hid (hF1.setCellX (p:=⟨g,j * 8,none⟩) hYg (.string (zoL (n))))
   clear hF1 hP1
   go_wp2_with fail
   obtain⟨Z,u,hu,hT,hZ,hk1⟩:=hQ0.out.open_ zzI zBc (i:=j) (j:=1) (by rw[List.length_set];exact hjl) (by omega)
   simp only[List.getElem_set_self] at hu hT hk1
   rw[zB5 (by omega),c1] at hu
   cases hu
   refine(zBT _ _ Z _ _ hT (by omega) (by omega)).mono ?_
   rintro e w2 ⟨rfl,hT1,hf⟩
   have hP2:=hk1 _ _ hT1 hf
   rw[List.set_set] at hP2
   have hF2:=hG.out.trans hf (fun b _ h=>(hZ b h).1)
   clear hG hfz hg hT hT1 hk1 hf hZ c0 c1 hQ0
   obtain⟨g',c',cs,Z0,he,hfz,hg,_,hC,_,hcs⟩:=hP2.at_ (i:=j) (by rw[List.length_set];exact hjl)
   obtain⟨va,vc,vm,Y1,Y2,Y3,rfl,_,_,_,_,_,hva,hvc,hvm⟩:=hC
   simp only[List.getElem_set_self] at hva hvc hvm
   obtain⟨A_va,c_va,rfl,_,_⟩:=hva.form
   obtain⟨A_vc,c_vc,rfl,_,_⟩:=hvc.form
   obtain⟨A_vm,c_vm,rfl,_,_⟩:=hvm.form
   have c2:=hcs 2 (by omega)
   simp only[lz3,lz4,List.getElem_set_self] at c2
   rw[List.length_set,hyl] at he
   cases he
   clear hcs hva hvc hvm
   have hQ2:=Lib.hid (hP2.putF zzI (i:=j) (j:=2) (by rw[List.length_set];exact hjl) (by omega) (.int .i64 (n+1+(x.args.length:Int) * 2)) (x:=⟨zoL (n),((List.range x.args.length).map fun i:Nat=>zBR (n+1+i * 2)),⟨n+1+(x.args.length:Int) * 2,x.ret.name⟩,x.locals,x.stack,x.code,x.maps⟩) (fun w Z cs h=>by rw[List.getElem_set_self] at h;obtain⟨va,vc,vm,Y1,Y2,Y3,rfl,z0,z1,h⟩:=h;exact⟨va,vc,vm,Y1,Y2,Y3,rfl,z0,z1,h⟩))
   rw[List.set_set] at hQ2
   have hG:=Lib.hid (hF2.setCellX (p:=⟨g,j * 8+2,none⟩) hYg (.int .i64 (n+1+(x.args.length:Int) * 2)))
   clear hF2 hP2
   go_wp2_with fail
   refine zdP (fun W=>OwnL 133 8 MthO W Y (.slice (some ⟨g,0,none⟩) L cap) (ys.set j (⟨zoL (n),((List.range x.args.length).map fun i:Nat=>zBR (n+1+i * 2)),⟨n+1+(x.args.length:Int) * 2,x.ret.name⟩,x.locals,x.stack,x.code,x.maps⟩))∧Fr Y w W) ⟨hQ2.out,hG.out⟩ ?_
   rintro W3 ⟨hP,hF⟩
   clear hG hfz hg c2 hQ2
   refine(zoM _ _ (by omega)).mono ?_
   rintro e w3 ⟨rfl,hf⟩
   have hP3:=hP.keep zzI hf (fun _ _ _ h=>h)
   have hF3:=hF.trans hf.of0 (fun _ _ h=>h)
   clear hP hF hf
   obtain⟨g',c',cs,Z0,he,hfz,hg,_,hC,_,hcs⟩:=hP3.at_ (i:=j) (by rw[List.length_set];exact hjl)
   obtain⟨va,vc,vm,Y1,Y2,Y3,rfl,_,_,_,_,_,hva,hvc,hvm⟩:=hC
   simp only[List.getElem_set_self] at hva hvc hvm
   obtain⟨A_va,c_va,rfl,_,_⟩:=hva.form
   obtain⟨A_vc,c_vc,rfl,_,_⟩:=hvc.form
   obtain⟨A_vm,c_vm,rfl,_,_⟩:=hvm.form
   have c3:=hcs 3 (by omega)
   have c4:=hcs 4 (by omega)
   have c5:=hcs 5 (by omega)
   have c6:=hcs 6 (by omega)
   simp only[lz3,lz4,List.getElem_set_self] at c3 c4 c5 c6
   rw[List.length_set,hyl] at he
   cases he
   clear hcs hva hvc hvm
   have hQ3:=Lib.hid (hP3.putF zzI (i:=j) (j:=3) (by rw[List.length_set];exact hjl) (by omega) (.string (zoL (n+1+(x.args.length:Int) * 2+1))) (x:=⟨zoL (n),((List.range x.args.length).map fun i:Nat=>zBR (n+1+i * 2)),⟨n+1+(x.args.length:Int) * 2,zoL (n+1+(x.args.length:Int) * 2+1)⟩,x.locals,x.stack,x.code,x.maps⟩) (fun w Z cs h=>by rw[List.getElem_set_self] at h;obtain⟨va,vc,vm,Y1,Y2,Y3,rfl,z0,z1,h⟩:=h;exact⟨va,vc,vm,Y1,Y2,Y3,rfl,z0,zBQ _ (by omega),h⟩))
   rw[List.set_set] at hQ3
   have hQ4:=Lib.hid (hQ3.out.putF zzI (i:=j) (j:=4) (by rw[List.length_set];exact hjl) (by omega) (.int .i64 (n+1+(x.args.length:Int) * 2+1+1)) (x:=⟨zoL (n),((List.range x.args.length).map fun i:Nat=>zBR (n+1+i * 2)),⟨n+1+(x.args.length:Int) * 2,zoL (n+1+(x.args.length:Int) * 2+1)⟩,n+1+(x.args.length:Int) * 2+1+1,x.stack,x.code,x.maps⟩) (fun w Z cs h=>by rw[List.getElem_set_self] at h;obtain⟨va,vc,vm,Y1,Y2,Y3,rfl,z0,z1,h⟩:=h;exact⟨va,vc,vm,Y1,Y2,Y3,rfl,z0,z1,h⟩))
   rw[List.set_set] at hQ4
   have hQ5:=Lib.hid (hQ4.out.putF zzI (i:=j) (j:=5) (by rw[List.length_set];exact hjl) (by omega) (.int .i64 (n+1+(x.args.length:Int) * 2+1+1+1)) (x:=⟨zoL (n),((List.range x.args.length).map fun i:Nat=>zBR (n+1+i * 2)),⟨n+1+(x.args.length:Int) * 2,zoL (n+1+(x.args.length:Int) * 2+1)⟩,n+1+(x.args.length:Int) * 2+1+1,n+1+(x.args.length:Int) * 2+1+1+1,x.code,x.maps⟩) (fun w Z cs h=>by rw[List.getElem_set_self] at h;obtain⟨va,vc,vm,Y1,Y2,Y3,rfl,z0,z1,h⟩:=h;exact⟨va,vc,vm,Y1,Y2,Y3,rfl,z0,z1,h⟩))
   rw[List.set_set] at hQ5
   have hG:=Lib.hid (((hF3.setCellX (p:=⟨g,j * 8+3,none⟩) hYg (.string (zoL (n+1+(x.args.length:Int) * 2+1)))).setCellX (p:=⟨g,j * 8+4,none⟩) hYg (.int .i64 (n+1+(x.args.length:Int) * 2+1+1))).setCellX (p:=⟨g,j * 8+5,none⟩) hYg (.int .i64 (n+1+(x.args.length:Int) * 2+1+1+1)))
   clear hF3 hP3
   go_wp2_with fail
   obtain⟨Z,u,hu,hT,hZ,hk1⟩:=hQ5.out.open_ zzI zBd (i:=j) (j:=6) (by rw[List.length_set];exact hjl) (by omega)
   simp only[List.getElem_set_self] at hu hT hk1
   rw[zB5 (by omega),zB5 (by omega),zB5 (by omega),c6] at hu
   cases hu
   refine(zBY _ _ Z _ _ hT (by omega) (by omega)).mono ?_
   rintro e w4 ⟨rfl,hT1,hf⟩
   have hP4:=hk1 _ _ hT1 hf
   rw[List.set_set] at hP4
   have hF4:=hG.out.trans hf (fun b _ h=>(hZ b h).1)
   clear hG hfz hg hT hT1 hk1 hf hZ c3 c4 c5 c6 hQ3 hQ4 hQ5
   obtain⟨g',c',cs,Z0,he,hfz,hg,_,hC,_,hcs⟩:=hP4.at_ (i:=j) (by rw[List.length_set];exact hjl)
   obtain⟨va,vc,vm,Y1,Y2,Y3,rfl,_,_,_,_,_,hva,hvc,hvm⟩:=hC
   simp only[List.getElem_set_self] at hva hvc hvm
   obtain⟨A_va,c_va,rfl,_,_⟩:=hva.form
   obtain⟨A_vc,c_vc,rfl,_,_⟩:=hvc.form
   obtain⟨A_vm,c_vm,rfl,_,_⟩:=hvm.form
   have c7:=hcs 7 (by omega)
   simp only[lz3,lz4,List.getElem_set_self] at c7
   rw[List.length_set,hyl] at he
   cases he
   clear hcs hva hvc hvm
   have hG:=Lib.hid hF4
   have hQ:=Lib.hid hP4
   clear hF4 hP4
   go_wp2_with fail
   obtain⟨Z,u,hu,hT,hZ,hk1⟩:=hQ.out.open_ zzI zBe (i:=j) (j:=7) (by rw[List.length_set];exact hjl) (by omega)
   simp only[List.getElem_set_self] at hu hT hk1
   rw[c7] at hu
   cases hu
   refine(zB7 _ _ Z _ _ hT (by omega) (by omega)).mono ?_
   rintro e w5 ⟨rfl,hT1,hf⟩
   have hP5:=hk1 _ _ hT1 hf
   rw[List.set_set] at hP5
   have hF5:=hG.out.trans hf (fun b _ h=>(hZ b h).1)
   clear hG hfz hg hT hT1 hk1 hf hZ c7 hQ
   obtain⟨g',c',cs,Z0,he,hfz,hg,_,hC,_,hcs⟩:=hP5.at_ (i:=j) (by rw[List.length_set];exact hjl)
   obtain⟨va,vc,vm,Y1,Y2,Y3,rfl,_,_,_,_,_,hva,hvc,hvm⟩:=hC
   simp only[List.getElem_set_self] at hva hvc hvm
   obtain⟨A_va,c_va,rfl,_,_⟩:=hva.form
   obtain⟨A_vc,c_vc,rfl,_,_⟩:=hvc.form
   obtain⟨A_vm,c_vm,rfl,_,_⟩:=hvm.form
   rw[List.length_set,hyl] at he
   cases he
   clear hcs hva hvc hvm
   have hG:=Lib.hid hF5
   have hQ:=Lib.hid hP5
   clear hF5 hP5
   go_wp2
   go_roundw
   case rel=>exact⟨j+1,_,ys.set j (⟨zoL (n),((List.range x.args.length).map fun i:Nat=>zBR (n+1+i * 2)),⟨n+1+(x.args.length:Int) * 2,zoL (n+1+(x.args.length:Int) * 2+1)⟩,n+1+(x.args.length:Int) * 2+1+1,n+1+(x.args.length:Int) * 2+1+1+1,((List.range x.code.length).map fun i:Nat=>zBW (n+1+(x.args.length:Int) * 2+1+1+1+1+i * 4)),(zB6 (n+1+(x.args.length:Int) * 2+1+1+1+1+(x.code.length:Int) * 4) x.maps)⟩),by omega,by go_num,rfl,Lib.hid (by rw[hwx.out,hn.out];unfold zoC;omega),Lib.hid ⟨hM.out.next hxl (by rw[<-hx.out,<-hn.out];rfl),hQ.out,hG.out⟩⟩
   case measure=>simp[intOf];omega
  ·obtain rfl:j=L:=by omega
   have hT:=hT
   go_wp2
   go_ret
   obtain⟨hM,hO,hF⟩:=hT.out
   have hE:zB9 k xs=ys:=by
    subst hL
    exact hM.all.symm
   exact⟨by rw[hn.out,hall];rfl,hE▸hO,hF⟩
def zCb (k:Int) (m:Cls):Cls:=⟨zoL (k),zoL (k+1),((List.range m.fields.length).map fun i:Nat=>zBZ (k+1+1+i * 3)),(zB9 (k+1+1+(m.fields.length:Int) * 3) m.methods)⟩
def zCc (k:Int) (xs:List Cls):List Cls:=xs.mapIdx fun i m=>zCb (k+((sumN ((xs.map zoD).take i):Nat):Int)) m
theorem zCd (v:Value) (xs:List Cls) (Y:Nat->Prop) (k:Int) (w:World) (h:OwnL 42 4 ClsO w Y v (xs)) (h0:0≤k) (hk:k+((sumL zoD xs:Nat):Int)≤1000000000):
  Calls Tryz.prog 55 #[v,.int .i64 k] w (fun e w'=>e=.returned (.int .i64 (k+((sumL zoD xs:Nat):Int)))∧OwnL 42 4 ClsO w' Y v (zCc k xs)∧Fr Y w w'):=by
 obtain⟨A,cap,rfl,hcap,hmax⟩:=h.form
 unfold maxLen at hmax
 have hOwn:∀q,zcP (.slice A xs.length cap)=some q->Y q:=h.choose_spec.choose_spec.own
 rw[<-zou] at hk ⊢
 have hl:=h
 have hsn:=fun j=>zov (xs.map zoD) j
 have hsl:=zow (xs.map zoD)
 have hall:sumN ((xs.map zoD).take xs.length)=sumN (xs.map zoD):=by rw[List.take_of_length_le (by simp)]
 have hXL:Hid (xs.length=xs.length):=Lib.hid rfl
 revert hXL
 generalize hL:xs.length=L at hcap hl hOwn hall ⊢
 intro _
 generalize hS:sumN (xs.map zoD)=S at *
 replace hS:=Lib.hid hS
 go_enter Tryz.func55,Tryz.ntmps55
 go_wp2
 go_loopw [5,1] (fun i l wr=>∃(j:Nat) (n:Int) (ys:List Cls),j≤L∧i=.int .i64 j∧l=.int .i64 n∧Hid (n=k+((sumN ((xs.map zoD).take j):Nat):Int))∧Hid (MkJ (fun i m=>zCb (k+((sumN ((xs.map zoD).take i):Nat):Int)) m) xs j ys∧OwnL 42 4 ClsO wr Y (.slice A L cap) (ys)∧Fr Y w wr)) (fun i _ _=>L-(intOf i).toNat)
 case atStart=>exact⟨0,k,xs,Nat.zero_le _,rfl,rfl,Lib.hid (by rw[List.take_zero];simp[sumN]),Lib.hid ⟨MkJ.zero _ xs,hl,Fr.refl _ _⟩⟩
 case round=>
  obtain⟨j,n,ys,hj,rfl,rfl,hn,hT⟩:=hrel
  by_cases hlt:j<L
  ·obtain⟨hM,hO,hF0⟩:=hT.out
   have hxl:j<xs.length:=by rw[hL];exact hlt
   have hyl:ys.length=L:=by rw[hM.1];exact hL
   have hjl:j<ys.length:=by omega
   obtain⟨x,hx⟩:∃x,x=xs[j]:=⟨_,rfl⟩
   have hyx:ys[j]=x:=by rw[hM.2 j hjl hxl,if_neg (by omega)];exact hx.symm
   have hP0:OwnL 42 4 ClsO wr Y (.slice A L cap) (ys.set j x):=by rw[<-hyx,List.set_getElem_self];exact hO
   have hb:n+((zoD x:Nat):Int)≤1000000000:=by
    have h1:=hsn j (by simpa using hxl)
    have h2:=hsl (j+1)
    have h3:(xs.map zoD)[j]'(by simpa using hxl)=zoD x:=by rw[List.getElem_map,hx]
    have h4:=hn.out
    rw[h3] at h1
    omega
   have hwx:Hid (sumN ((xs.map zoD).take (j+1))=sumN ((xs.map zoD).take j)+zoD x):=Lib.hid (by rw[hsn j (by simpa using hxl),List.getElem_map,hx])
   unfold zoD at hb
   have hb0:0≤n:=by have:=hn.out;omega
   obtain⟨g,c,cs0,Z9,he,_,_,hYg,h9⟩:=hO.at_ hjl
   clear h9
   rw[hyl] at he
   cases he
   replace hM:=Lib.hid hM
   replace hx:=Lib.hid hx
   replace hyx:=Lib.hid hyx
   replace hall:=Lib.hid hall
   clear hl h hT hO hsn hsl hOwn
   obtain⟨g',c',cs,Z0,he,hfz,hg,_,hC,_,hcs⟩:=hP0.at_ (i:=j) (by rw[List.length_set];exact hjl)
   obtain⟨vf,vm,Y1,Y2,rfl,_,_,_,_,hvf,hvm⟩:=hC
   simp only[List.getElem_set_self] at hvf hvm
   obtain⟨A_vf,c_vf,rfl,_,_⟩:=hvf.form
   obtain⟨A_vm,c_vm,rfl,_,_⟩:=hvm.form
   rw[List.length_set,hyl] at he
   cases he
   clear hcs hvf hvm
   have hG:=Lib.hid hF0
   have hQ:=Lib.hid hP0
   clear hF0 hP0
   go_wp2_with fail
   refine zdP (fun W=>OwnL 42 4 ClsO W Y (.slice (some ⟨g,0,none⟩) L cap) (ys.set j (⟨x.name,x.super,x.fields,x.methods⟩))∧Fr Y w W) ⟨hQ.out,hG.out⟩ ?_
   rintro W1 ⟨hP,hF⟩
   clear hG hfz hg  hQ
   refine(zoM _ _ (by omega)).mono ?_
   rintro e w1 ⟨rfl,hf⟩
   have hP1:=hP.keep zzJ hf (fun _ _ _ h=>h)
   have hF1:=hF.trans hf.of0 (fun _ _ h=>h)
   clear hP hF hf
   obtain⟨g',c',cs,Z0,he,hfz,hg,_,hC,_,hcs⟩:=hP1.at_ (i:=j) (by rw[List.length_set];exact hjl)
   obtain⟨vf,vm,Y1,Y2,rfl,_,_,_,_,hvf,hvm⟩:=hC
   simp only[List.getElem_set_self] at hvf hvm
   obtain⟨A_vf,c_vf,rfl,_,_⟩:=hvf.form
   obtain⟨A_vm,c_vm,rfl,_,_⟩:=hvm.form
   have c0:=hcs 0 (by omega)
   simp only[lz3,List.getElem_set_self,Nat.add_zero] at c0
   rw[List.length_set,hyl] at he
   cases he
   clear hcs hvf hvm
   have hQ0:=Lib.hid (hP1.putF zzJ (i:=j) (j:=0) (by rw[List.length_set];exact hjl) (by omega) (.string (zoL (n))) (x:=⟨zoL (n),x.super,x.fields,x.methods⟩) (fun w Z cs h=>by rw[List.getElem_set_self] at h;obtain⟨vf,vm,Y1,Y2,rfl,z0,z1,h⟩:=h;exact⟨vf,vm,Y1,Y2,rfl,zBQ _ (by omega),z1,h⟩))
   rw[List.set_set,Nat.add_zero] at hQ0
   have hG:=Lib.hid (hF1.setCellX (p:=⟨g,j * 4,none⟩) hYg (.string (zoL (n))))
   clear hF1 hP1
   go_wp2_with fail
   refine zdP (fun W=>OwnL 42 4 ClsO W Y (.slice (some ⟨g,0,none⟩) L cap) (ys.set j (⟨zoL (n),x.super,x.fields,x.methods⟩))∧Fr Y w W) ⟨hQ0.out,hG.out⟩ ?_
   rintro W2 ⟨hP,hF⟩
   clear hG hfz hg c0 hQ0
   refine(zoM _ _ (by omega)).mono ?_
   rintro e w2 ⟨rfl,hf⟩
   have hP2:=hP.keep zzJ hf (fun _ _ _ h=>h)
   have hF2:=hF.trans hf.of0 (fun _ _ h=>h)
   clear hP hF hf
   obtain⟨g',c',cs,Z0,he,hfz,hg,_,hC,_,hcs⟩:=hP2.at_ (i:=j) (by rw[List.length_set];exact hjl)
   obtain⟨vf,vm,Y1,Y2,rfl,_,_,_,_,hvf,hvm⟩:=hC
   simp only[List.getElem_set_self] at hvf hvm
   obtain⟨A_vf,c_vf,rfl,_,_⟩:=hvf.form
   obtain⟨A_vm,c_vm,rfl,_,_⟩:=hvm.form
   have c1:=hcs 1 (by omega)
   have c2:=hcs 2 (by omega)
   simp only[lz3,lz4,List.getElem_set_self] at c1 c2
   rw[List.length_set,hyl] at he
   cases he
   clear hcs hvf hvm
   have hQ1:=Lib.hid (hP2.putF zzJ (i:=j) (j:=1) (by rw[List.length_set];exact hjl) (by omega) (.string (zoL (n+1))) (x:=⟨zoL (n),zoL (n+1),x.fields,x.methods⟩) (fun w Z cs h=>by rw[List.getElem_set_self] at h;obtain⟨vf,vm,Y1,Y2,rfl,z0,z1,h⟩:=h;exact⟨vf,vm,Y1,Y2,rfl,z0,zBQ _ (by omega),h⟩))
   rw[List.set_set] at hQ1
   have hG:=Lib.hid (hF2.setCellX (p:=⟨g,j * 4+1,none⟩) hYg (.string (zoL (n+1))))
   clear hF2 hP2
   go_wp2_with fail
   obtain⟨Z,u,hu,hT,hZ,hk1⟩:=hQ1.out.open_ zzJ zBf (i:=j) (j:=2) (by rw[List.length_set];exact hjl) (by omega)
   simp only[List.getElem_set_self] at hu hT hk1
   rw[zB5 (by omega),c2] at hu
   cases hu
   refine(zB1 _ _ Z _ _ hT (by omega) (by omega)).mono ?_
   rintro e w3 ⟨rfl,hT1,hf⟩
   have hP3:=hk1 _ _ hT1 hf
   rw[List.set_set] at hP3
   have hF3:=hG.out.trans hf (fun b _ h=>(hZ b h).1)
   clear hG hfz hg hT hT1 hk1 hf hZ c1 c2 hQ1
   obtain⟨g',c',cs,Z0,he,hfz,hg,_,hC,_,hcs⟩:=hP3.at_ (i:=j) (by rw[List.length_set];exact hjl)
   obtain⟨vf,vm,Y1,Y2,rfl,_,_,_,_,hvf,hvm⟩:=hC
   simp only[List.getElem_set_self] at hvf hvm
   obtain⟨A_vf,c_vf,rfl,_,_⟩:=hvf.form
   obtain⟨A_vm,c_vm,rfl,_,_⟩:=hvm.form
   have c3:=hcs 3 (by omega)
   simp only[lz3,lz4,List.getElem_set_self] at c3
   rw[List.length_set,hyl] at he
   cases he
   clear hcs hvf hvm
   have hG:=Lib.hid hF3
   have hQ:=Lib.hid hP3
   clear hF3 hP3
   go_wp2_with fail
   obtain⟨Z,u,hu,hT,hZ,hk1⟩:=hQ.out.open_ zzJ zBg (i:=j) (j:=3) (by rw[List.length_set];exact hjl) (by omega)
   simp only[List.getElem_set_self] at hu hT hk1
   rw[c3] at hu
   cases hu
   refine(zCa _ _ Z _ _ hT (by omega) (by omega)).mono ?_
   rintro e w4 ⟨rfl,hT1,hf⟩
   have hP4:=hk1 _ _ hT1 hf
   rw[List.set_set] at hP4
   have hF4:=hG.out.trans hf (fun b _ h=>(hZ b h).1)
   clear hG hfz hg hT hT1 hk1 hf hZ c3 hQ
   obtain⟨g',c',cs,Z0,he,hfz,hg,_,hC,_,hcs⟩:=hP4.at_ (i:=j) (by rw[List.length_set];exact hjl)
   obtain⟨vf,vm,Y1,Y2,rfl,_,_,_,_,hvf,hvm⟩:=hC
   simp only[List.getElem_set_self] at hvf hvm
   obtain⟨A_vf,c_vf,rfl,_,_⟩:=hvf.form
   obtain⟨A_vm,c_vm,rfl,_,_⟩:=hvm.form
   rw[List.length_set,hyl] at he
   cases he
   clear hcs hvf hvm
   have hG:=Lib.hid hF4
   have hQ:=Lib.hid hP4
   clear hF4 hP4
   go_wp2
   go_roundw
   case rel=>exact⟨j+1,_,ys.set j (⟨zoL (n),zoL (n+1),((List.range x.fields.length).map fun i:Nat=>zBZ (n+1+1+i * 3)),(zB9 (n+1+1+(x.fields.length:Int) * 3) x.methods)⟩),by omega,by go_num,rfl,Lib.hid (by rw[hwx.out,hn.out];unfold zoD;omega),Lib.hid ⟨hM.out.next hxl (by rw[<-hx.out,<-hn.out];rfl),hQ.out,hG.out⟩⟩
   case measure=>simp[intOf];omega
  ·obtain rfl:j=L:=by omega
   have hT:=hT
   go_wp2
   go_ret
   obtain⟨hM,hO,hF⟩:=hT.out
   have hE:zCc k xs=ys:=by
    subst hL
    exact hM.all.symm
   exact⟨by rw[hn.out,hall];rfl,hE▸hO,hF⟩
def zCe (k:Int) (m:Kpr):Kpr:=⟨(zCc (k) m.owns),((List.range m.asks.length).map fun i:Nat=>zB2 (k+((sumL zoD m.owns:Nat):Int)+i * 2))⟩
def zCf (k:Int) (xs:List Kpr):List Kpr:=xs.mapIdx fun i m=>zCe (k+((sumN ((xs.map zoE).take i):Nat):Int)) m
theorem zCg (v:Value) (xs:List Kpr) (Y:Nat->Prop) (k:Int) (w:World) (h:OwnL 67 2 KprO w Y v (xs)) (h0:0≤k) (hk:k+((sumL zoE xs:Nat):Int)≤1000000000):
  Calls Tryz.prog 28 #[v,.int .i64 k] w (fun e w'=>e=.returned (.int .i64 (k+((sumL zoE xs:Nat):Int)))∧OwnL 67 2 KprO w' Y v (zCf k xs)∧Fr Y w w'):=by
 obtain⟨A,cap,rfl,hcap,hmax⟩:=h.form
 unfold maxLen at hmax
 have hOwn:∀q,zcP (.slice A xs.length cap)=some q->Y q:=h.choose_spec.choose_spec.own
 rw[<-zou] at hk ⊢
 have hl:=h
 have hsn:=fun j=>zov (xs.map zoE) j
 have hsl:=zow (xs.map zoE)
 have hall:sumN ((xs.map zoE).take xs.length)=sumN (xs.map zoE):=by rw[List.take_of_length_le (by simp)]
 have hXL:Hid (xs.length=xs.length):=Lib.hid rfl
 revert hXL
 generalize hL:xs.length=L at hcap hl hOwn hall ⊢
 intro _
 generalize hS:sumN (xs.map zoE)=S at *
 replace hS:=Lib.hid hS
 go_enter Tryz.func28,Tryz.ntmps28
 go_wp2
 go_loopw [5,1] (fun i l wr=>∃(j:Nat) (n:Int) (ys:List Kpr),j≤L∧i=.int .i64 j∧l=.int .i64 n∧Hid (n=k+((sumN ((xs.map zoE).take j):Nat):Int))∧Hid (MkJ (fun i m=>zCe (k+((sumN ((xs.map zoE).take i):Nat):Int)) m) xs j ys∧OwnL 67 2 KprO wr Y (.slice A L cap) (ys)∧Fr Y w wr)) (fun i _ _=>L-(intOf i).toNat)
 case atStart=>exact⟨0,k,xs,Nat.zero_le _,rfl,rfl,Lib.hid (by rw[List.take_zero];simp[sumN]),Lib.hid ⟨MkJ.zero _ xs,hl,Fr.refl _ _⟩⟩
 case round=>
  obtain⟨j,n,ys,hj,rfl,rfl,hn,hT⟩:=hrel
  by_cases hlt:j<L
  ·obtain⟨hM,hO,hF0⟩:=hT.out
   have hxl:j<xs.length:=by rw[hL];exact hlt
   have hyl:ys.length=L:=by rw[hM.1];exact hL
   have hjl:j<ys.length:=by omega
   obtain⟨x,hx⟩:∃x,x=xs[j]:=⟨_,rfl⟩
   have hyx:ys[j]=x:=by rw[hM.2 j hjl hxl,if_neg (by omega)];exact hx.symm
   have hP0:OwnL 67 2 KprO wr Y (.slice A L cap) (ys.set j x):=by rw[<-hyx,List.set_getElem_self];exact hO
   have hb:n+((zoE x:Nat):Int)≤1000000000:=by
    have h1:=hsn j (by simpa using hxl)
    have h2:=hsl (j+1)
    have h3:(xs.map zoE)[j]'(by simpa using hxl)=zoE x:=by rw[List.getElem_map,hx]
    have h4:=hn.out
    rw[h3] at h1
    omega
   have hwx:Hid (sumN ((xs.map zoE).take (j+1))=sumN ((xs.map zoE).take j)+zoE x):=Lib.hid (by rw[hsn j (by simpa using hxl),List.getElem_map,hx])
   unfold zoE at hb
   have hb0:0≤n:=by have:=hn.out;omega
   obtain⟨g,c,cs0,Z9,he,_,_,hYg,h9⟩:=hO.at_ hjl
   clear h9
   rw[hyl] at he
   cases he
   replace hM:=Lib.hid hM
   replace hx:=Lib.hid hx
   replace hyx:=Lib.hid hyx
   replace hall:=Lib.hid hall
   clear hl h hT hO hsn hsl hOwn
   obtain⟨g',c',cs,Z0,he,hfz,hg,_,hC,_,hcs⟩:=hP0.at_ (i:=j) (by rw[List.length_set];exact hjl)
   obtain⟨vo,va,Y1,Y2,rfl,_,_,hvo,hva⟩:=hC
   simp only[List.getElem_set_self] at hvo hva
   obtain⟨A_vo,c_vo,rfl,_,_⟩:=hvo.form
   obtain⟨A_va,c_va,rfl,_,_⟩:=hva.form
   have c0:=hcs 0 (by omega)
   simp only[lz3,Nat.add_zero] at c0
   rw[List.length_set,hyl] at he
   cases he
   clear hcs hvo hva
   have hG:=Lib.hid hF0
   have hQ:=Lib.hid hP0
   clear hF0 hP0
   go_wp2_with fail
   obtain⟨Z,u,hu,hT,hZ,hk1⟩:=hQ.out.open_ zzK zBh (i:=j) (j:=0) (by rw[List.length_set];exact hjl) (by omega)
   simp only[List.getElem_set_self,Nat.add_zero] at hu hT hk1
   rw[c0] at hu
   cases hu
   refine(zCd _ _ Z _ _ hT (by omega) (by omega)).mono ?_
   rintro e w1 ⟨rfl,hT1,hf⟩
   have hP1:=hk1 _ _ hT1 hf
   rw[List.set_set] at hP1
   have hF1:=hG.out.trans hf (fun b _ h=>(hZ b h).1)
   clear hG hfz hg hT hT1 hk1 hf hZ c0 hQ
   obtain⟨g',c',cs,Z0,he,hfz,hg,_,hC,_,hcs⟩:=hP1.at_ (i:=j) (by rw[List.length_set];exact hjl)
   obtain⟨vo,va,Y1,Y2,rfl,_,_,hvo,hva⟩:=hC
   simp only[List.getElem_set_self] at hvo hva
   obtain⟨A_vo,c_vo,rfl,_,_⟩:=hvo.form
   obtain⟨A_va,c_va,rfl,_,_⟩:=hva.form
   have c1:=hcs 1 (by omega)
   simp only[lz3,lz4] at c1
   rw[List.length_set,hyl] at he
   cases he
   clear hcs hvo hva
   have hG:=Lib.hid hF1
   have hQ:=Lib.hid hP1
   clear hF1 hP1
   go_wp2_with fail
   obtain⟨Z,u,hu,hT,hZ,hk1⟩:=hQ.out.open_ zzK zBi (i:=j) (j:=1) (by rw[List.length_set];exact hjl) (by omega)
   simp only[List.getElem_set_self] at hu hT hk1
   rw[c1] at hu
   cases hu
   refine(zB4 _ _ Z _ _ hT (by omega) (by omega)).mono ?_
   rintro e w2 ⟨rfl,hT1,hf⟩
   have hP2:=hk1 _ _ hT1 hf
   rw[List.set_set] at hP2
   have hF2:=hG.out.trans hf (fun b _ h=>(hZ b h).1)
   clear hG hfz hg hT hT1 hk1 hf hZ c1 hQ
   obtain⟨g',c',cs,Z0,he,hfz,hg,_,hC,_,hcs⟩:=hP2.at_ (i:=j) (by rw[List.length_set];exact hjl)
   obtain⟨vo,va,Y1,Y2,rfl,_,_,hvo,hva⟩:=hC
   simp only[List.getElem_set_self] at hvo hva
   obtain⟨A_vo,c_vo,rfl,_,_⟩:=hvo.form
   obtain⟨A_va,c_va,rfl,_,_⟩:=hva.form
   rw[List.length_set,hyl] at he
   cases he
   clear hcs hvo hva
   have hG:=Lib.hid hF2
   have hQ:=Lib.hid hP2
   clear hF2 hP2
   go_wp2
   go_roundw
   case rel=>exact⟨j+1,_,ys.set j (⟨(zCc (n) x.owns),((List.range x.asks.length).map fun i:Nat=>zB2 (n+((sumL zoD x.owns:Nat):Int)+i * 2))⟩),by omega,by go_num,rfl,Lib.hid (by rw[hwx.out,hn.out];unfold zoE;omega),Lib.hid ⟨hM.out.next hxl (by rw[<-hx.out,<-hn.out];rfl),hQ.out,hG.out⟩⟩
   case measure=>simp[intOf];omega
  ·obtain rfl:j=L:=by omega
   have hT:=hT
   go_wp2
   go_ret
   obtain⟨hM,hO,hF⟩:=hT.out
   have hE:zCf k xs=ys:=by
    subst hL
    exact hM.all.symm
   exact⟨by rw[hn.out,hall];rfl,hE▸hO,hF⟩
end Go.Proofs.YtpghfhjhjlmljaaGreat
