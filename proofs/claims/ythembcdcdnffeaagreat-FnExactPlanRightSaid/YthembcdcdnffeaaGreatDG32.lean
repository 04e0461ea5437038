/- The reference's l5Ins: what is known behind an instruction. -/
import Derived.Test.YthembcdcdnffeaaGreatDG31
set_option maxHeartbeats 8000000
set_option maxRecDepth 100000
namespace Go.Proofs.YthembcdcdnffeaaGreat
open Go.RowKit
theorem zid {p:Plan} {k:Int} {m:Mth} {f:Frm} {i:Ins} (h:i.op=7):insF p k m f i=if (getB p k i.name i.member).2=1 then zlM p k m f i else none:=by unfold insF zlM;simp[h]
theorem zie {p:Plan} {k:Int} {m:Mth} {f:Frm} {i:Ins} (h:i.op=8):insF p k m f i=if (getB p k i.name i.member).2=1 then zlN p k f i else none:=by unfold insF zlN;simp[h]
theorem zif {p:Plan} {k:Int} {m:Mth} {f:Frm} {i:Ins} (h:i.op=9):insF p k m f i=if (zd4 p k i.name i.member).2=1 then zcp p k m f i else none:=by unfold insF zcp;simp[h]
theorem zih {p:Plan} {k:Int} {m:Mth} {f:Frm} {i:Ins} (h:i.op=10):insF p k m f i=(popF p k f.stack (zel m.ret)).map (⟨f.locals,·⟩):=by unfold insF;simp[h]
theorem zii {i:Ins} (h:insB i=true):i.op=1∨i.op=2∨i.op=3∨i.op=4∨i.op=5∨i.op=6∨i.op=7∨i.op=8∨i.op=9∨i.op=10∨i.op=11∨i.op=12∨i.op=13∨i.op=14∨i.op=15:=by
 unfold insB at h
 split at h
 ·rename_i h1;simp[zft] at h1;omega
 ·split at h
  ·rename_i h1;simp[zfu] at h1;omega
  ·split at h
   ·rename_i h1;simp[zfv] at h1;omega
   ·simp[zfw] at h;omega
theorem zij {i:Ins} (h:insB i=true) (ho:i.op=7∨i.op=8∨i.op=9):namB i.member=true:=by
 unfold insB at h
 rcases ho with ho|ho|ho<;>(simp[zft,zfu,zfv,ho] at h;exact h.2)
theorem zik {l n:Int} {i:Ins} (h:zfV l n i=true) (ho:i.op=2∨i.op=3):0≤i.a∧i.a<l:=by
 unfold zfV at h
 rw[lz5] at h
 obtain⟨h1,h2⟩:=h
 unfold insB at h1
 rcases ho with ho|ho<;>(simp[zft,zfx,ho] at h1 h2;exact⟨by omega,h2⟩)
theorem zil (X Y:Nat->Prop) (p:Plan) (v vl vs:Value) (k0:Nat) (m:Mth) (ms:List Value) (f:Frm) (i:Ins) (w:World) (hp:lodB p=true) (h:Sl X w 2 (KprC X w) v p.keepers) (hk0:k0<p.keepers.length) (hm:MthC Y w ms m) (h5:m.stack≤5) (h6:m.locals≤6) (hI:FrmI w vl vs f) (hXr:∀q,rB vl vs q->X q) (hl:f.stack.length≤1000) (hll:(f.locals.length:Int)=m.locals) (hn:i.name.size≤maxLen) {n:Int} (hia:zfV m.locals n i=true) (ho:i.op≠7∧i.op≠8∧i.op≠9∧i.op≠10):
  Calls Tryz.prog 76 #[.agg #[v],.int .i64 k0,.agg ms.toArray,.agg #[vl,vs],.agg #[.int .i64 i.op,.int .i64 i.a,.string i.name,.string i.member]] w (zfb vl vs (insF p k0 m f i) w):=by
 have hib:insB i=true:=by unfold zfV at hia;rw[lz5] at hia;exact hia.1
 have hpc:=zik hia
 rcases zii hib with h1|h1|h1|h1|h1|h1|h1|h1|h1|h1|h1|h1|h1|h1|h1
 ·exact zmW X Y p v vl vs k0 m ms f i w hp h hk0 hm h5 hI hl hn h1
 ·obtain⟨a0,a1⟩:=hpc (.inl h1)
  exact zcB X Y p v vl vs k0 m ms f i w hp h hk0 hm h5 hI hl hn h1 a0 (by omega) (by omega)
 ·obtain⟨a0,a1⟩:=hpc (.inr h1)
  exact zcC X Y p v vl vs k0 m ms f i w hp h hk0 hm hI hXr hl h1 a0 (by omega) (by omega)
 ·exact zcz X Y p v vl vs k0 m ms f i w hp h hk0 hm h5 hI hl hn h1
 ·exact zmX X Y p v vl vs k0 m ms f i w hp h hk0 hm h5 hI hl hn h1
 ·exact zmY X Y p v vl vs k0 m ms f i w hp h hk0 hm h5 hI hl hn h1
 ·exact absurd h1 ho.1
 ·exact absurd h1 ho.2.1
 ·exact absurd h1 ho.2.2.1
 ·exact absurd h1 ho.2.2.2
 ·exact zm0 X Y p v vl vs k0 m ms f i w hp h hk0 hm h5 hI hl hn h1
 ·exact zmZ X Y p v vl vs k0 m ms f i w hp h hk0 hm h5 hI hl hn h1
 ·exact zm2 X Y p v vl vs k0 m ms f i w hp h hk0 hm h5 hI hl hn h1
 ·exact zm1 X Y p v vl vs k0 m ms f i w hp h hk0 hm h5 hI hl hn h1
 ·exact zcA X Y p v vl vs k0 m ms f i w hp h hk0 hm h5 hI hl hn h1
theorem zim (X Y:Nat->Prop) (p:Plan) (v vl vs:Value) (k0:Nat) (m:Mth) (ms:List Value) (f:Frm) (i:Ins) (w:World) (hp:lodB p=true) (h:Sl X w 2 (KprC X w) v p.keepers) (hk0:k0<p.keepers.length) (hm:MthC Y w ms m) (h5:m.stack≤5) (hI:FrmI w vl vs f) (hl:f.stack.length≤1000) (hn:i.name.size≤maxLen) (hx:i.member.size≤maxLen) (hib:insB i=true) (ho:i.op=7∨i.op=8∨i.op=9):
  Calls Tryz.prog 74 #[.agg #[v],.int .i64 k0,.agg ms.toArray,.agg #[vl,vs],.agg #[.int .i64 i.op,.int .i64 i.a,.string i.name,.string i.member]] w (zfb vl vs (insF p k0 m f i) w):=by
 have hmem:=zij hib ho
 rcases ho with h1|h1|h1
 ·rw[zid h1]
  exact(zlO X Y p v vl vs k0 m ms f i w hp h hk0 hm h5 hI hl hn hx hmem h1).mono fun _ _ h=>h.post
 ·rw[zie h1]
  exact(zcl X Y p v vl vs k0 m ms f i w hp h hk0 hm hI hl hn hx hmem h1).mono fun _ _ h=>h.post
 ·rw[zif h1]
  exact(zcr X Y p v vl vs k0 m ms f i w hp h hk0 hm h5 hI hl hn hx hmem h1).mono fun _ _ h=>h.post
theorem zin (X Y:Nat->Prop) (p:Plan) (v vl vs:Value) (k0:Nat) (m:Mth) (ms:List Value) (f:Frm) (i:Ins) (w:World) (hp:lodB p=true) (h:Sl X w 2 (KprC X w) v p.keepers) (hk0:k0<p.keepers.length) (hm:MthC Y w ms m) (h5:m.stack≤5) (h6:m.locals≤6) (hI:FrmI w vl vs f) (hXr:∀q,rB vl vs q->X q) (hl:f.stack.length≤1000) (hll:(f.locals.length:Int)=m.locals) (hn:i.name.size≤maxLen) (hx:i.member.size≤maxLen) {n:Int} (hia:zfV m.locals n i=true):
  Calls Tryz.prog 47 #[.agg #[v],.int .i64 k0,.agg ms.toArray,.agg #[vl,vs],.agg #[.int .i64 i.op,.int .i64 i.a,.string i.name,.string i.member]] w (zfb vl vs (insF p k0 m f i) w):=by
 have hib:insB i=true:=by unfold zfV at hia;rw[lz5] at hia;exact hia.1
 have hkw:=fun W (hW:Fr No w W)=>h.keep (R':=KprC X W) hW (fun _ h=>h.elim) (fun _ _ _ h=>h.keep hW (fun _ h=>h.elim))
 have hmw:=fun W (hW:Fr No w W)=>hm.keep (Y:=No) hW (fun _ h=>h.elim)
 have HM:=fun(ho:i.op=7∨i.op=8∨i.op=9) W (hW:Fr No w W)=>zim X Y p v vl vs k0 m ms f i W hp (hkw W hW) hk0 (hmw W hW) h5 (hI.keep0 hW) hl hn hx hib ho
 have HPl:=fun(ho:i.op≠7∧i.op≠8∧i.op≠9∧i.op≠10) W (hW:Fr No w W)=>zil X Y p v vl vs k0 m ms f i W hp (hkw W hW) hk0 (hmw W hW) h5 h6 (hI.keep0 hW) hXr hl hll hn hia ho
 have HR:=fun(hr:(zel m.ret).name.size≤maxLen) W (hW:Fr No w W)=>(zkJ X p v vl vs k0 f (zel m.ret) W hp (hkw W hW) hk0 (hI.keep0 hW) hl hr).mono (fun _ _ h=>PopP.n (hI.keep0 hW) h)
 have hO:=zih (p:=p) (k:=(k0:Int)) (m:=m) (f:=f) (i:=i)
 have hlt:=fun q (h:rB vl vs q)=>hI.lt h
 generalize insF p k0 m f i=O at *
 obtain⟨A,cap,rfl,_,_⟩:=h.form
 obtain⟨va,vc,vm,rfl,_,hrn,har,hcr,hxr⟩:=hm
 have hts:=zkS hrn
 have HT:=fun W=>zkM m.ret W hrn
 have HRw:=HR hts
 generalize zel m.ret=tg at *
 obtain⟨Aa,ca,rfl,_,_⟩:=har.form
 obtain⟨Ac,cc,rfl,_,_⟩:=hcr.form
 obtain⟨Ax,cx,rfl,_,_⟩:=hxr.form
 obtain⟨Al,cl,As,cs,rfl,rfl,_,_,_,_⟩:=hI.form
 obtain⟨io,ia,inm,im⟩:=i
 dsimp only at *
 clear h hkw hmw har hcr hxr hI HR hia
 obtain⟨wA,hwA⟩:∃wA,wA=(((((w.alloc (.cells #[.slice A p.keepers.length cap] 32)).alloc (.cells #[.string m.name,.slice Aa m.args.length ca,.int .i64 m.ret.kind,.string m.ret.name,.int .i64 m.locals,.int .i64 m.stack,.slice Ac m.code.length cc,.slice Ax m.maps.length cx] 60)).alloc (.cells #[.slice Al f.locals.length cl,.slice As f.stack.length cs] tFr)).alloc (.cells #[.int .i64 io,.int .i64 ia,.string inm,.string im] 101)).alloc (.cells #[.slice none 0 0,.slice none 0 0] tFr)):=⟨_,rfl⟩
 have hfA:Fr No w wA:=hwA▸frc
 have hsA:wA.heap.size=w.heap.size+5:=by rw[hwA];simp
 have B0:=(hwA▸bxc:Bx wA w.heap.size 32 #[.slice A p.keepers.length cap])
 have B1:=(hwA▸bxc:Bx wA (w.heap.size+1) 60 #[.string m.name,.slice Aa m.args.length ca,.int .i64 m.ret.kind,.string m.ret.name,.int .i64 m.locals,.int .i64 m.stack,.slice Ac m.code.length cc,.slice Ax m.maps.length cx])
 have B2:=(hwA▸bxc:Bx wA (w.heap.size+2) tFr #[.slice Al f.locals.length cl,.slice As f.stack.length cs])
 have B4:=(hwA▸bxc:Bx wA (w.heap.size+4) tFr #[.slice none 0 0,.slice none 0 0])
 have hfin:∀w1 e (A1 A2:Option Addr) (n1 c1 n2 c2:Nat),zfb (.slice Al f.locals.length cl) (.slice As f.stack.length cs) O wA e w1->e=.returned (.tuple #[.agg #[.slice A1 n1 c1,.slice A2 n2 c2],.bool O.isSome])->zfb (.slice Al f.locals.length cl) (.slice As f.stack.length cs) O w e ((w1.setCell ⟨w.heap.size+4,0,none⟩ (.slice A1 n1 c1)).setCell ⟨w.heap.size+4,1,none⟩ (.slice A2 n2 c2)):=fun w1 e A1 A2 n1 c1 n2 c2 hres he=>by
  subst he
  have C4:=B4.keepX hres.1 (fun h=>by have:=hlt _ h;omega)
  replace hres:=hres.from hfA
  have hst:Fr (fun b=>b=w.heap.size+4) w1 ((w1.setCell ⟨w.heap.size+4,0,none⟩ (.slice A1 n1 c1)).setCell ⟨w.heap.size+4,1,none⟩ (.slice A2 n2 c2)):=((Fr.refl (fun b=>b=w.heap.size+4) w1).setCellX (p:=⟨w.heap.size+4,0,none⟩) (Eq.refl (w.heap.size+4)) _).setCellX (p:=⟨w.heap.size+4,1,none⟩) (Eq.refl (w.heap.size+4)) _
  exact⟨hres.1.trans hst (fun b hb e=>by omega),hres.2.store C4⟩
 go_enter Tryz.func47,Tryz.ntmps47
 have hcase:(io=7∨io=8∨io=9)∨io=10∨(io≠7∧io≠8∧io≠9∧io≠10):=by omega
 rcases hcase with ho|ho|ho
 ·have HC:=HM ho wA hfA
  clear HM HPl HRw HT hO B0 B1 B2
  rcases ho with rfl|rfl|rfl
  all_goals
   go_wp2_with fail
   rw[<-hwA]
   replace hwA:=Lib.hid hwA
   refine HC.mono ?_
   rintro e w1 hres
   have C4:=B4.keepX hres.1 (fun h=>by have:=hlt _ h;omega)
   obtain⟨A1,n1,c1,A2,n2,c2,rfl⟩:=hres.2.is
   have hf:=hfin w1 _ A1 A2 n1 c1 n2 c2 hres rfl
   obtain⟨e0,e1⟩:=C4.c2
   have ef:=fun i=>C4.frozen i
   have el:=C4.lt
   replace hf:=Lib.hid hf
   clear HC hfin hres
   go_wp2
   refine bodyPost_ret (v:=.tuple #[.agg #[.slice A1 n1 c1,.slice A2 n2 c2],.bool O.isSome]) (by simp[results,Tryz.results47,go_sem, *]) rfl ?_
   exact hf.out
 ·subst ho
  have hO10:=hO rfl
  rw[<-hO10] at HRw
  have K0:=B0.r1
  have K1:=B1.r8
  have K2:=B2.r2
  clear HM HPl hO B0 B1 B2
  replace hfin:=Lib.hid hfin
  go_wp2_with fail
  rw[<-hwA]
  replace hwA:=Lib.hid hwA
  refine zn0 9 37 [mV (.agg #[.slice A p.keepers.length cap]),mV (.int .i64 k0),mV (.agg #[.slice Al f.locals.length cl,.slice As f.stack.length cs]),mV (.pointer (some ⟨w.heap.size+1,2,none⟩)),mV (.agg #[.int .i64 m.ret.kind,.string m.ret.name]),mV (.agg #[.int .i64 tg.kind,.string tg.name]),mC (resV (.slice Al f.locals.length cl) (.slice As f.stack.length cs) O wA.heap.size) (zlF _ _ _ _),mC (resA (.slice Al f.locals.length cl) (.slice As f.stack.length cs) O wA.heap.size) (zlG _ _ _ _),mV (.bool O.isSome)] (by kernel_rfl) (by kernel_rfl) (by simp) ?_ ?_
  ·refine hopC ?_ <| hopC ?_ <| hopC ?_ <| hopC ?_ <| hopC ?_ <| hopC ?_ <| hopC ?_ <| hopC ?_ <| hopC ?_ <| hopZ
   all_goals (intro a' W hW hoff hdep;have hbs:=hW.size;have H5:=hoff 5 rfl;have H1:=hoff 1 rfl;have H8:=hoff 8 rfl;have H7:=hoff 7 rfl;refine nE rfl ?_)
   ·clear hoff hdep;simp[execOp,Act.eval,go_sem,zaa, *];exact fr1 rfl
   ·simp[execOp,Act.eval,H1,go_sem,zaa];exact fr1 rfl
   ·clear hoff hdep;simp[execOp,Act.eval,go_sem,zaa, *];exact fr1 rfl
   ·simp[execOp,Act.eval,H7,go_sem,zaa];exact fr1 rfl
   ·have D31:_=_:=hdep 3 31 rfl;clear hoff hdep;simp[execOp,Act.eval,go_sem,zaa, *];exact fr1 rfl
   ·have D32:_=_:=hdep 4 32 rfl;simp[Act.eval,D32,go_sem,zaa];exact(HT W).mono fun e w'' h=>⟨_,h.1,h.2,rfl⟩
   ·have D28:_=_:=hdep 0 28 rfl;have D29:_=_:=hdep 1 29 rfl;have D30:_=_:=hdep 2 30 rfl;have D33:_=_:=hdep 5 33 rfl;simp[Act.eval,D28,D29,D30,D33,go_sem,zaa];exact(HRw W (hfA.trans0 hW)).mono fun e w'' h=>zlH hW rfl h
   ·obtain⟨A1,n1,c1,A2,n2,c2,D34,hr⟩:(resV (.slice Al f.locals.length cl) (.slice As f.stack.length cs) O wA.heap.size) _ W:=hdep 6 34 rfl;simp[execOp,Act.eval,D34,go_sem,zaa];exact⟨Fr.refl _ _,_,_,_,_,_,_,rfl,hr⟩
   ·obtain⟨A1,n1,c1,A2,n2,c2,D34,hr⟩:(resV (.slice Al f.locals.length cl) (.slice As f.stack.length cs) O wA.heap.size) _ W:=hdep 6 34 rfl;simp[execOp,Act.eval,D34,go_sem,zaa];exact fr1 rfl
  intro vs WR hWR hv hne
  obtain⟨A1R6,n1R6,c1R6,A2R6,n2R6,c2R6,e6,hrR6⟩:=hv 6 (by omega)
  obtain⟨A1R7,n1R7,c1R7,A2R7,n2R7,c2R7,e7,hrR7⟩:=hv 7 (by omega)
  simp only[lz6,List.drop_zero,znM,znK,znR,Nat.zero_add,Nat.reduceAdd,e6,e7]
  simp only[Act.put,lz0,lz1,lz2]
  clear e6 e7 hv
  have C4:=B4.keep hWR
  have hf:=hfin.out WR _ A1R7 A2R7 n1R7 c1R7 n2R7 c2R7 ⟨hWR.of0,hrR7⟩ rfl
  obtain⟨e0,e1⟩:=C4.c2
  have ef:=fun i=>C4.frozen i
  have el:=C4.lt
  replace hf:=Lib.hid hf
  clear K0 K1 K2 HRw HT hrR7 hfin
  go_wp2
  refine bodyPost_ret (v:=.tuple #[.agg #[.slice A1R7 n1R7 c1R7,.slice A2R7 n2R7 c2R7],.bool O.isSome]) (by simp[results,Tryz.results47,go_sem, *]) rfl ?_
  exact hf.out
 ·have HC:=HPl ho wA hfA
  have h7:(io == 7)=false:=by simpa using ho.1
  have h8:(io == 8)=false:=by simpa using ho.2.1
  have h9:(io == 9)=false:=by simpa using ho.2.2.1
  have h10:(io == 10)=false:=by simpa using ho.2.2.2
  clear HM HPl HRw HT hO B0 B1 B2 ho
  go_wp2_with fail
  rw[<-hwA]
  replace hwA:=Lib.hid hwA
  refine HC.mono ?_
  rintro e w1 hres
  have C4:=B4.keepX hres.1 (fun h=>by have:=hlt _ h;omega)
  obtain⟨A1,n1,c1,A2,n2,c2,rfl⟩:=hres.2.is
  have hf:=hfin w1 _ A1 A2 n1 c1 n2 c2 hres rfl
  obtain⟨e0,e1⟩:=C4.c2
  have ef:=fun i=>C4.frozen i
  have el:=C4.lt
  replace hf:=Lib.hid hf
  clear HC hfin hres
  go_wp2
  refine bodyPost_ret (v:=.tuple #[.agg #[.slice A1 n1 c1,.slice A2 n2 c2],.bool O.isSome]) (by simp[results,Tryz.results47,go_sem, *]) rfl ?_
  exact hf.out
theorem zio (X Y Z:Nat->Prop) (p:Plan) (v u1 u2:Value) (k0:Nat) (xs ys:List Tag) (w:World) (hp:lodB p=true) (h:Sl X w 2 (KprC X w) v p.keepers) (hk0:k0<p.keepers.length) (hx:Sl Y w 2 TagC u1 xs) (hy:Sl Z w 2 TagC u2 ys):
  Calls Tryz.prog 73 #[.agg #[v],.int .i64 k0,u1,u2] w (zgm (zen p k0 xs ys) w):=by
 obtain⟨A,cap,rfl,_,_⟩:=h.form
 obtain⟨Ax,cx,rfl,_,hlx⟩:=hx.form
 obtain⟨Ay,cy,rfl,_,hly⟩:=hy.form
 unfold maxLen at hlx hly
 by_cases hle:xs.length=ys.length
 ·obtain⟨wA,hwA⟩:∃wA,wA=w.alloc (.cells #[.slice A p.keepers.length cap] 32):=⟨_,rfl⟩
  have hfA:Fr No w wA:=hwA▸frc
  have K0:=(hwA▸bxc:Bx wA w.heap.size 32 #[.slice A p.keepers.length cap]).r1
  have HM:=fun(i:Nat) (h1:i<xs.length) (h2:i<ys.length) W (hW:Fr No w W) (z1:xs[i].name.size≤maxLen) (z2:ys[i].name.size≤maxLen)=>znl X p _ k0 xs[i] ys[i] W hp (h.keep (R':=KprC X W) hW (fun _ h=>h.elim) (fun _ _ _ h=>h.keep hW (fun _ h=>h.elim))) hk0 z1 z2
  have hY:=fun(hm:∀(i:Nat) (h1:i<xs.length) (h2:i<ys.length),mayK p k0 xs[i] ys[i]=true)=>zep hle hm
  have hN:=fun(i:Nat) (h1:i<xs.length) (h2:i<ys.length) (hm:mayK p k0 xs[i] ys[i]=false)=>zeq i h1 h2 hm
  generalize zen p k0 xs ys=V at *
  clear h
  go_enter Tryz.func73,Tryz.ntmps73
  go_wp2
  rw[<-hwA]
  replace hwA:=Lib.hid hwA
  go_loopw [9] (fun i wr=>∃j:Nat,j≤xs.length∧i=.int .i64 j∧Hid (∀(i:Nat) (h1:i<xs.length) (h2:i<ys.length),i<j->mayK p k0 xs[i] ys[i]=true)∧Fr No wA wr) (fun i _=>xs.length-(intOf i).toNat)
  case atStart=>exact⟨0,Nat.zero_le _,rfl,fun i _ _ h=>by omega,Fr.refl _ _⟩
  case round=>
   obtain⟨j,hj,rfl,hn,hf⟩:=hrel
   by_cases hlt:j<xs.length
   ·have hlt2:j<ys.length:=by omega
    obtain⟨b,bf,rfl,_,c0,c1,z⟩:=(hx.keep (R':=TagC) (hfA.trans0 hf) (fun _ h=>h.elim) (fun _ _ _ h=>h)).tag hlt
    obtain⟨d,df,rfl,_,e0,e1,y⟩:=(hy.keep (R':=TagC) (hfA.trans0 hf) (fun _ h=>h.elim) (fun _ _ _ h=>h)).tag hlt2
    clear hx hy
    have H:=fun W (hW:Fr No wr W)=>HM j hlt hlt2 W ((hfA.trans0 hf).trans0 hW) z y
    have hN2:=hN j hlt hlt2
    have hn2:mayK p k0 xs[j] ys[j]=true->Hid (∀(i:Nat) (h1:i<xs.length) (h2:i<ys.length),i<j+1->mayK p k0 xs[i] ys[i]=true):=fun hm i h1 h2 hi=>by
     by_cases he:i=j
     ·subst he;exact hm
     ·exact hn.out i h1 h2 (by omega)
    clear hn HM hN hY
    generalize mayK p k0 xs[j] ys[j]=M at *
    generalize xs[j]=x at *
    generalize ys[j]=t at *
    have c0:=fun W (h:Fr No wr W)=>h.keep0 c0
    have c1:=fun W (h:Fr No wr W)=>h.keep0 c1
    have e0:=fun W (h:Fr No wr W)=>h.keep0 e0
    have e1:=fun W (h:Fr No wr W)=>h.keep0 e1
    have K0:=fun W (h:Fr No wr W)=>(K0 W (hf.trans0 h)).1
    go_wp2_with fail
    first
     | ((refine zgc (X:=No) (by kernel_rfl) (by kernel_rfl) ?_);(repeat(first|(apply zgb;(focus (exact rfl));simp only[Act.put,lz0,lz1,lz2])|(apply zga;(focus (exact rfl));(focus (intro W hW;go_simp;first|done|exact rfl|(go_at_call 121;exact(H W hW).mono (fun _ _ h=>⟨h.1,hW.trans0 h.2⟩))));simp only[Act.put,lz0,lz1,lz2])));refine wpQuiet_nil ?_)
    intro w1 hf1
    clear c0 c1 e0 e1 H
    cases M
    ·have hV:=hN2 rfl
     clear hN2 hn2
     go_wp2
     go_ret
     exact .mk hV.symm (by exact frc)
    ·have hV:=hn2 rfl
     clear hN2 hn2
     go_wp2
     go_roundw
     case rel=>exact⟨j+1,by omega,by go_num,hV,by exact frc⟩
     case measure=>simp[intOf];omega
   ·clear hx hy HM hN
    have hV:=hY (fun i h1 h2=>hn.out i h1 h2 (by omega))
    clear hY hn
    go_wp2
    go_ret
    exact .mk hV.symm (by exact frc)
 ·have hV:=zeo (p:=p) (k:=k0) hle
  have hle2:¬((xs.length:Int)=ys.length):=by omega
  clear h hx hy
  go_enter Tryz.func73,Tryz.ntmps73
  go_wp2
  go_ret
  exact .mk hV.symm frc
theorem ziq (X Y Z:Nat->Prop) (p:Plan) (v fl fs ml ms:Value) (k0:Nat) (f:Frm) (x:Mp) (w:World) (hp:lodB p=true) (h:Sl X w 2 (KprC X w) v p.keepers) (hk0:k0<p.keepers.length) (h1:Sl Y w 2 TagC fl f.locals) (h2:Sl Y w 2 TagC fs f.stack) (g1:Sl Z w 2 TagC ml x.locals) (g2:Sl Z w 2 TagC ms x.stack):
  Calls Tryz.prog 45 #[.agg #[v],.int .i64 k0,.agg #[fl,fs],.agg #[.int .i64 x.at_,ml,ms]] w (zgm (zcH p k0 f x) w):=by
 have H:=fun W (hW:Fr No w W)=>zio X Y Z p v fl ml k0 f.locals x.locals W hp (h.keep (R':=KprC X W) hW (fun _ h=>h.elim) (fun _ _ _ h=>h.keep hW (fun _ h=>h.elim))) hk0 (h1.keep hW (fun _ h=>h.elim) (fun _ _ _ h=>h)) (g1.keep hW (fun _ h=>h.elim) (fun _ _ _ h=>h))
 have G:=fun W (hW:Fr No w W)=>zio X Y Z p v fs ms k0 f.stack x.stack W hp (h.keep (R':=KprC X W) hW (fun _ h=>h.elim) (fun _ _ _ h=>h.keep hW (fun _ h=>h.elim))) hk0 (h2.keep hW (fun _ h=>h.elim) (fun _ _ _ h=>h)) (g2.keep hW (fun _ h=>h.elim) (fun _ _ _ h=>h))
 obtain⟨A,cap,rfl,_,_⟩:=h.form
 obtain⟨A1,c1,rfl,_,_⟩:=h1.form
 obtain⟨A2,c2,rfl,_,_⟩:=h2.form
 obtain⟨A3,c3,rfl,_,_⟩:=g1.form
 obtain⟨A4,c4,rfl,_,_⟩:=g2.form
 have hV:zcH p k0 f x=(zen p k0 f.locals x.locals&&zen p k0 f.stack x.stack):=rfl
 rw[hV]
 clear h h1 h2 g1 g2 hV
 obtain⟨wA,hwA⟩:∃wA,wA=(((w.alloc (.cells #[.slice A p.keepers.length cap] 32)).alloc (.cells #[.slice A1 f.locals.length c1,.slice A2 f.stack.length c2] 77)).alloc (.cells #[.int .i64 x.at_,.slice A3 x.locals.length c3,.slice A4 x.stack.length c4] 93)):=⟨_,rfl⟩
 have hfA:Fr No w wA:=hwA▸frc
 have K0:=(hwA▸bxc:Bx wA w.heap.size 32 #[.slice A p.keepers.length cap]).r1
 have K1:=(hwA▸bxc:Bx wA (w.heap.size+1) 77 #[.slice A1 f.locals.length c1,.slice A2 f.stack.length c2]).r2
 have K2:=(hwA▸bxc:Bx wA (w.heap.size+2) 93 #[.int .i64 x.at_,.slice A3 x.locals.length c3,.slice A4 x.stack.length c4]).r3
 generalize zen p k0 f.locals x.locals=a at *
 generalize zen p k0 f.stack x.stack=b at *
 cases a
 ·clear G
  go_enter Tryz.func45,Tryz.ntmps45
  go_wp2_with fail
  rw[<-hwA]
  replace hwA:=Lib.hid hwA
  refine(H _ hfA).mono ?_
  rintro e w1 ⟨rfl,hf1⟩
  go_wp2
  go_ret
  exact .mk rfl (by exact frc)
 ·go_enter Tryz.func45,Tryz.ntmps45
  go_wp2_with fail
  rw[<-hwA]
  replace hwA:=Lib.hid hwA
  refine(H _ hfA).mono ?_
  rintro e w1 ⟨rfl,hf1⟩
  have z0:=K0 w1 hf1
  have z1:=K1 w1 hf1
  have z2:=K2 w1 hf1
  go_wp2_with fail
  refine(G _ (hfA.trans0 hf1)).mono ?_
  rintro e w2 ⟨rfl,hf2⟩
  clear z0 z1 z2
  go_wp2
  go_ret
  exact .mk (by cases b<;>rfl) (by exact frc)
def zir (X:Nat->Prop) (o:Option Mp) (w:World) (e:Ending) (w':World):Prop:=Fr No w w'∧match o with
 | some x=>∃vl vs,e=.returned (.tuple #[.agg #[.int .i64 x.at_,vl,vs],.bool true])∧Sl X w' 2 TagC vl x.locals∧Sl X w' 2 TagC vs x.stack
 | none=>e=.returned (.tuple #[.agg #[.int .i64 0,.slice none 0 0,.slice none 0 0],.bool false])
theorem zis {xs:List Mp} {j:Int} {k:Nat} (hk:k<xs.length) (hn:∀x∈xs.take k,(x.at_ == j)=false) (hm:(xs[k].at_ == j)=true):xs.find? (fun x=>x.at_ == j)=some xs[k]:=by
 have e:xs=xs.take k ++ xs[k] :: xs.drop (k+1):=by rw[<-List.drop_eq_getElem_cons hk,List.take_append_drop]
 conv=>lhs;rw[e]
 rw[List.find?_append,List.find?_eq_none.2 (fun x hx=>by simpa using hn x hx),List.find?_cons,hm]
 rfl
theorem zit (X:Nat->Prop) (m:Mth) (cs:List Value) (j:Int) (w:World) (h:MthC X w cs m):
  Calls Tryz.prog 44 #[.agg cs.toArray,.int .i64 j] w (zir X (mapF m j) w):=by
 obtain⟨va,vc,vm,rfl,_,_,ha,hc,hm⟩:=h
 obtain⟨A1,c1,rfl,_,_⟩:=ha.form
 obtain⟨A2,c2,rfl,_,_⟩:=hc.form
 obtain⟨A3,c3,rfl,_,hlen⟩:=hm.form
 unfold maxLen at hlen
 clear ha hc
 have hF:mapF m j=m.maps.find? (fun x=>x.at_ == j):=rfl
 have hN:=fun(hn:∀x∈m.maps,(x.at_ == j)=false)=>(hF.trans (List.find?_eq_none.2 (fun x hx=>by simpa using hn x hx)):mapF m j=none)
 have hY:=fun(k:Nat) (hk:k<m.maps.length) (hn:∀x∈m.maps.take k,(x.at_ == j)=false) (h9:(m.maps[k].at_ == j)=true)=>(hF.trans (zis hk hn h9):mapF m j=some m.maps[k])
 clear hF
 obtain⟨wA,hwA⟩:∃wA,wA=((w.alloc (.cells #[.string m.name,.slice A1 m.args.length c1,.int .i64 m.ret.kind,.string m.ret.name,.int .i64 m.locals,.int .i64 m.stack,.slice A2 m.code.length c2,.slice A3 m.maps.length c3] 60)).alloc (.cells #[.int .i64 0,.slice none 0 0,.slice none 0 0] 93)):=⟨_,rfl⟩
 have hfA:Fr No w wA:=hwA▸frc
 have B0:=(hwA▸bxc:Bx wA w.heap.size 60 #[.string m.name,.slice A1 m.args.length c1,.int .i64 m.ret.kind,.string m.ret.name,.int .i64 m.locals,.int .i64 m.stack,.slice A2 m.code.length c2,.slice A3 m.maps.length c3])
 have B1:=(hwA▸bxc:Bx wA (w.heap.size+1) 93 #[.int .i64 0,.slice none 0 0,.slice none 0 0])
 go_enter Tryz.func44,Tryz.ntmps44
 go_wp2
 rw[<-hwA]
 replace hwA:=Lib.hid hwA
 go_loopw [6] (fun i wr=>∃k:Nat,k≤m.maps.length∧i=.int .i64 k∧Hid (∀x∈m.maps.take k,(x.at_ == j)=false)∧Fr No wA wr) (fun i _=>m.maps.length-(intOf i).toNat)
 case atStart=>exact⟨0,Nat.zero_le _,rfl,by simp[Hid],Fr.refl _ _⟩
 case round=>
  obtain⟨k,hk,rfl,hn,hf⟩:=hrel
  have m7:=(B0.keep hf).cell 7
  simp only[List.getElem?_toArray,lz4,lz3] at m7
  obtain⟨r0,r1,r2⟩:=(B1.keep hf).c3
  have rf:=fun o=>(B1.keep hf).frozen o
  have ml:=(B0.keep hf).lt
  have rl:=(B1.keep hf).lt
  by_cases hlt:k<m.maps.length
  ·obtain⟨b,off,Al,cl,As,cs,rfl,_,e0,e1,e2,g1,g2,_⟩:=hm.map hlt
   have e0:=(hfA.trans0 hf).keep0 e0
   have e1:=(hfA.trans0 hf).keep0 e1
   have e2:=(hfA.trans0 hf).keep0 e2
   clear hm
   cases hq:(m.maps[k].at_ == j)
   ·have hV:Hid (∀x∈m.maps.take (k+1),(x.at_ == j)=false):=by
     intro x hx
     rw[List.take_add_one,List.mem_append] at hx
     rcases hx with hx|hx
     ·exact hn.out x hx
     ·rw[lz8 hlt] at hx
      simp only[Option.toList_some,List.mem_singleton] at hx
      rw[hx];exact hq
    clear hY hN hn g1 g2
    generalize m.maps[k]=x at *
    go_wp2
    go_roundw
    case rel=>exact⟨k+1,by omega,by go_num,hV,by exact frc⟩
    case measure=>simp[intOf];omega
   ·have hV:=hY k hlt hn.out hq
    clear hY hN hn
    generalize m.maps[k]=x at *
    rw[hV]
    go_wp2
    refine bodyPost_ret (v:=.tuple #[.agg #[.int .i64 x.at_,.slice Al x.locals.length cl,.slice As x.stack.length cs],.bool true]) (by simp[results,Tryz.results44,go_sem, *]) rfl ?_
    have hfz:Fr No w (((wr.setCell ⟨w.heap.size+1,0,none⟩ (.int .i64 x.at_)).setCell ⟨w.heap.size+1,1,none⟩ (.slice Al x.locals.length cl)).setCell ⟨w.heap.size+1,2,none⟩ (.slice As x.stack.length cs)):=frc
    exact⟨hfz,_,_,rfl,g1.keep hfz (fun _ h=>h.elim) (fun _ _ _ h=>h),g2.keep hfz (fun _ h=>h.elim) (fun _ _ _ h=>h)⟩
  ·have hV:=hN (fun x hx=>hn.out x (by rwa [List.take_of_length_le (by omega)]))
   clear hY hN hn hm
   go_wp2
   refine bodyPost_ret (v:=.tuple #[.agg #[.int .i64 0,.slice none 0 0,.slice none 0 0],.bool false]) (by simp[results,Tryz.results44,go_sem, *]) rfl ?_
   refine⟨frc,?_⟩
   rw[hV]
def copV (xs:List Tag) (base:Nat):Value->World->Prop:=fun v W=>∃A c,v=.slice A xs.length c∧zcX W tTag v xs∧∀q,zcP v=some q->base≤q∧0<xs.length
theorem ziu (xs:List Tag) (base:Nat):MonP (copV xs base):=fun _ _ _ ⟨A,c,h1,h2,h3⟩ hf=>⟨A,c,h1,h2.keep hf (fun _ _ h=>h),h3⟩
theorem ziv {xs:List Tag} {base:Nat} {v:Value} {W:World} (h:copV xs base v W) (h0:0<xs.length):zcP v=some (bk v)∧bk v<W.heap.size:=by
 obtain⟨A,c,h1,h2,h3⟩:=h
 obtain⟨g,c',cur,rfl,_,_,hb,_,_,hq⟩:=h2.1.at_ h0
 exact⟨hq,h2.1.lt hq⟩
theorem ziw {xs:List Tag} {base:Nat} {v:Value} {W:World} {b:Bool} (hb:b=true) (hb2:b=decide (0<xs.length)) (h:copV xs base v W):bk v<W.heap.size:=(ziv h (by rw[hb] at hb2;simpa using hb2.symm)).2
def empV:Value->World->Prop:=fun v _=>∃b,v=.slice (some ⟨b,0,none⟩) 0 0
theorem zix:MonP empV:=fun _ _ _ h _=>h
theorem ziy {o:Oper} {a':Act} {W:World} {s x:Operand} {X:Nat->Prop} {v:Value} {xs:List Tag} {base:Nat} {A0:Addr}
  (ho:o.op=.call { callee:=.builtin .append,args:=#[s,x],argTypes:=#[75,75] }) (hs:a'.eval s=.slice (some A0) 0 0) (hx:a'.eval x=v) (h:Sl X W 2 TagC v xs) (hl:xs.length≤1000) (hb:base≤W.heap.size):
  zaa Tryz.prog (fun v W'=>Fr No W W'∧copV xs base v W'∧(decide (0<xs.length)=true->W.heap.size≤bk v)) ((execOp a'.eval o).run Tryz.prog W):=by
 have hsm:=h.small
 obtain⟨i0,hi,hz0,hz1,hz2⟩:=info_parts ze8
 rcases Nat.eq_zero_or_pos xs.length with h0|h0
 ·obtain rfl:=List.eq_nil_of_length_eq_zero h0
  obtain⟨A,cap,rfl,_,_⟩:=h.form
  have hr:=zcT (P:=Tryz.prog) W 75 o.type 116 i0 Tryz.underlying75 hi (some A0) A cap
  unfold execOp
  simp only[List.length_nil] at hx
  simp only[ho,resolve,invoke,builtin,Sem.run_bind,Sem.run_pure,Result.andThen_ok,List.map_toArray,List.map_cons,List.map_nil,hs,hx,hr,zaa]
  exact⟨Fr.refl _ _,⟨_,_,rfl,⟨.inr ⟨rfl,rfl,_,rfl⟩,fun _ h=>absurd h (by simp)⟩,fun q hq=>by rw[zcQ,if_pos rfl] at hq;cases hq⟩,fun h=>by simp at h⟩
 ·obtain⟨A,cap,rfl,_,_⟩:=h.form
  obtain⟨b,off,cs,hA,_,_,_⟩:=h.cells h0
  cases hA
  obtain⟨g',cap',w',hr,hrow,hcap,hgf,hor⟩:=zcR (P:=Tryz.prog) W 75 o.type tTag i0 (.agg #[.int .i64 0,.string ⟨#[]⟩]) 2 24 Tryz.underlying75 hi hz0 hz1 hz2 rfl (by decide) (.slice (some A0) 0 0) 0 [] (.inr ⟨rfl,rfl,_,rfl⟩) ⟨b,off,none⟩ xs.length cap (xs.flatMap zcU) (zcW xs) h.news (by intro u hu;obtain⟨t,_,ht⟩:=List.mem_flatMap.1 hu;simp only[zcU,List.mem_cons,List.not_mem_nil,or_false] at ht;rcases ht with rfl|rfl<;>rfl) h0 (by unfold maxLen;omega) (by omega)
  simp only[Nat.zero_add,List.nil_append] at hrow hcap hr
  have hor2:g'=W.heap.size:=by
   rcases hor with h9|h9
   ·rw[zcQ,if_pos rfl] at h9;cases h9
   ·exact h9
  unfold execOp
  simp only[ho,resolve,invoke,builtin,Sem.run_bind,Sem.run_pure,Result.andThen_ok,List.map_toArray,List.map_cons,List.map_nil,hs,hx,hr,zaa]
  refine⟨hgf.mono (fun _ _ e=>by rw[zcQ,if_pos rfl] at e;cases e),⟨_,_,rfl,⟨hrow,hsm⟩,fun q hq=>?_⟩,fun _=>?_⟩
  ·rw[zcQ,if_neg (by omega)] at hq
   cases hq
   exact⟨by show base≤g';omega,h0⟩
  ·show W.heap.size≤g'
   omega
def CopP (f:Frm) (w:World) (e:Ending) (w':World):Prop:=Fr No w w'∧∃Al cl As cs,e=.returned (.agg #[.slice Al f.locals.length cl,.slice As f.stack.length cs])∧FrmI w' (.slice Al f.locals.length cl) (.slice As f.stack.length cs) f∧∀q,rB (.slice Al f.locals.length cl) (.slice As f.stack.length cs) q->w.heap.size≤q
theorem ziz (Y:Nat->Prop) (vl vs:Value) (f:Frm) (w:World) (h1:Sl Y w 2 TagC vl f.locals) (h2:Sl Y w 2 TagC vs f.stack) (hl:f.stack.length≤1000) (hll:f.locals.length≤1000):
  Calls Tryz.prog 46 #[.agg #[vl,vs]] w (CopP f w):=by
 obtain⟨Al,cl,rfl,_,_⟩:=h1.form
 obtain⟨As,cs,rfl,_,_⟩:=h2.form
 obtain⟨wA,hwA⟩:∃wA,wA=((w.alloc (.cells #[.slice Al f.locals.length cl,.slice As f.stack.length cs] tFr)).alloc (.cells #[.slice none 0 0,.slice none 0 0] tFr)):=⟨_,rfl⟩
 have hfA:Fr No w wA:=hwA▸frc
 have hsA:wA.heap.size=w.heap.size+2:=by rw[hwA];simp
 have B0:=(hwA▸bxc:Bx wA w.heap.size tFr #[.slice Al f.locals.length cl,.slice As f.stack.length cs])
 have B1:=(hwA▸bxc:Bx wA (w.heap.size+1) tFr #[.slice none 0 0,.slice none 0 0])
 have K0:=B0.r2
 have hA:=fun W (hW:Fr No wA W)=>h1.keep (R':=TagC) (hfA.trans0 hW) (fun _ h=>h.elim) (fun _ _ _ h=>h)
 have hB:=fun W (hW:Fr No wA W)=>h2.keep (R':=TagC) (hfA.trans0 hW) (fun _ h=>h.elim) (fun _ _ _ h=>h)
 clear h1 h2 B0
 go_enter Tryz.func46,Tryz.ntmps46
 go_wp2_with fail
 rw[<-hwA]
 replace hwA:=Lib.hid hwA
 refine zn0 8 11 [mC (empV) (zix),mV (.pointer (some ⟨w.heap.size,0,none⟩)),mV (.slice Al f.locals.length cl),mA (decide (0<f.locals.length)) (copV f.locals wA.heap.size) (ziu _ _) (fun hb v W h=>ziw hb rfl h),mC (empV) (zix),mV (.pointer (some ⟨w.heap.size,1,none⟩)),mV (.slice As f.stack.length cs),mA (decide (0<f.stack.length)) (copV f.stack wA.heap.size) (ziu _ _) (fun hb v W h=>ziw hb rfl h)] (by kernel_rfl) (by kernel_rfl) (by simp) ?_ ?_
 ·refine hopC ?_ <| hopC ?_ <| hopC ?_ <| hopC ?_ <| hopC ?_ <| hopC ?_ <| hopC ?_ <| hopC ?_ <| hopZ
  all_goals (intro a' W hW hoff hdep;have hbs:=hW.size;have H1:=hoff 1 rfl;refine nE rfl ?_)
  ·simp[execOp,go_sem,zaa];exact⟨(Fr.refl _ _).alloc _,_,rfl⟩
  ·simp[execOp,Act.eval,H1,go_sem,zaa];exact fr1 rfl
  ·have D4:_=_:=hdep 1 4 rfl;clear hoff hdep;simp[execOp,Act.eval,go_sem,zaa, *];exact fr1 rfl
  ·obtain⟨b0,D3⟩:(empV) _ W:=hdep 0 3 rfl
   have D5:_=_:=hdep 2 5 rfl
   exact ziy rfl (by simpa[Act.eval] using D3) (by simpa[Act.eval] using D5) (hA W hW) hll hbs
  ·simp[execOp,go_sem,zaa];exact⟨(Fr.refl _ _).alloc _,_,rfl⟩
  ·simp[execOp,Act.eval,H1,go_sem,zaa];exact fr1 rfl
  ·have D8:_=_:=hdep 5 8 rfl;clear hoff hdep;simp[execOp,Act.eval,go_sem,zaa, *];exact fr1 rfl
  ·obtain⟨b0,D7⟩:(empV) _ W:=hdep 4 7 rfl
   have D9:_=_:=hdep 6 9 rfl
   exact ziy rfl (by simpa[Act.eval] using D7) (by simpa[Act.eval] using D9) (hB W hW) hl hbs
 intro vs WR hWR hv hne
 obtain⟨b0R0,e0⟩:=hv 0 (by omega)
 obtain⟨A3R3,c3R3,e3,hT3R3,hq3R3⟩:=hv 3 (by omega)
 obtain⟨b0R4,e4⟩:=hv 4 (by omega)
 obtain⟨A3R7,c3R7,e7,hT3R7,hq3R7⟩:=hv 7 (by omega)
 simp only[lz6,List.drop_zero,znO,znM,znK,znR,Nat.zero_add,Nat.reduceAdd,e0,e3,e4,e7]
 simp only[Act.put,lz0,lz1,lz2]
 clear e0 e4 hv
 have hne37:=hne 3 7 (by omega) (by omega) (by omega)
 simp only[List.map_cons,List.getD_cons_succ,List.getD_cons_zero,mA] at hne37
 rw[e3,e7] at hne37
 have hap:∀q,zcP (.slice A3R3 f.locals.length c3R3)=some q->¬zcP (.slice A3R7 f.stack.length c3R7)=some q:=fun q h3 h7=>by
  rw[e3] at hT3R3 hq3R3
  rw[e7] at hT3R7 hq3R7
  have n3:=(hq3R3 q h3).2
  have n7:=(hq3R7 q h7).2
  have x3:=(ziv (xs:=f.locals) (base:=wA.heap.size) ⟨_,_,rfl,hT3R3,hq3R3⟩ n3).1
  have x7:=(ziv (xs:=f.stack) (base:=wA.heap.size) ⟨_,_,rfl,hT3R7,hq3R7⟩ n7).1
  rw[h3] at x3
  rw[h7] at x7
  exact hne37 (by simpa using n3) (by simpa using n7) ((Option.some.inj x3).symm.trans (Option.some.inj x7))
 rw[e3] at hT3R3 hq3R3
 rw[e7] at hT3R7 hq3R7
 have hJ:FrmI WR (.slice A3R3 f.locals.length c3R3) (.slice A3R7 f.stack.length c3R7) f:=⟨hT3R3,hT3R7,hap⟩
 have C1:=B1.keep hWR
 obtain⟨z0,z1⟩:=C1.c2
 have zf:=fun i=>C1.frozen i
 have zl:=C1.lt
 clear K0 hA hB hne37 hne
 go_wp2
 refine bodyPost_ret (v:=.agg #[.slice A3R3 f.locals.length c3R3,.slice A3R7 f.stack.length c3R7]) (by simp[results,Tryz.results46,go_sem, *]) rfl ?_
 have hst:Fr (fun b=>b=w.heap.size+1) WR ((WR.setCell ⟨w.heap.size+1,0,none⟩ (.slice A3R3 f.locals.length c3R3)).setCell ⟨w.heap.size+1,1,none⟩ (.slice A3R7 f.stack.length c3R7)):=((Fr.refl (fun b=>b=w.heap.size+1) WR).setCellX (p:=⟨w.heap.size+1,0,none⟩) (Eq.refl (w.heap.size+1)) _).setCellX (p:=⟨w.heap.size+1,1,none⟩) (Eq.refl (w.heap.size+1)) _
 refine⟨(hfA.trans0 hWR).trans hst (fun b hb e=>by omega),_,_,_,_,rfl,hJ.keep hst (fun q hq e=>by subst e;exact hJ.ne C1 zkN hq),fun q hq=>?_⟩
 rcases hq with hq|hq
 ·have:=(hq3R3 q hq).1;omega
 ·have:=(hq3R7 q hq).1;omega
theorem ziA {p:Plan} {k:Int} {m:Mth} {f:Frm} {i:Ins} (h:¬(i.op=11∨i.op=12∨i.op=13)):zcI p k m f i=true:=by unfold zcI;rw[if_neg h]
theorem ziB {p:Plan} {k:Int} {m:Mth} {f:Frm} {i:Ins} (h:i.op=11∨i.op=12∨i.op=13):zcI p k m f i=match mapF m i.a with|none=>false|some x=>zcH p k f x:=by unfold zcI;rw[if_pos h];cases mapF m i.a<;>rfl
theorem ziC (X Y Z:Nat->Prop) (p:Plan) (v vl vs:Value) (k0:Nat) (m:Mth) (ms:List Value) (f:Frm) (i:Ins) (w:World) (hp:lodB p=true) (h:Sl X w 2 (KprC X w) v p.keepers) (hk0:k0<p.keepers.length) (hm:MthC Y w ms m) (h1:Sl Z w 2 TagC vl f.locals) (h2:Sl Z w 2 TagC vs f.stack):
  Calls Tryz.prog 48 #[.agg #[v],.int .i64 k0,.agg ms.toArray,.agg #[vl,vs],.agg #[.int .i64 i.op,.int .i64 i.a,.string i.name,.string i.member]] w (zgm (zcI p k0 m f i) w):=by
 have hkw:=fun W (hW:Fr No w W)=>h.keep (R':=KprC X W) hW (fun _ h=>h.elim) (fun _ _ _ h=>h.keep hW (fun _ h=>h.elim))
 have HMp:=fun W (hW:Fr No w W)=>zit Y m ms i.a W (hm.keep hW (fun _ h=>h.elim))
 have HF:=fun(ml mk:Value) (x:Mp) W (hW:Fr No w W) (g1:Sl Y W 2 TagC ml x.locals) (g2:Sl Y W 2 TagC mk x.stack)=>ziq X Z Y p v vl vs ml mk k0 f x W hp (hkw W hW) hk0 (h1.keep hW (fun _ h=>h.elim) (fun _ _ _ h=>h)) (h2.keep hW (fun _ h=>h.elim) (fun _ _ _ h=>h)) g1 g2
 have hno:=ziA (p:=p) (k:=(k0:Int)) (m:=m) (f:=f) (i:=i)
 have hyes:=ziB (p:=p) (k:=(k0:Int)) (m:=m) (f:=f) (i:=i)
 generalize zcI p k0 m f i=L at *
 obtain⟨A,cap,rfl,_,_⟩:=h.form
 obtain⟨va,vc,vm,rfl,_,hrn,har,hcr,hxr⟩:=hm
 obtain⟨Aa,ca,rfl,_,_⟩:=har.form
 obtain⟨Ac,cc,rfl,_,_⟩:=hcr.form
 obtain⟨Ax,cx,rfl,_,_⟩:=hxr.form
 obtain⟨Al,cl,rfl,_,_⟩:=h1.form
 obtain⟨As,cs,rfl,_,_⟩:=h2.form
 obtain⟨io,ia,inm,im⟩:=i
 dsimp only at *
 clear h hkw har hcr hxr h1 h2
 by_cases ho:io=11∨io=12∨io=13
 ·replace hyes:=hyes ho
  clear hno
  obtain⟨wA,hwA⟩:∃wA,wA=((((w.alloc (.cells #[.slice A p.keepers.length cap] 32)).alloc (.cells #[.string m.name,.slice Aa m.args.length ca,.int .i64 m.ret.kind,.string m.ret.name,.int .i64 m.locals,.int .i64 m.stack,.slice Ac m.code.length cc,.slice Ax m.maps.length cx] 60)).alloc (.cells #[.slice Al f.locals.length cl,.slice As f.stack.length cs] tFr)).alloc (.cells #[.int .i64 io,.int .i64 ia,.string inm,.string im] 101)):=⟨_,rfl⟩
  have hfA:Fr No w wA:=hwA▸frc
  have B0:=(hwA▸bxc:Bx wA w.heap.size 32 #[.slice A p.keepers.length cap])
  have B2:=(hwA▸bxc:Bx wA (w.heap.size+2) tFr #[.slice Al f.locals.length cl,.slice As f.stack.length cs])
  have HM1:=HMp wA hfA
  unfold zir at HM1
  clear HMp
  go_enter Tryz.func48,Tryz.ntmps48
  cases hma:mapF m ia with
  | none=>
   simp only[hma] at hyes HM1
   subst hyes
   clear HF hma
   rcases ho with rfl|rfl|rfl
   all_goals
    go_wp2_with fail
    rw[<-hwA]
    replace hwA:=Lib.hid hwA
    refine HM1.mono ?_
    rintro e w1 ⟨hf1,rfl⟩
    go_wp2
    go_ret
    exact .mk rfl frc
  | some x=>
   simp only[hma] at hyes HM1
   have HFx:=fun ml mk=>HF ml mk x
   generalize zcH p k0 f x=S at *
   clear HF hma
   rcases ho with rfl|rfl|rfl
   all_goals
    go_wp2_with fail
    rw[<-hwA]
    replace hwA:=Lib.hid hwA
    refine HM1.mono ?_
    rintro e w1 ⟨hf1,ml,mk,rfl,g1,g2⟩
    obtain⟨Bl,dl',rfl,_,_⟩:=g1.form
    obtain⟨Bs,ds',rfl,_,_⟩:=g2.form
    have C0:=B0.keep hf1
    have C2:=B2.keep hf1
    have z0:=C0.c1
    have zl:=C0.lt
    obtain⟨d0,d1⟩:=C2.c2
    have dl:=C2.lt
    have q2:Fr No w1 (w1.alloc (.cells #[.int .i64 x.at_,.slice Bl x.locals.length dl',.slice Bs x.stack.length ds'] 93)):=frc
    have HG:=HFx _ _ _ ((hfA.trans0 hf1).trans0 q2) (g1.keep (R':=TagC) q2 (fun _ h=>h.elim) (fun _ _ _ h=>h)) (g2.keep (R':=TagC) q2 (fun _ h=>h.elim) (fun _ _ _ h=>h))
    clear HFx g1 g2
    go_wp2_with fail
    refine HG.mono ?_
    rintro e w3 ⟨rfl,hf3⟩
    clear z0 zl d0 d1 dl
    go_wp2
    go_ret
    exact .mk hyes.symm frc
 ·replace hno:=hno ho
  have h11:(io != 11)=true:=by simp only[bne_iff_ne,ne_eq];omega
  have h12:(io != 12)=true:=by simp only[bne_iff_ne,ne_eq];omega
  have h13:(io != 13)=true:=by simp only[bne_iff_ne,ne_eq];omega
  clear hyes HF HMp ho
  go_enter Tryz.func48,Tryz.ntmps48
  go_wp2
  go_ret
  exact .mk hno.symm frc
end Go.Proofs.YthembcdcdnffeaaGreat
