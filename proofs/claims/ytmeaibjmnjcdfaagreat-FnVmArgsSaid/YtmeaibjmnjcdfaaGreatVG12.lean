/- Whether two keepers mean the same by a method; where a method, a field stands (the program's own search). -/
import Derived.Test.YtmeaibjmnjcdfaaGreatVG11
set_option maxHeartbeats 4000000
set_option maxRecDepth 100000
namespace Go.Proofs.YtmeaibjmnjcdfaaGreat
open Go.RowKit
def zgM (p:Plan) (a b:Int) (m:Mth):Bool:=m.args.all (zmJ p a b)&&zmJ p a b m.ret
theorem zgN (X:Nat->Prop) (l bl n:Nat) (p:Plan) (g:Int->Str->Option Int) (a b:Int) (m:Mth) (cs:List Value) (w:World) (h:zgF w l bl n p g) (hm:MthC X w cs m):
  Calls Tryz.prog 99 #[.pointer (some ⟨l,0,none⟩),.int .i64 a,.int .i64 b,.agg cs.toArray] w (zgm (zgM p a b m) w):=by
 obtain⟨va,vc,vm,rfl,hn,hrn,ha,hvc,hvm⟩:=hm
 obtain⟨A,cap,rfl,hcap,hlen⟩:=ha.form
 obtain⟨Ac,cc,rfl,_,_⟩:=hvc.form
 obtain⟨Am,cm,rfl,_,_⟩:=hvm.form
 clear hvc hvm
 unfold maxLen at hlen
 have HR:=fun W (hW:Fr No w W)=>zmK l bl n p g a b m.ret W (h.keep hW) hrn
 have hB:=Bx.new w 125 #[.string m.name,.slice A m.args.length cap,.int .i64 m.ret.kind,.string m.ret.name,.int .i64 m.locals,.int .i64 m.stack,.slice Ac m.code.length cc,.slice Am m.maps.length cm]
 have hw0:Fr No w (w.alloc (.cells #[.string m.name,.slice A m.args.length cap,.int .i64 m.ret.kind,.string m.ret.name,.int .i64 m.locals,.int .i64 m.stack,.slice Ac m.code.length cc,.slice Am m.maps.length cm] 125)):=(Fr.refl No w).alloc _
 go_enter Tryz.func99,Tryz.ntmps99
 go_wp2
 go_loopw [14,8] (fun i r wr=>∃k:Nat,k≤m.args.length∧i=.int .i64 k∧r=.bool false∧Hid (m.args.all (zmJ p a b)=(m.args.drop k).all (zmJ p a b)) ∧
  Bx wr w.heap.size 125 #[.string m.name,.slice A m.args.length cap,.int .i64 m.ret.kind,.string m.ret.name,.int .i64 m.locals,.int .i64 m.stack,.slice Ac m.code.length cc,.slice Am m.maps.length cm]∧Fr No w wr) (fun i _ _=>m.args.length-(intOf i).toNat)
 case atStart=>exact⟨0,Nat.zero_le _,rfl,rfl,rfl,hB,hw0⟩
 case round=>
  clear hB hw0
  obtain⟨k,hk,rfl,rfl,hd,hB',hw⟩:=hrel
  obtain⟨b0,b1,b2,b3,b4,b5,b6,b7⟩:=hB'.c8
  have hBl:=hB'.lt
  by_cases hlt:k<m.args.length
  ·obtain⟨b9,off,rfl,hX,c0,c1,hs⟩:=(ha.k0 hw).knd hlt
   have hbl:=lt_of_cell c0
   clear ha HR
   have H:=fun W (hW:Fr No wr W)=>zmK l bl n p g a b m.args[k] W ((h.keep hw).keep hW) hs
   rw[List.drop_eq_getElem_cons hlt,List.all_cons] at hd
   have hd:=Lib.hid hd
   generalize m.args[k]=x at *
   clear h
   cases hx:zmJ p a b x
   all_goals
    rw[hx] at H
    have hx:=Lib.hid hx
    go_wp2_with (go_at_call 153;refine(H _ (by exact frc)).mono ?_;rintro e w2 ⟨rfl,hf2⟩)
   ·have HS:Hid (zgM p a b m=false):=by show zgM p a b m=false;unfold zgM;rw[hd.out.out,hx.out];rfl
    go_ret;exact .mk (by rw[HS.out]) (by exact frc)
   ·go_roundw
    case rel=>exact⟨k+1,by omega,by go_num,rfl,by have:=hd.out.out;rwa [hx.out,Bool.true_and] at this,hB'.keep (((Fr.refl No wr).alloc _).trans0 hf2),by exact frc⟩
    case measure=>simp[intOf];omega
  ·have HS:Hid (zgM p a b m=zmJ p a b m.ret):=by
    show zgM p a b m=_
    unfold zgM
    rw[hd.out,List.drop_eq_nil_of_le (by omega)];rfl
   clear ha hd h
   go_wp2_with (go_at_call 153;refine(HR _ (by exact frc)).mono ?_;rintro e w2 ⟨rfl,hf2⟩)
   go_ret
   exact .mk (by rw[HS.out]) (by exact frc)
theorem zgO (m:Mth) (a c d:Value) (b:Nat) (s:Str) (X:Nat->Prop) (w:World) (hm:MthC X w [.string m.name,a,.int .i64 m.ret.kind,.string m.ret.name,.int .i64 m.locals,.int .i64 m.stack,c,d] m) (hb:Bx w b 9 #[.string s]):
  Calls Tryz.prog 200 #[.agg #[.string m.name,a,.int .i64 m.ret.kind,.string m.ret.name,.int .i64 m.locals,.int .i64 m.stack,c,d],.pointer (some ⟨b,0,none⟩)] w (zgm (zeU s m) w):=by
 obtain⟨va,vc,vm,he,_,_,h1,h2,h3⟩:=hm
 simp only[List.cons.injEq,true_and,and_true] at he
 obtain⟨rfl,rfl,rfl⟩:=he
 obtain⟨A,cap,rfl,_,_⟩:=h1.form
 obtain⟨Ac,cc,rfl,_,_⟩:=h2.form
 obtain⟨Am,cm,rfl,_,_⟩:=h3.form
 clear h1 h2 h3
 have e0:=hb.c1
 have hl:=hb.lt
 unfold zeU
 go_enter Tryz.func200,Tryz.ntmps200
 go_wp2
 go_ret
 exact .mk rfl (by exact frc)
theorem zgP (X:Nat->Prop) (v:Value) (xs:List Mth) (b:Nat) (s:Str) (w:World) (h:Sl X w 8 (MthC X w) v xs) (hb:Bx w b 9 #[.string s]):
  Calls Tryz.prog 199 #[v,.func (.func 200) #[] #[.pointer (some ⟨b,0,none⟩)]] w (zeV (ixOf (zeU s) xs) w):=by
 obtain⟨A,cap,rfl,hcap,hlen⟩:=h.form
 unfold maxLen at hlen
 go_enter Tryz.func199,Tryz.ntmps199
 go_wp2
 go_loopw [8,4] (fun i r wr=>∃k:Nat,k≤xs.length∧i=.int .i64 k∧r=.int .i64 0∧Hid ((xs.take k).all (fun x=>!zeU s x)=true)∧Fr No w wr) (fun i _ _=>xs.length-(intOf i).toNat)
 case atStart=>exact⟨0,Nat.zero_le _,rfl,rfl,by simp[Hid],Fr.refl _ _⟩
 case round=>
  obtain⟨k,hk,rfl,rfl,ha,hf⟩:=hrel
  by_cases hlt:k<xs.length
  ·obtain⟨b9,off,Aa,ca,Ac,cc,Ax,cx,rfl,hX,c0,c1,c2,c3,c4,c5,c6,c7,hr1,hr2,hr3,hr4,hr5,_,_,_,_,_,_⟩:=(h.keep hf zN (fun _ _ _ h=>h.keep hf zN)).mth hlt
   have hR:MthC X wr [.string xs[k].name,.slice Aa xs[k].args.length ca,.int .i64 xs[k].ret.kind,.string xs[k].ret.name,.int .i64 xs[k].locals,.int .i64 xs[k].stack,.slice Ac xs[k].code.length cc,.slice Ax xs[k].maps.length cx] xs[k]:=⟨_,_,_,rfl,hr1,hr2,hr3,hr4,hr5⟩
   clear h hr1 hr2 hr3 hr4 hr5
   have H:=fun W (hW:Fr No wr W)=>zgO xs[k] _ _ _ b s X W (hR.keep hW zN) ((hb.keep hf).keep hW)
   clear hR
   have HS:zeU s xs[k]=false->Hid ((xs.take (k+1)).all (fun x=>!zeU s x)=true):=fun h=>by
    have:=zfp (fun x=>!zeU s x) xs k hlt
    rw[ha.out,h] at this;exact this
   have HN:zeU s xs[k]=true->Hid (ixOf (zeU s) xs=(k:Nat)):=fun h=>zeQ hlt ha.out h
   have HS:=Lib.hid HS
   have HN:=Lib.hid HN
   clear ha
   generalize xs[k]=f at *
   cases hq:zeU s f
   all_goals rw[hq] at H
   ·have HS:=HS.out hq
    clear HN hq
    go_wp2_with (go_at_call 200;refine(H _ (Fr.refl _ _)).mono ?_;rintro e w2 ⟨rfl,hf2⟩)
    go_roundw
    case rel=>exact⟨k+1,by omega,by go_num,rfl,HS,by exact frc⟩
    case measure=>simp[intOf];omega
   ·have HN:=HN.out hq
    clear HS hq
    go_wp2_with (go_at_call 200;refine(H _ (Fr.refl _ _)).mono ?_;rintro e w2 ⟨rfl,hf2⟩)
    go_ret
    exact .mk HN.out.symm (by exact frc)
  ·have HS:=Lib.hid (zeP (zfr _ xs k (by omega) ha.out))
   clear h ha
   go_wp2
   go_ret
   exact .mk HS.out.symm (by exact frc)
theorem zgQ (X:Nat->Prop) (c:Cls) (cs:List Value) (s:Str) (w:World) (h:ClsC X w cs c):
  Calls Tryz.prog 152 #[.agg cs.toArray,.string s] w (zeV (ixOf (zeU s) c.methods) w):=by
 obtain⟨vf,vm,rfl,hn,hsn,hf,hm⟩:=h
 obtain⟨Af,cf,rfl,_,_⟩:=hf.form
 obtain⟨Am,cm,hvm,_,_⟩:=hm.form
 have H:=fun W b (hW:Fr No w W) (hb:Bx W b 9 #[.string s])=>zgP X vm c.methods b s W (hm.keep hW zN (fun _ _ _ h=>h.keep hW zN)) hb
 subst hvm
 clear hf hm
 go_enter Tryz.func152,Tryz.ntmps152
 go_wp2_with (go_at_call 199;refine(H _ _ (by exact frc) (Bx.new_ (by simp))).mono ?_;rintro e w2 ⟨rfl,hf2⟩)
 go_ret
 exact .mk rfl (by exact frc)
theorem zgR (m:Fld) (b:Nat) (s:Str) (w:World) (hb:Bx w b 9 #[.string s]):
  Calls Tryz.prog 220 #[.agg #[.string m.name,.int .i64 m.kind.kind,.string m.kind.name],.pointer (some ⟨b,0,none⟩)] w (zgm (zeT s m) w):=by
 have e0:=hb.c1
 have hl:=hb.lt
 unfold zeT
 go_enter Tryz.func220,Tryz.ntmps220
 go_wp2
 go_ret
 exact .mk rfl (by exact frc)
theorem zgS (X:Nat->Prop) (v:Value) (xs:List Fld) (b:Nat) (s:Str) (w:World) (h:Sl X w 3 FldC v xs) (hb:Bx w b 9 #[.string s]):
  Calls Tryz.prog 219 #[v,.func (.func 220) #[] #[.pointer (some ⟨b,0,none⟩)]] w (zeV (ixOf (zeT s) xs) w):=by
 obtain⟨A,cap,rfl,hcap,hlen⟩:=h.form
 unfold maxLen at hlen
 go_enter Tryz.func219,Tryz.ntmps219
 go_wp2
 go_loopw [8,4] (fun i r wr=>∃k:Nat,k≤xs.length∧i=.int .i64 k∧r=.int .i64 0∧Hid ((xs.take k).all (fun x=>!zeT s x)=true)∧Fr No w wr) (fun i _ _=>xs.length-(intOf i).toNat)
 case atStart=>exact⟨0,Nat.zero_le _,rfl,rfl,by simp[Hid],Fr.refl _ _⟩
 case round=>
  obtain⟨k,hk,rfl,rfl,ha,hf⟩:=hrel
  by_cases hlt:k<xs.length
  ·obtain⟨b9,off,rfl,hX,c0,c1,c2,_,_⟩:=(h.k0 hf).fld hlt
   clear h
   have H:=fun W (hW:Fr No wr W)=>zgR xs[k] b s W ((hb.keep hf).keep hW)
   have HS:zeT s xs[k]=false->Hid ((xs.take (k+1)).all (fun x=>!zeT s x)=true):=fun h=>by
    have:=zfp (fun x=>!zeT s x) xs k hlt
    rw[ha.out,h] at this;exact this
   have HN:zeT s xs[k]=true->Hid (ixOf (zeT s) xs=(k:Nat)):=fun h=>zeQ hlt ha.out h
   have HS:=Lib.hid HS
   have HN:=Lib.hid HN
   clear ha
   generalize xs[k]=f at *
   cases hq:zeT s f
   all_goals rw[hq] at H
   ·have HS:=HS.out hq
    clear HN hq
    go_wp2_with (go_at_call 220;refine(H _ (Fr.refl _ _)).mono ?_;rintro e w2 ⟨rfl,hf2⟩)
    go_roundw
    case rel=>exact⟨k+1,by omega,by go_num,rfl,HS,by exact frc⟩
    case measure=>simp[intOf];omega
   ·have HN:=HN.out hq
    clear HS hq
    go_wp2_with (go_at_call 220;refine(H _ (Fr.refl _ _)).mono ?_;rintro e w2 ⟨rfl,hf2⟩)
    go_ret
    exact .mk HN.out.symm (by exact frc)
  ·have HS:=Lib.hid (zeP (zfr _ xs k (by omega) ha.out))
   clear h ha
   go_wp2
   go_ret
   exact .mk HS.out.symm (by exact frc)
theorem zgT (X:Nat->Prop) (c:Cls) (cs:List Value) (s:Str) (w:World) (h:ClsC X w cs c):
  Calls Tryz.prog 198 #[.agg cs.toArray,.string s] w (zeV (ixOf (zeT s) c.fields) w):=by
 obtain⟨vf,vm,rfl,hn,hsn,hf,hm⟩:=h
 obtain⟨Am,cm,rfl,_,_⟩:=hm.form
 obtain⟨Af,cf,hvm,_,_⟩:=hf.form
 have H:=fun W b (hW:Fr No w W) (hb:Bx W b 9 #[.string s])=>zgS X vf c.fields b s W (hf.k0 hW) hb
 subst hvm
 clear hf hm
 go_enter Tryz.func198,Tryz.ntmps198
 go_wp2_with (go_at_call 219;refine(H _ _ (by exact frc) (Bx.new_ (by simp))).mono ?_;rintro e w2 ⟨rfl,hf2⟩)
 go_ret
 exact .mk rfl (by exact frc)
def kEq (a b:Knd):Bool:=(a.kind == b.kind)&&(a.name.toList == b.name.toList)
def ksEq:List Knd->List Knd->Bool
 | [],[]=>true
 | a :: as',b :: bs=>kEq a b&&ksEq as' bs
 | _,_=>false
theorem zgU:∀{xs ys:List Knd},xs.length≠ys.length->ksEq xs ys=false
 | [],[],h=>absurd rfl h
 | [],_ :: _,_=>rfl
 | _ :: _,[],_=>rfl
 | a :: as',b :: bs,h=>by rw[ksEq,zgU (by simpa using h)];simp
theorem zgV (X Y:Nat->Prop) (v u:Value) (xs ys:List Knd) (w:World) (h:Sl X w 2 KndC v xs) (g:Sl Y w 2 KndC u ys):
  Calls Tryz.prog 174 #[v,u] w (zgm (ksEq xs ys) w):=by
 obtain⟨A,cap,rfl,hcap,hlen⟩:=h.form
 obtain⟨B,cap2,rfl,hcap2,hlen2⟩:=g.form
 unfold maxLen at hlen hlen2
 by_cases hll:xs.length=ys.length
 ·go_enter Tryz.func174,Tryz.ntmps174
  rw[<-hll]
  replace hll:=Lib.hid hll
  go_wp2
  go_loopw [13,4] (fun i r wr=>∃k:Nat,k≤xs.length∧i=.int .i64 k∧r=.bool false∧Hid (ksEq xs ys=ksEq (xs.drop k) (ys.drop k))∧Fr No w wr) (fun i _ _=>xs.length-(intOf i).toNat)
  case atStart=>exact⟨0,Nat.zero_le _,rfl,rfl,rfl,Fr.refl _ _⟩
  case round=>
   obtain⟨k,hk,rfl,rfl,hd,hf⟩:=hrel
   by_cases hlt:k<xs.length
   ·have hlt2:k<ys.length:=by have:=hll.out;omega
    obtain⟨b,off,rfl,hX,c0,c1,_⟩:=(h.k0 hf).knd hlt
    obtain⟨b2,off2,rfl,hX2,d0,d1,_⟩:=(g.k0 hf).knd hlt2
    rw[List.drop_eq_getElem_cons hlt,List.drop_eq_getElem_cons hlt2,ksEq] at hd
    have hd:=Lib.hid hd
    clear h g
    generalize xs[k]=x at *
    generalize ys[k]=y at *
    have q0:=kp c0
    have q1:=kp c1
    have p0:=kp d0
    have p1:=kp d1
    have hcase:((x.kind == y.kind)=true∧(x.name.toList == y.name.toList)=true)∨((x.kind == y.kind)=false)∨((x.kind == y.kind)=true∧(x.name.toList == y.name.toList)=false):=by
     cases(x.kind == y.kind)<;>cases(x.name.toList == y.name.toList)<;>simp
    go_wp2_with fail
    (refine zgc (X:=No) (by kernel_rfl) (by kernel_rfl) ?_)
    clear c0 c1 d0 d1
    rcases hcase with ⟨g1,g2⟩|g1 | ⟨g1,g2⟩
    ·have HS:Hid (ksEq xs ys=ksEq (xs.drop (k+1)) (ys.drop (k+1))):=by
      have:=hd.out.out;unfold kEq at this;rwa [g1,g2,Bool.true_and,Bool.true_and] at this
     have g3:(x.kind != y.kind)=false:=by rw[bne,g1];rfl
     have g4:(x.name.toList != y.name.toList)=false:=by rw[bne,g2];rfl
     (repeat((first|go_big_quiet_skip|(go_big_quiet_want;(apply Exists.intro;refine⟨fun W hW=>?_,?_⟩);(focus (exact fqc));go_big_quiet_on));(try simp only[Act.put,lz0,lz1,lz2])));refine wpQuiet_nil ?_
     intro w1 hf1
     clear q0 q1 p0 p1
     go_wp2
     go_roundw
     case rel=>exact⟨k+1,by omega,by go_num,rfl,HS,by exact frc⟩
     case measure=>simp[intOf];omega
    all_goals
     have HS:Hid (ksEq xs ys=false):=by
      have:=hd.out.out;unfold kEq at this
      first
       | (rw[g1,g2] at this;(show ksEq xs ys=false);simpa using this)
       | (rw[g1] at this;(show ksEq xs ys=false);simpa using this)
     (repeat((first|go_big_quiet_skip|(go_big_quiet_want;(apply Exists.intro;refine⟨fun W hW=>?_,?_⟩);(focus (exact fqc));go_big_quiet_on));(try simp only[Act.put,lz0,lz1,lz2])));refine wpQuiet_nil ?_
     intro w1 hf1
     clear q0 q1 p0 p1
     go_wp2
     go_ret
     exact .mk HS.out.symm (by exact frc)
   ·have HS:Hid (ksEq xs ys=true):=by
     have:=hd.out
     rwa [List.drop_eq_nil_of_le (by omega),List.drop_eq_nil_of_le (by have:=hll.out;omega)] at this
    clear h g hd
    go_wp2
    go_ret
    exact .mk HS.out.symm (by exact frc)
 ·have HS:Hid (ksEq xs ys=false):=zgU hll
  have hne:((xs.length:Int) != (ys.length:Int))=true:=by simp;omega
  clear h g
  replace hll:=Lib.hid hll
  go_enter Tryz.func174,Tryz.ntmps174
  go_wp2
  go_ret
  exact .mk HS.out.symm (by exact frc)
theorem zgW:∀(seen fs:List Cls),zbt seen fs=true->∀c∈fs,clsB c=true
 | _,[],_,_,h=>by cases h
 | seen,f :: fs,h,c,hc=>by
  rw[zbt] at h
  simp only[lz5] at h
  rcases List.mem_cons.1 hc with rfl|hc
  ·exact h.1.1
  ·exact zgW _ fs h.2 c hc
theorem zgX {many:Int}:∀(seen fs:List Ask),zbu many seen fs=true->∀a∈fs,namB a.name=true
 | _,[],_,_,h=>by cases h
 | seen,f :: fs,h,a,ha=>by
  rw[zbu] at h
  simp only[lz5] at h
  rcases List.mem_cons.1 ha with rfl|ha
  ·exact h.1.1.1
  ·exact zgX _ fs h.2 a ha
theorem zgY {c:Cls} (h:clsB c=true):namB c.name=true:=by
 unfold clsB at h
 simp only[lz5] at h
 exact h.1.1.1.1.1
theorem zgZ:∀(seen fs:List Mth),zeJ seen fs=true->∀c∈fs,mthB c=true
 | _,[],_,_,h=>by cases h
 | seen,f :: fs,h,c,hc=>by
  rw[zeJ] at h
  simp only[lz5] at h
  rcases List.mem_cons.1 hc with rfl|hc
  ·exact h.1.1
  ·exact zgZ _ fs h.2 c hc
theorem zg1 {c:Cls} (h:clsB c=true):∀m∈c.methods,mthB m=true:=by
 unfold clsB at h
 simp only[lz5] at h
 exact zgZ _ _ h.2
theorem zg3 {p:Plan} (hp:lodB p=true) {k:Nat} (hk:k<p.keepers.length):∀c∈(zbC p (k:Int)).owns,clsB c=true:=by
 have h:=zbL hp hk
 rw[zbN hk]
 unfold kprB at h
 simp only[lz5] at h
 exact zgW _ _ h.1.2
theorem zg4 {p:Plan} (hp:lodB p=true) {k:Nat} (hk:k<p.keepers.length):∀a∈(zbC p (k:Int)).asks,namB a.name=true:=by
 have h:=zbL hp hk
 rw[zbN hk]
 unfold kprB at h
 simp only[lz5] at h
 exact zgX _ _ h.2
theorem Here.clsB {p:Plan} (hp:lodB p=true) {r:Ref} {k i:Nat} (h:Here p r k i):Go.Proofs.YtmeaibjmnjcdfaaGreat.clsB (zbG p r)=true:=by
 rw[h.cls]
 exact zg3 hp h.2.1 _ (List.getElem_mem _)
theorem zg5 {p:Plan} (hp:lodB p=true) {k:Nat} (hk:k<p.keepers.length) {s:Str} (hs:namB s=false):zbD p (k:Int) s=-1:=by
 unfold zbD
 refine zeP (List.all_eq_true.2 fun c hc=>?_)
 have:=zgY (zg3 hp hk c hc)
 cases hq:zbp s c
 ·rfl
 ·rw[zbr.1 hq] at this;rw[this] at hs;cases hs
theorem zg6 {p:Plan} (hp:lodB p=true) {k:Nat} (hk:k<p.keepers.length) {s:Str} (hs:namB s=false):zbF p (k:Int) s=-1:=by
 refine zbS (zgt.2 (List.all_eq_true.2 fun c hc=>?_))
 have:=zg4 hp hk c hc
 cases hq:zbq s c
 ·rfl
 ·rw[zbs.1 hq] at this;rw[this] at hs;cases hs
theorem zg7 {p:Plan} (hp:lodB p=true) {k:Int} {s:Str} (hs:namB s=false):zbf p k s=(zbH,2):=by
 unfold zbf
 cases h:hasK p k
 ·rfl
 ·unfold hasK at h
  rw[lz5,decide_eq_true_eq,decide_eq_true_eq] at h
  obtain⟨n,rfl⟩:=Int.eq_ofNat_of_zero_le h.1
  have hn:n<p.keepers.length:=by omega
  rw[if_pos rfl]
  unfold whose
  rw[zbI,zg6 hp hn hs,zg5 hp hn hs];rfl
theorem zg8 {p:Plan} (hp:lodB p=true) {k:Int} {s:Str} (hs:namB s=false):zmD p k s=(zbH,2):=by
 unfold zmD
 rw[zg7 hp hs];rfl
theorem zg9 {p:Plan} {k:Int} {s:Str} (h:hasK p k=false):zmD p k s=(zbH,2):=by
 unfold zmD zbf
 rw[h];rfl
def zhb (p:Plan) (rs:List Ref):Prop:=∀r∈rs,r.name.size≤maxLen∧∃k i:Nat,Here p r k i
theorem zhc {p:Plan} (hp:lodB p=true):∀(n:Nat) (r:Ref) (k i:Nat),Here p r k i->∀rs,upGo p n r=some rs->∀x∈rs,∃k i:Nat,Here p x k i
 | 0,_,_,_,_,rs,h,_,_=>by cases h
 | n+1,r,k,i,hh,rs,h,x,hx=>by
  rw[upGo] at h
  cases he:(zbG p r).super.toList.isEmpty
  ·rw[if_neg (by rw[he];simp)] at h
   by_cases hw:(whose p r.keeper (zbG p r).super).2=1
   ·rw[if_pos hw] at h
    have hk:(0:Int)≤r.keeper∧r.keeper<p.keepers.length:=by have:=hh.1;have:=hh.2.1;omega
    obtain⟨kc,ic,hq,hh2⟩:=zbV hp 4 r.keeper hk.1 hk.2 hw
    rw[Option.map_eq_some_iff] at h
    obtain⟨rs',h1,rfl⟩:=h
    have h1':upGo p n ⟨kc,(zbG p r).super⟩=some rs':=by rw[<-hq];exact h1
    rcases List.mem_cons.1 hx with rfl|hx
    ·exact⟨k,i,hh⟩
    ·exact zhc hp n _ kc ic hh2 rs' h1' x hx
   ·rw[if_neg hw] at h;cases h
  ·rw[if_pos he] at h
   cases h
   obtain rfl:x=r:=by simpa using hx
   exact⟨k,i,hh⟩
theorem zhd {p:Plan} (hp:lodB p=true) {r:Ref} {k i:Nat} (h:Here p r k i):namB r.name=true:=by
 cases hs:namB r.name
 ·have h1:=zg5 hp h.2.1 hs
  obtain⟨n,hn,_,h2⟩:=zbU h.2.2.2
  unfold zbD at h1
  rw[h1] at h2
  omega
 ·rfl
theorem zhe {s:Str} (h:namB s=true):s.size≤maxLen:=by
 unfold namB at h
 simp only[lz5,Bool.not_eq_true',Bool.or_eq_false_iff,decide_eq_false_iff_not] at h
 unfold maxLen
 omega
theorem zhf {p:Plan} (hp:lodB p=true) {r:Ref} {k i:Nat} (hh:Here p r k i) {rs:List Ref} (h:chainOf p r=some rs):zhb p rs:=fun x hx=>by
 obtain⟨k,i,hx'⟩:=zhc hp 6 r k i hh rs h x hx
 exact⟨zhe (zhd hp hx'),k,i,hx'⟩
theorem zhg {p:Plan}:∀(n:Nat) (r:Ref) (rs:List Ref),upGo p n r=some rs->rs.length≤n
 | 0,_,_,h=>by cases h
 | n+1,r,rs,h=>by
  rw[upGo] at h
  cases he:(zbG p r).super.toList.isEmpty
  ·rw[if_neg (by rw[he];simp)] at h
   by_cases hw:(whose p r.keeper (zbG p r).super).2=1
   ·rw[if_pos hw,Option.map_eq_some_iff] at h
    obtain⟨rs',h1,rfl⟩:=h
    have:=zhg n _ rs' h1
    simp;omega
   ·rw[if_neg hw] at h;cases h
  ·rw[if_pos he] at h
   cases h;simp
theorem zhh {p:Plan} {r:Ref} {rs:List Ref} (h:chainOf p r=some rs):rs.length≤6:=zhg 6 r rs h
theorem zhi {p:Plan} (hp:lodB p=true) (r:Ref):zmF p r=[]∨∃k i:Nat,Here p r k i∧chainOf p r=some (zmF p r):=by
 obtain⟨rk,rn⟩:=r
 unfold zmF
 dsimp only
 by_cases h:(zmD p rk rn).2=1∧(zmD p rk rn).1.keeper=rk
 ·rw[if_pos h]
  obtain⟨kc,i,pre,h1,h2,h3⟩:=zmH hp h.1
  rw[h1] at h
  obtain⟨_,rfl⟩:=h
  exact .inr ⟨kc,i,h2,by rw[h3];rfl⟩
 ·rw[if_neg h];exact .inl rfl
theorem zhj {p:Plan} (hp:lodB p=true) (r:Ref):zhb p (zmF p r):=by
 rcases zhi hp r with h | ⟨k,i,h1,h2⟩
 ·rw[h];intro x hx;cases hx
 ·exact zhf hp h1 h2
theorem zhk {p:Plan} (hp:lodB p=true) (r:Ref):(zmF p r).length≤6:=by
 rcases zhi hp r with h | ⟨k,i,h1,h2⟩
 ·rw[h];simp
 ·exact zhh h2
def zhl (p:Plan) (a b:Int) (up:Cls) (m:Mth):Bool:=
 if ixOf (zeU m.name) up.methods<0 then true else
  kEq m.ret (up.methods.getD (ixOf (zeU m.name) up.methods).toNat ⟨⟨#[]⟩,[],⟨0,⟨#[]⟩⟩,0,0,[],[]⟩).ret&&ksEq m.args (up.methods.getD (ixOf (zeU m.name) up.methods).toNat ⟨⟨#[]⟩,[],⟨0,⟨#[]⟩⟩,0,0,[],[]⟩).args&&zgM p a b m
def zhm (p:Plan) (low high:Ref):Bool:=
 (zbG p low).fields.all (fun f=>decide (ixOf (zeT f.name) (zbG p high).fields<0))&&(zbG p low).methods.all (zhl p low.keeper high.keeper (zbG p high))
def zhn (p:Plan):List Ref->Bool
 | []=>true
 | r :: rs=>rs.all (zhm p r)&&zhn p rs
def canB (p:Plan) (r:Ref):Bool:=!(zmF p r).isEmpty&&zhn p (zmF p r)
def zho (p:Plan) (s:Str):List Ref->Option (Ref×Int)
 | []=>none
 | r :: rs=>if ixOf (zeU s) (zbG p r).methods<0 then zho p s rs else some (r,ixOf (zeU s) (zbG p r).methods)
def zhp (p:Plan) (r:Ref) (s:Str):Option (Ref×Int):=if canB p r then zho p s (zmF p r) else none
end Go.Proofs.YtmeaibjmnjcdfaaGreat
