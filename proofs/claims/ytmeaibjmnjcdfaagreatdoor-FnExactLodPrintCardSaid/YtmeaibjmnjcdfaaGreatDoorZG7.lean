/- strconv.Itoa by the shelf, at this seat alone (the numbers are those of the seat r12 ZD: print anew for another one, by the kit's lay-shelf.mjs and lay-plain.mjs). -/
import Derived.Test.YtmeaibjmnjcdfaaGreatDoorZG6
import Derived.Shelf.Strconv.Itoa0
import Derived.Shelf.Strconv.Itoa1
import Derived.Shelf.LaysM
import Derived.Shelf.Strconv.Itoa2
import Derived.Shelf.Strconv.Itoa3
namespace Go.Proofs
open Go.Shelf
def Tryz.laysM171_ren:Go.Shelf.Ren:=⟨fun|171=>32|243=>56|246=>98|283=>139|284=>140|285=>141|286=>142|129=>177|317=>176|318=>178|319=>179|320=>180|337=>207|338=>208|n=>n,fun|3=>3|9=>9|2=>2|4=>4|171=>193|0=>0|53=>194|37=>41|5=>5|173=>197|212=>229|51=>230|20=>20|213=>231|46=>232|232=>277|233=>278|n=>n,fun|17=>0|18=>2|19=>3|n=>n⟩
theorem Tryz.laysM171:Go.Proofs.LaysM.n171 Tryz.prog Tryz.laysM171_ren:={
 mixed:=by kernel_rfl
 f129:=Tryz.func177.trans (congrArg some (by kernel_rfl))
 f171:=Tryz.func32.trans (congrArg some (by kernel_rfl))
 f243:=Tryz.func56.trans (congrArg some (by kernel_rfl))
 f246:=Tryz.func98.trans (congrArg some (by kernel_rfl))
 f283:=Tryz.func139.trans (congrArg some (by kernel_rfl))
 f284:=Tryz.func140.trans (congrArg some (by kernel_rfl))
 f285:=Tryz.func141.trans (congrArg some (by kernel_rfl))
 f286:=Tryz.func142.trans (congrArg some (by kernel_rfl))
 f317:=Tryz.func176.trans (congrArg some (by kernel_rfl))
 f318:=Tryz.func178.trans (congrArg some (by kernel_rfl))
 f319:=Tryz.func179.trans (congrArg some (by kernel_rfl))
 f320:=Tryz.func180.trans (congrArg some (by kernel_rfl))
 f337:=Tryz.func207.trans (congrArg some (by kernel_rfl))
 f338:=Tryz.func208.trans (congrArg some (by kernel_rfl))
 t0:=Tryz.underlying0
 a0:=Tryz.isAgg0
 z0:=Tryz.sizeOf0
 v0:=Tryz.zeroValue0
 t2:=Tryz.underlying2
 a2:=Tryz.isAgg2
 z2:=Tryz.sizeOf2
 v2:=Tryz.zeroValue2
 t3:=Tryz.underlying3
 a3:=Tryz.isAgg3
 z3:=Tryz.sizeOf3
 v3:=Tryz.zeroValue3
 t4:=Tryz.underlying4
 a4:=Tryz.isAgg4
 z4:=Tryz.sizeOf4
 v4:=Tryz.zeroValue4
 t5:=Tryz.underlying5
 a5:=Tryz.isAgg5
 z5:=Tryz.sizeOf5
 v5:=Tryz.zeroValue5
 t9:=Tryz.underlying9
 a9:=Tryz.isAgg9
 z9:=Tryz.sizeOf9
 v9:=Tryz.zeroValue9
 t20:=Tryz.underlying20
 a20:=Tryz.isAgg20
 z20:=Tryz.sizeOf20
 v20:=Tryz.zeroValue20
 t37:=Tryz.underlying41
 a37:=Tryz.isAgg41
 z37:=Tryz.sizeOf41
 v37:=Tryz.zeroValue41
 t46:=Tryz.underlying232
 a46:=Tryz.isAgg232
 z46:=Tryz.sizeOf232
 v46:=Tryz.zeroValue232
 t51:=Tryz.underlying230
 a51:=Tryz.isAgg230
 z51:=Tryz.sizeOf230
 v51:=Tryz.zeroValue230
 t53:=Tryz.underlying194
 a53:=Tryz.isAgg194
 z53:=Tryz.sizeOf194
 v53:=Tryz.zeroValue194
 t171:=Tryz.underlying193
 a171:=Tryz.isAgg193
 z171:=Tryz.sizeOf193
 v171:=Tryz.zeroValue193
 t173:=Tryz.underlying197
 a173:=Tryz.isAgg197
 z173:=Tryz.sizeOf197
 v173:=Tryz.zeroValue197
 t212:=Tryz.underlying229
 a212:=Tryz.isAgg229
 z212:=Tryz.sizeOf229
 v212:=Tryz.zeroValue229
 t213:=Tryz.underlying231
 a213:=Tryz.isAgg231
 z213:=Tryz.sizeOf231
 t232:=Tryz.underlying277
 a232:=Tryz.isAgg277
 z232:=Tryz.sizeOf277
 v232:=Tryz.zeroValue277
 t233:=Tryz.underlying278
 a233:=Tryz.isAgg278
 z233:=Tryz.sizeOf278
 v233:=Tryz.zeroValue278
 g17:=by kernel_rfl
 g18:=by kernel_rfl
 g19:=by kernel_rfl
 i0:=by kernel_rfl
 i2:=by kernel_rfl
 i3:=by kernel_rfl
 i4:=by kernel_rfl
 i5:=by kernel_rfl
 i9:=by kernel_rfl
 i20:=by kernel_rfl
 i37:=by kernel_rfl
 i46:=by kernel_rfl
 i51:=by kernel_rfl
 i53:=by kernel_rfl
 i171:=by kernel_rfl
 i173:=by kernel_rfl
 i212:=by kernel_rfl
 i232:=by kernel_rfl
 i233:=by kernel_rfl
 m17:=by kernel_rfl
 m18:=by kernel_rfl
 m19:=by kernel_rfl }
open Go.RowKit Go.Sort Go.Lib in
theorem Tryz.strconv_Itoa (n:Int) (h0:-9223372036854775808≤n) (h1:n≤9223372036854775807) (w:World) (htab:Lib.TabIs Tryz.prog w "internal/strconv.uint64pow10" .u64 Lib.pow10Tab):
  Calls Tryz.prog 32 #[.int .i64 n] w fun e w'=>e=.returned (.string ⟨(Lib.itoa n).toArray⟩)∧∃k os,w'=grow (w.drewN k) os:=Any.strconv_Itoa Tryz.laysM171 n h0 h1 w htab
end Go.Proofs
namespace Go.Proofs.YtmeaibjmnjcdfaaGreatDoor
open Go.RowKit
def TabW (w:World):Prop:=Lib.TabIs Tryz.prog w "internal/strconv.uint64pow10" .u64 Lib.pow10Tab
theorem zye:Tryz.prog.globalNamed "internal/strconv.uint64pow10"=some 0:=by kernel_rfl
theorem TabW.lt {w:World} (h:TabW w):0<w.heap.size:=by
 unfold TabW Lib.TabIs World.var? at h
 rw[zye] at h
 rcases Nat.lt_or_ge 0 w.heap.size with h9|h9
 ·exact h9
 ·simp[Array.getElem?_eq_none h9] at h
theorem TabW.keepX {X:Nat->Prop} {w w':World} (h:TabW w) (hf:Fr X w w') (hX:¬X 0):TabW w':=by
 have hl:=h.lt
 unfold TabW Lib.TabIs World.var? at *
 rw[zye] at *
 simp only[Option.bind_some] at h ⊢
 rw[hf.block _ hl hX]
 exact h
theorem TabW.keep {w w':World} (h:TabW w) (hf:Fr No w w'):TabW w':=h.keepX hf (fun h=>h)
theorem zyf:∀(f n:Nat) (o:Bs),n≤f->zp2 f n o=Lib.decDigits n ++ o
 | 0,n,o,h=>by
  obtain rfl:n=0:=by omega
  rw[Lib.decDigits_one (by decide)]
  rfl
 | f+1,n,o,h=>by
  rw[zp2]
  by_cases h9:9<n
  ·rw[if_pos h9,zyf f (n / 10) _ (by omega)]
   conv=>rhs;rw[Lib.decDigits,dif_neg (by omega)]
   simp[zp1]
  ·rw[if_neg h9,Lib.decDigits_one (by omega)]
   rfl
theorem zyg (n:Int):Lib.itoa n=numL n:=by
 unfold Lib.itoa numL zp3
 split
 ·rw[zyf _ _ _ (Nat.le_refl _)];simp
 ·rw[zyf _ _ _ (Nat.le_refl _),show n.natAbs=n.toNat by omega];simp
theorem zyh (n:Int) (w:World) (h0:-100000<n) (h1:n<100000) (ht:TabW w):Calls Tryz.prog 32 #[.int .i64 n] w (Gives (.string (zbl (numL n))) w):=by
 refine(Tryz.strconv_Itoa n (by omega) (by omega) w ht).mono ?_
 rintro e w' ⟨rfl,k,os,rfl⟩
 refine⟨by rw[zyg];rfl,⟨rfl,rfl,rfl,?_,fun b hb _=>?_⟩⟩
 ·show w.heap.size≤(w.heap ++ os).size
  rw[Array.size_append];omega
 ·show(w.heap ++ os)[b]? =_
  rw[Array.getElem?_append_left hb]
theorem zyi (n:Int) (h0:-100000<n) (h1:n<100000):(numL n).length≤7:=by
 have:=zp7 (n:=n.natAbs) (by omega)
 unfold numL
 split<;>simp<;>omega
end Go.Proofs.YtmeaibjmnjcdfaaGreatDoor
