/- The draws: keepers that are ok, a class's name, a method's, and numbers (DrawAsk). -/
import Derived.Test.YtmeaibjmnjcdfaaGreatVG47
set_option maxHeartbeats 4000000
set_option maxRecDepth 100000
namespace Go.Proofs.YtmeaibjmnjcdfaaGreat
open Go.RowKit
def zv0 (w:World) (e:Ending) (w':World):Prop:=∃(vp:Value) (ks:List Kpr) (nm mb:Str) (va:Value) (args:List Int),e=.returned (.tuple #[.agg #[vp],.string nm,.string mb,va])∧lodB ⟨ks⟩=true∧nm.size≤10∧mb.size≤10∧args.length≤1∧(∀x∈args, -100000≤x∧x≤100000) ∧
 Sl (fun b=>b<w.heap.size) w' 2 (KprC (fun b=>b<w.heap.size) w') vp ks∧Sl (fun b=>b<w.heap.size) w' 1 IntC va args∧Fr No w w'
theorem zv1 (v:Value) (bs:List Int) (w:World) (h:Sl No w 1 BytC v bs):
  Calls Tryz.prog 5 #[v] w (zv0 w):=by
 obtain⟨Ab,cb,rfl,_,_⟩:=h.form
 have H1:=fun W (hW:Fr No w W)=>zr9 _ bs W (h.keep (R':=BytC) hW zN (fun _ _ _ h=>h))
 have B2:=Bx.new w 25 #[.slice none 0 0]
 have hfA:=(Fr.refl No w).alloc (.cells #[.slice none 0 0] 25)
 clear h
 go_enter Tryz.func5,Tryz.ntmps5
 go_wp2_with (go_at_call 19;refine(H1 _ (by exact frc)).mono ?_;rintro e w1 ⟨rb,rfl,hr1,hf1,hrb,hs1⟩;rw[World.size_alloc] at hrb;replace hrb:=Lib.hid hrb;replace hs1:=Lib.hid hs1;refine Hid.out ?_)
 refine Lib.hid ?_
 have B21:=B2.keep hf1
 have hw1:=hfA.trans0 hf1
 have hrbl:=hr1.lt
 have hwrb:w.heap.size<rb:=by have:=hrb.out;omega
 have HP:=fun W (hW:Fr No w1 W)=>zup rb 0 2 W (hr1.keep hW) (by omega) (by omega) (by omega)
 clear H1 B2 hfA hf1 hr1
 go_wp2_with (go_at_call 20;refine(HP _ (by exact frc)).mono ?_;rintro e w2 ⟨v2,ks,rfl,hok,hk2,hr2,hf2⟩;refine Hid.out ?_)
 refine Lib.hid ?_
 have hS2:=hk2.sl
 obtain⟨Ap,cp,rfl,_,_⟩:=hS2.form
 have B22:=B21.keepX hf2 (by omega)
 have hw2:Fr No w w2:=hw1.trans hf2 (fun b hb e=>by omega)
 obtain⟨w3,hw3⟩:∃w3,w3=w2.alloc (.cells #[.slice Ap ks.length cp] 25):=⟨_,rfl⟩
 have hf23:Fr No w2 w3:=hw3▸frc
 have B7:Bx w3 w2.heap.size 25 #[.slice Ap ks.length cp]:=hw3▸bxc
 have hS3:=hS2.keep (R':=KprC (fun b=>b<w1.heap.size) w3) hf23 zN (fun _ _ _ h=>h.keep hf23 zN)
 have HA:=zvZ rb (0+20) w3 (hr2.keep hf23) (by omega)
 have hs12:=hf2.size
 have hs23:=hf23.size
 replace hok:=Lib.hid hok
 clear HP hk2 hr2 hf2 hS2 B21
 go_wp2_with (go_at_call 21;rw[<-hw3];refine HA.mono ?_;rintro e w4 ⟨nm,mb,va,args,rfl,hz1,hz2,hal,hab,hSa,hr4,hf4⟩;refine Hid.out ?_)
 refine Lib.hid ?_
 replace hw3:=Lib.hid hw3
 obtain⟨Aa,ca,rfl,_,_⟩:=hSa.form
 have hS4:=hS3.keep (R':=KprC (fun b=>b<w1.heap.size) w4) hf4 (fun b e=>by show b<w1.heap.size;omega) (fun _ _ _ h=>h.keep hf4 (fun b e=>by show b<w1.heap.size;omega))
 have B74:=B7.keepX hf4 (by omega)
 have B24:=(B22.keep hf23).keepX hf4 (by omega)
 have hw4:Fr No w w4:=(hw2.trans0 hf23).trans hf4 (fun b hb e=>by omega)
 have p0:=B74.c1
 have pl:=B74.lt
 have y0:=B24.c1
 have yl:=B24.lt
 have yf:=fun i=>B24.frozen i
 have hlw:w.heap.size<w1.heap.size:=by omega
 have hfin:=Lib.hid (fun(W:World) (hW:Fr (fun b=>b=w.heap.size) w4 W)=>(show zv0 w (.returned (.tuple #[.agg #[.slice Ap ks.length cp],.string nm,.string mb,.slice Aa args.length ca])) W from⟨_,ks,nm,mb,_,args,rfl,hok.out,hz1,hz2,hal,hab,
  (hS4.keep (R':=KprC (fun b=>b<w1.heap.size) W) hW (fun b e=>by show b<w1.heap.size;omega) (fun _ _ _ h=>h.keep hW (fun b e=>by show b<w1.heap.size;omega))).weaken (fun b e=>by have:b<w.heap.size:=e;show b<w1.heap.size;omega) (fun _ _ _ h=>h.weaken (fun b e=>by have:b<w.heap.size:=e;show b<w1.heap.size;omega)),
  (hSa.keep hW (fun b e=>by show b<w3.heap.size;omega) (fun _ _ _ h=>h)).weaken (fun b e=>by have:b<w.heap.size:=e;show b<w3.heap.size;omega) (fun _ _ _ h=>h),hw4.trans hW (fun b hb e=>by omega)⟩))
 clear HA hS3 hS4 hSa hr4 hf4 hw4 hw2 B74 B24 B22 B7 hal hab
 go_wp2_with fail
 refine bodyPost_ret (v:=.tuple #[.agg #[.slice Ap ks.length cp],.string nm,.string mb,.slice Aa args.length ca]) (by simp[results,Tryz.results5,go_sem, *]) rfl ?_
 exact hfin.out _ (Fr.put1 _ _ _ _)
end Go.Proofs.YtmeaibjmnjcdfaaGreat
