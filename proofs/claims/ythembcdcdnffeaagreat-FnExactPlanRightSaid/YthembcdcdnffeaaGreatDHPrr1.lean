/- The program's classes: those of the keepers' that are there, in order. -/
import Derived.Test.YthembcdcdnffeaaGreatDG46
set_option maxHeartbeats 8000000
set_option maxRecDepth 100000
namespace Go.Proofs.YthembcdcdnffeaaGreat
open Go.RowKit
def zn5 (p:Plan) (k:Nat):List Cls->List Ref
 | []=>[]
 | c :: cs=>if (zmF p ⟨k,c.name⟩).isEmpty then zn5 p k cs else ⟨k,c.name⟩ :: zn5 p k cs
def zn6 (p:Plan):Nat->List Kpr->List Ref
 | _,[]=>[]
 | k,y :: ys=>zn5 p k y.owns ++ zn6 p (k+1) ys
def zn7 (p:Plan):Bool:=lodB p&&(zn6 p 0 p.keepers).all (zcO p)
abbrev tRef:TypeId:=34
def RefI (all rest:List Ref) (w:World) (m:Nat) (v:Value) (W:World):Prop:=
 ∃xs,all=xs ++ rest∧xs.length≤m∧RowV W tRef 2 v xs.length (xs.flatMap zmo)∧(∀x∈xs,x.name.size≤maxLen)∧(∀q,zcP v=some q->w.heap.size≤q)∧Fr No w W
def zn8 (xs:List Ref) (w:World) (e:Ending) (w':World):Prop:=∃v,e=.returned v∧RefI xs [] w 15 v w'
theorem zn9 {p:Plan} (h:lodB p=true) {k:Nat} (hk:k<p.keepers.length):p.keepers[k].owns.length≤5:=by
 unfold lodB at h
 simp only[lz5,decide_eq_true_eq,List.all_eq_true] at h
 have h9:=h.2 _ (List.getElem_mem hk)
 unfold kprB at h9
 simp only[lz5,decide_eq_true_eq] at h9
 exact h9.1.1.1
theorem RefI.nil (all:List Ref) (w:World) (W:World) (hf:Fr No w W):RefI all all w 0 (.slice none 0 0) W:=⟨[],rfl,Nat.le_refl _,RowV.nil _ _ _,fun _ h=>absurd h (by simp),(fun q hq=>by cases hq),hf⟩
theorem RefI.to {all rest:List Ref} {w W W':World} {m:Nat} {v:Value} (h:RefI all rest w m v W) (hf:Fr No W W'):RefI all rest w m v W':=by
 obtain⟨xs,h1,h2,h3,h4,h5,h6⟩:=h
 exact⟨xs,h1,h2,h3.keep0 hf,h4,h5,h6.trans0 hf⟩
theorem RefI.mono {all rest:List Ref} {w W:World} {m m':Nat} {v:Value} (h:RefI all rest w m v W) (hm:m≤m'):RefI all rest w m' v W:=by
 obtain⟨xs,h1,h2,h3,h4,h5,h6⟩:=h
 exact⟨xs,h1,Nat.le_trans h2 hm,h3,h4,h5,h6⟩
theorem zoa (p:Plan) (k:Nat) (h:k<p.keepers.length):zn6 p k (p.keepers.drop k)=zn5 p k p.keepers[k].owns ++ zn6 p (k+1) (p.keepers.drop (k+1)):=by
 rw[List.drop_eq_getElem_cons h,zn6]
theorem zob (p:Plan) (k:Nat) (cs:List Cls) (j:Nat) (h:j<cs.length):zn5 p k (cs.drop j)=if (zmF p ⟨k,cs[j].name⟩).isEmpty then zn5 p k (cs.drop (j+1)) else ⟨k,cs[j].name⟩ :: zn5 p k (cs.drop (j+1)):=by
 rw[List.drop_eq_getElem_cons h,zn5]
theorem zoc (l bl n:Nat) (p:Plan) (w:World) (h:Lg w l bl n p):
  Calls Tryz.prog 31 #[.pointer (some ⟨l,0,none⟩)] w (zn8 (zn6 p 0 p.keepers) w):=by
 have hp:=h.ok
 obtain⟨g,hL,_⟩:=h
 have HC:=fun(r:Ref) (hr:r.name.size≤maxLen) W (hW:Fr No w W)=>zmI l bl n p g r W (hL.keep hW) hr
 obtain⟨_,A,cap,bo,ba,hB,_,_,_,hK,_,_,_⟩:=hL
 obtain⟨hp1,hp3⟩:=zbM hp
 have KB:=hB.r4
 obtain⟨all,hall⟩:∃all,all=zn6 p 0 p.keepers:=⟨_,rfl⟩
 rw[<-hall]
 have hI0:∀W,Fr No w W->RefI all (zn6 p 0 (p.keepers.drop 0)) w (5 * 0) (.slice none 0 0) W:=fun W hW=>by
  rw[List.drop_zero,<-hall]
  exact RefI.nil all w W hW
 obtain⟨c0,c1,c2,c3,cf,cl⟩:=KB w (Fr.refl _ _)
 obtain⟨i0,hi,hz0,hz1,hz2⟩:=info_parts zmw
 replace hi:=Lib.hid hi
 replace hz0:=Lib.hid hz0
 replace hz1:=Lib.hid hz1
 replace hz2:=Lib.hid hz2
 replace hall:=Lib.hid hall
 replace hI0:=Lib.hid hI0
 clear KB
 go_enter Tryz.func31,Tryz.ntmps31
 go_wp2_with fail
 go_loopw [14,3] (fun i v wr=>∃k:Nat,k≤p.keepers.length∧i=.int .i64 k∧Hid (RefI all (zn6 p k (p.keepers.drop k)) w (5 * k) v wr)) (fun i _ _=>p.keepers.length-(intOf i).toNat)
 case atStart=>exact⟨0,Nat.zero_le _,rfl,Lib.hid (hI0.out _ (Fr.refl _ _))⟩
 case round=>
  clear hI0
  obtain⟨k,hk,rfl,hI⟩:=hrel
  by_cases hlt:k<p.keepers.length
  ·obtain⟨xs,hx,hm,hrow,hnm,hq,hf⟩:=hI.out
   have hI2:Hid (RefI all (zn5 p k (p.keepers[k].owns.drop 0) ++ zn6 p (k+1) (p.keepers.drop (k+1))) w (5 * k+0) u3 wr):=by
    rw[List.drop_zero,<-zoa p k hlt]
    exact hI
   clear hI hx hm hrow hnm hq
   have ho5:=zn9 hp hlt
   have hadd:IntKind.i64.wrap ((k:Int)+1)=((k+1:Nat):Int):=by rw[IntWalk.i64_in _ (by omega)];simp
   obtain⟨b,off,Ao,co,Aa,ca,hAb,_,k0,k1,hO,_,_,_,_,_⟩:=hK.kpr hlt
   subst hAb
   replace k0:=hf.keep0 k0
   replace k1:=hf.keep0 k1
   have hwr:=hf.size
   go_wp2_with fail
   go_loopw [22,3] (fun i v wq=>∃j:Nat,j≤p.keepers[k].owns.length∧i=.int .i64 j∧Hid (RefI all (zn5 p k (p.keepers[k].owns.drop j) ++ zn6 p (k+1) (p.keepers.drop (k+1))) w (5 * k+j) v wq)) (fun i _ _=>p.keepers[k].owns.length-(intOf i).toNat)
   case atStart=>exact⟨0,Nat.zero_le _,rfl,Lib.hid (RefI.to hI2.out frc)⟩
   case round=>
    clear hI2 k0 k1
    obtain⟨j,hj,rfl,hI⟩:=hrel
    by_cases hlt2:j<p.keepers[k].owns.length
    ·obtain⟨xs,hx,hm,hrow,hnm,hq,hfw⟩:=hI.out
     clear hI
     rw[zob p k _ j hlt2] at hx
     obtain⟨b2,off2,Af,cf2,Am,cm,hAo,_,o0,o1,o2,o3,z0,z1,_,_,_,_,_,_⟩:=hO.cls hlt2
     subst hAo
     replace o0:=hfw.keep0 o0
     replace o1:=hfw.keep0 o1
     replace o2:=hfw.keep0 o2
     replace o3:=hfw.keep0 o3
     obtain⟨Av,cv,rfl,hc1,hc2⟩:=hrow.form
     have hadd2:IntKind.i64.wrap ((j:Int)+1)=((j+1:Nat):Int):=by rw[IntWalk.i64_in _ (by omega)];simp
     generalize p.keepers[k].owns[j]=c at *
     have HC2:=fun W (hW:Fr No wr W)=>HC ⟨k,c.name⟩ z0 W (hfw.trans0 hW)
     unfold zmG at HC2
     cases hch:(zmF p ⟨k,c.name⟩).isEmpty with
     | true=>
      have hch2:zmF p ⟨k,c.name⟩=[]:=List.isEmpty_iff.1 hch
      rw[if_pos hch] at hx
      rw[hch2] at HC2
      have hN:∀W,Fr No wr W->RefI all (zn5 p k (p.keepers[k].owns.drop (j+1)) ++ zn6 p (k+1) (p.keepers.drop (k+1))) w (5 * k+(j+1)) (.slice Av xs.length cv) W:=fun W hW=>⟨xs,hx,by omega,hrow.keep0 hW,hnm,hq,hfw.trans0 hW⟩
      replace hN:=Lib.hid hN
      clear hx hrow hnm hq hch hch2
      go_wp2_with (go_at_call 57;refine(HC2 _ frc).mono ?_;rintro e w2 ⟨v2,rfl,hsl,hf2⟩;obtain⟨A2,c2',rfl,_,_⟩:=hsl.form;have q2:Fr No wr w2:=(by refine Fr.trans0 ?_ hf2;exact frc))
      exact⟨⟨j+1,by omega,by simp,Lib.hid (hN.out _ q2)⟩,by simp[intOf];omega⟩
     | false=>
      have hpos:(0:Int)<((zmF p ⟨k,c.name⟩).length:Int):=by
       rcases Nat.eq_zero_or_pos (zmF p ⟨k,c.name⟩).length with h0|h0
       ·rw[List.eq_nil_of_length_eq_zero h0] at hch;cases hch
       ·omega
      rw[if_neg (by rw[hch];decide)] at hx
      have hN:∀g' cap' w2 w5,xs.length+1≤cap'->Fr No wr w2->RowV w5 tRef 2 (.slice (some ⟨g',0,none⟩) (xs.length+1) cap') (xs.length+1) (xs.flatMap zmo ++ [.int .i64 k,.string c.name])->Fr (fun b=>zcP (.slice Av xs.length cv)=some b) w2 w5->(zcP (.slice Av xs.length cv)=some g'∨g'=w2.heap.size)->
        RefI all (zn5 p k (p.keepers[k].owns.drop (j+1)) ++ zn6 p (k+1) (p.keepers.drop (k+1))) w (5 * k+(j+1)) (.slice (some ⟨g',0,none⟩) (xs.length+1) cap') w5:=fun g' cap' w2 w5 h1 h2 h3 h4 h5=>by
       refine⟨xs ++ [⟨k,c.name⟩],by rw[hx];simp,by simp;omega,by simpa[zmo] using h3,fun x hx=>?_,fun q hq'=>?_,(hfw.trans0 h2).trans h4 (fun b hb e=>by have:=hq b e;omega)⟩
       ·rcases List.mem_append.1 hx with hx|hx
        ·exact hnm x hx
        ·rw[List.mem_singleton.1 hx];exact z0
       ·rw[zcQ,if_neg (by omega)] at hq'
        cases hq'
        rcases h5 with h5|h5
        ·exact hq _ h5
        ·rw[h5];exact(hfw.trans0 h2).size
      replace hN:=Lib.hid hN
      clear hx hnm hq hch
      generalize zmF p ⟨k,c.name⟩=ch at *
      go_wp2_with (first
       | (go_at_call 57;refine(HC2 _ frc).mono ?_;rintro e w2 ⟨v2,rfl,hsl,hf2⟩;obtain⟨A2,c2',rfl,_,_⟩:=hsl.form;have q2:Fr No wr w2:=(by refine Fr.trans0 ?_ hf2;exact frc);have B8:Bx w2 (wr.heap.size+1) tRef #[.int .i64 k,.string c.name]:=(by refine Bx.keep ?_ hf2;exact bxc);obtain⟨e0,e1⟩:=B8.c2;have ef:=(fun i=>B8.frozen i);have el:=B8.lt;have hrB:=(hrow.keep0 q2).keep0 (show Fr No w2 (w2.alloc (.cells #[.int .i64 k,.string c.name] tRef)) from frc);have hnB:=(bxc:Bx (w2.alloc (.cells #[.int .i64 k,.string c.name] tRef)) w2.heap.size tRef [Value.int .i64 k,Value.string c.name].toArray).news;replace hnB:=Lib.hid hnB)
       | (at_builtin;refine zcS _ rfl _ _ 66 rfl tRef i0 (.agg #[.int .i64 0,.string ⟨#[]⟩]) 2 24 Tryz.underlying66 hi.out hz0.out hz1.out hz2.out rfl (by decide) (.slice Av xs.length cv) xs.length (xs.flatMap zmo) rfl hrB ⟨w2.heap.size,0,none⟩ 1 1 [Value.int .i64 k,Value.string c.name] rfl rfl hnB.out (by simp[Value.oneCell']) (by decide) (by unfold maxLen;omega) (by omega) ?_;intro g' cap' w5 hrow5 hcap hgf hor))
      exact⟨⟨j+1,by omega,by simp,Lib.hid (hN.out _ _ _ _ hcap (q2.trans0 frc) hrow5 hgf hor)⟩,by simp[intOf];omega⟩
    ·obtain rfl:j=p.keepers[k].owns.length:=by omega
     rw[List.drop_length,zn5,List.nil_append] at hI
     have hI9:=Lib.hid (hI.out.mono (m':=5 * (k+1)) (by omega))
     clear hI
     go_wp2_with fail
     exact⟨⟨k+1,by omega,by simp,hI9⟩,by simp[intOf];omega⟩
  ·obtain rfl:k=p.keepers.length:=by omega
   rw[List.drop_length,zn6] at hI
   obtain⟨xs,hx,hm,hrow,hnm,hq,hf⟩:=hI.out
   obtain⟨Av,cv,rfl,_,_⟩:=hrow.form
   clear hI
   go_wp2_with fail
   refine bodyPost_ret (v:=.slice Av xs.length cv) (by simp[results,Tryz.results31,go_sem]) rfl ?_
   exact⟨_,rfl,xs,hx,by omega,hrow,hnm,hq,hf⟩
def zod:Nat->List Kpr->List Ref
 | _,[]=>[]
 | k,y :: ys=>y.owns.map (fun c=>⟨k,c.name⟩) ++ zod (k+1) ys
theorem zoe (p:Plan) (k:Nat) (h:k<p.keepers.length):zod k (p.keepers.drop k)=p.keepers[k].owns.map (fun c=>⟨k,c.name⟩) ++ zod (k+1) (p.keepers.drop (k+1)):=by
 rw[List.drop_eq_getElem_cons h,zod]
theorem zof (p:Plan) (k:Nat):∀cs:List Cls,zn5 p k cs=(cs.map (fun c=>(⟨k,c.name⟩:Ref))).filter (fun r=>!(zmF p r).isEmpty)
 | []=>rfl
 | c :: cs=>by
  rw[zn5,zof p k cs,List.map_cons,List.filter_cons]
  cases(zmF p ⟨k,c.name⟩).isEmpty<;>rfl
theorem zog (p:Plan):∀(k:Nat) (ys:List Kpr),zn6 p k ys=(zod k ys).filter (fun r=>!(zmF p r).isEmpty)
 | _,[]=>rfl
 | k,y :: ys=>by rw[zn6,zod,List.filter_append,zof,zog p (k+1) ys]
theorem RefI.lit {all:List Ref} {w W:World} {A:Option Addr} (hf:Fr No w W):RefI all all w 0 (.slice A 0 0) W:=by
 refine⟨[],rfl,Nat.le_refl _,?_,fun _ h=>absurd h (by simp),fun q hq=>?_,hf⟩
 ·cases A with
  | none=>exact RowV.nil _ _ _
  | some a=>exact .inr ⟨rfl,rfl,a,rfl⟩
 ·cases A<;>cases hq
theorem RefI.fr {all rest:List Ref} {w W:World} {m:Nat} {v:Value} (h:RefI all rest w m v W):Fr No w W:=by
 obtain⟨_,_,_,_,_,_,h⟩:=h
 exact h
theorem RefI.grow {all rest:List Ref} {w wr w2 w5:World} {xs:List Ref} {Av:Option Addr} {cv m:Nat} {x:Ref} {g' cap':Nat} (hx:all=xs ++ x :: rest) (hm:xs.length≤m) (hnm:∀y∈xs,y.name.size≤maxLen) (hxn:x.name.size≤maxLen) (hq:∀q,zcP (.slice Av xs.length cv)=some q->w.heap.size≤q) (hfw:Fr No w wr)
  (h1:xs.length+1≤cap') (h2:Fr No wr w2) (h3:RowV w5 tRef 2 (.slice (some ⟨g',0,none⟩) (xs.length+1) cap') (xs.length+1) (xs.flatMap zmo ++ zmo x)) (h4:Fr (fun b=>zcP (.slice Av xs.length cv)=some b) w2 w5) (h5:zcP (.slice Av xs.length cv)=some g'∨g'=w2.heap.size):
  RefI all rest w (m+1) (.slice (some ⟨g',0,none⟩) (xs.length+1) cap') w5:=by
 refine⟨xs ++ [x],by rw[hx];simp,by simp;omega,by simpa[zmo] using h3,fun y hy=>?_,fun q hq'=>?_,(hfw.trans0 h2).trans h4 (fun b hb e=>by have:=hq b e;omega)⟩
 ·rcases List.mem_append.1 hy with hy|hy
  ·exact hnm y hy
  ·rw[List.mem_singleton.1 hy];exact hxn
 ·rw[zcQ,if_neg (by omega)] at hq'
  cases hq'
  rcases h5 with h5|h5
  ·exact hq _ h5
  ·rw[h5];exact(hfw.trans0 h2).size
theorem zoh (X:Nat->Prop) (p:Plan) (v:Value) (w:World) (hp:lodB p=true) (h:Sl X w 2 (KprC X w) v p.keepers):
  Calls Tryz.prog 56 #[.agg #[v]] w (zn8 (zod 0 p.keepers) w):=by
 obtain⟨hp1,hp3⟩:=zbM hp
 obtain⟨A,cap,rfl,_,_⟩:=h.form
 obtain⟨wA,hwA⟩:∃wA,wA=(w.alloc (.cells #[.slice A p.keepers.length cap] 32)):=⟨_,rfl⟩
 have hfA:Fr No w wA:=hwA▸frc
 have B0:=(hwA▸bxc:Bx wA w.heap.size 32 #[.slice A p.keepers.length cap])
 have KA:=B0.r1
 have hK:=h.keep (R':=KprC X wA) hfA (fun _ h=>h.elim) (fun _ _ _ h=>h.keep hfA (fun _ h=>h.elim))
 clear h B0
 obtain⟨all,hall⟩:∃all,all=zod 0 p.keepers:=⟨_,rfl⟩
 rw[<-hall]
 have hI0:∀A W,Fr No wA W->RefI all (zod 0 (p.keepers.drop 0)) wA (5 * 0) (.slice A 0 0) W:=fun A W hW=>by
  rw[List.drop_zero,<-hall]
  exact RefI.lit hW
 obtain⟨i0,hi,hz0,hz1,hz2⟩:=info_parts zmw
 replace hi:=Lib.hid hi
 replace hz0:=Lib.hid hz0
 replace hz1:=Lib.hid hz1
 replace hz2:=Lib.hid hz2
 replace hall:=Lib.hid hall
 replace hI0:=Lib.hid hI0
 go_enter Tryz.func56,Tryz.ntmps56
 go_wp2_with fail
 rw[<-hwA]
 replace hwA:=Lib.hid hwA
 go_loopw [4,3] (fun i v wr=>∃k:Nat,k≤p.keepers.length∧i=.int .i64 k∧Hid (RefI all (zod k (p.keepers.drop k)) wA (5 * k) v wr)) (fun i _ _=>p.keepers.length-(intOf i).toNat)
 case atStart=>exact⟨0,Nat.zero_le _,rfl,Lib.hid (hI0.out _ _ frc)⟩
 case round=>
  clear hI0
  obtain⟨k,hk,rfl,hI⟩:=hrel
  by_cases hlt:k<p.keepers.length
  ·obtain⟨xs,hx,hm,hrow,hnm,hq,hf⟩:=hI.out
   have hI2:Hid (RefI all ((p.keepers[k].owns.drop 0).map (fun c=>(⟨k,c.name⟩:Ref)) ++ zod (k+1) (p.keepers.drop (k+1))) wA (5 * k+0) u3 wr):=by
    rw[List.drop_zero,<-zoe p k hlt]
    exact hI
   clear hI hx hm hrow hnm hq
   have ho5:=zn9 hp hlt
   have hadd:IntKind.i64.wrap ((k:Int)+1)=((k+1:Nat):Int):=by rw[IntWalk.i64_in _ (by omega)];simp
   obtain⟨b,off,Ao,co,Aa,ca,hAb,_,k0,k1,hO,_,_,_,_,_⟩:=hK.kpr hlt
   subst hAb
   have KK:=cr k0
   obtain⟨x0,_,xl⟩:=KA wr hf
   go_wp2_with fail
   go_loopw [5,3] (fun i v wq=>∃j:Nat,j≤p.keepers[k].owns.length∧i=.int .i64 j∧Hid (RefI all ((p.keepers[k].owns.drop j).map (fun c=>(⟨k,c.name⟩:Ref)) ++ zod (k+1) (p.keepers.drop (k+1))) wA (5 * k+j) v wq)) (fun i _ _=>p.keepers[k].owns.length-(intOf i).toNat)
   case atStart=>exact⟨0,Nat.zero_le _,rfl,Lib.hid (RefI.to hI2.out frc)⟩
   case round=>
    clear hI2 x0 xl
    obtain⟨j,hj,rfl,hI⟩:=hrel
    have hfq:Fr No wA wr:=hI.out.fr
    obtain⟨x0,_,xl⟩:=KA wr hfq
    have y0:=KK wr hfq
    by_cases hlt2:j<p.keepers[k].owns.length
    ·obtain⟨xs,hx,hm,hrow,hnm,hq,hfw⟩:=hI.out
     clear hI
     rw[List.drop_eq_getElem_cons hlt2,List.map_cons,List.cons_append] at hx
     obtain⟨b2,off2,Af,cf2,Am,cm,hAo,_,o0,o1,o2,o3,z0,z1,_,_,_,_,_,_⟩:=hO.cls hlt2
     subst hAo
     replace o0:=hfw.keep0 o0
     obtain⟨Av,cv,rfl,hc1,hc2⟩:=hrow.form
     have hadd2:IntKind.i64.wrap ((j:Int)+1)=((j+1:Nat):Int):=by rw[IntWalk.i64_in _ (by omega)];simp
     generalize p.keepers[k].owns[j]=c at *
     have hN:=fun g' cap' w2 w5 h1 h2 h3 h4 h5=>RefI.grow (w:=wA) (wr:=wr) (w2:=w2) (w5:=w5) (cv:=cv) (Av:=Av) (g':=g') (cap':=cap') hx hm hnm z0 hq hfw h1 h2 h3 h4 h5
     replace hN:=Lib.hid hN
     have hrB:=hrow.keep0 (show Fr No wr (wr.alloc (.cells #[.int .i64 k,.string c.name] tRef)) from frc)
     have hnB:=Lib.hid (bxc:Bx (wr.alloc (.cells #[.int .i64 k,.string c.name] tRef)) wr.heap.size tRef [Value.int .i64 k,Value.string c.name].toArray).news
     clear hx hnm hq hrow
     go_wp2_with (at_builtin;refine zcS _ rfl _ _ 66 rfl tRef i0 (.agg #[.int .i64 0,.string ⟨#[]⟩]) 2 24 Tryz.underlying66 hi.out hz0.out hz1.out hz2.out rfl (by decide) (.slice Av xs.length cv) xs.length (xs.flatMap zmo) rfl hrB ⟨wr.heap.size,0,none⟩ 1 1 [Value.int .i64 k,Value.string c.name] rfl rfl hnB.out (by simp[Value.oneCell']) (by decide) (by unfold maxLen;omega) (by omega) ?_;intro g' cap' w5 hrow5 hcap hgf hor)
     exact⟨⟨j+1,by omega,by simp,Lib.hid (hN.out _ _ _ _ hcap frc hrow5 hgf hor)⟩,by simp[intOf];omega⟩
    ·obtain rfl:j=p.keepers[k].owns.length:=by omega
     rw[List.drop_length,List.map_nil,List.nil_append] at hI
     have hI9:=Lib.hid (hI.out.mono (m':=5 * (k+1)) (by omega))
     clear hI
     go_wp2_with fail
     exact⟨⟨k+1,by omega,by simp,hI9⟩,by simp[intOf];omega⟩
  ·obtain rfl:k=p.keepers.length:=by omega
   rw[List.drop_length,zod] at hI
   obtain⟨xs,hx,hm,hrow,hnm,hq,hf⟩:=hI.out
   obtain⟨x0,_,xl⟩:=KA wr hf
   obtain⟨Av,cv,rfl,_,_⟩:=hrow.form
   clear hI
   go_wp2_with fail
   refine bodyPost_ret (v:=.slice Av xs.length cv) (by simp[results,Tryz.results56,go_sem]) rfl ?_
   exact⟨_,rfl,xs,hx,by omega,hrow,hnm,fun q e=>Nat.le_trans hfA.size (hq q e),hfA.trans0 hf⟩
theorem zoi:∀(pre:List Ref) (k:Nat) (hk:k<pre.length) (j:Nat),j<2->(pre.flatMap zmo)[k * 2+j]? =(zmo pre[k])[j]?
 | a :: pre,0,_,j,hj=>by
  rw[List.flatMap_cons,List.getElem?_append_left (by simp[zmo];omega)]
  simp
 | a :: pre,k+1,hk,j,hj=>by
  rw[List.flatMap_cons,List.getElem?_append_right (by simp[zmo];omega)]
  have:=zoi pre k (by simpa using hk) j hj
  have e:(k+1) * 2+j-(zmo a).length=k * 2+j:=by simp[zmo];omega
  rw[e,this]
  simp
theorem zoj {X:Nat->Prop} {w:World} {e:TypeId} {v:Value} {xs:List Ref} (h:RowV w e 2 v xs.length (xs.flatMap zmo)) (hn:∀x∈xs,x.name.size≤maxLen) (hX:∀q,zcP v=some q->¬X q):Sl X w 2 RefC v xs:=by
 obtain⟨A,c,rfl,h1,h2⟩:=h.form
 refine⟨A,c,rfl,h1,by omega,fun h0=>?_⟩
 obtain⟨g,c',cur,he,_,_,hb,h3,h4,hq⟩:=h.at_ h0
 cases he
 refine⟨g,0,rfl,hX g hq,fun k hk=>⟨zmo xs[k],⟨rfl,hn _ (List.getElem_mem hk)⟩,rfl,fun j hj=>?_⟩⟩
 rw[Nat.zero_add,h.cell rfl (by omega),zoi xs k hk j hj]
theorem zok (p:Plan) (k:Nat):∀(cs:List Cls) (x:Ref),x∈zn5 p k cs->x.keeper=(k:Int)
 | [],x,h=>by cases h
 | c :: cs,x,h=>by
  rw[zn5] at h
  split at h
  ·exact zok p k cs x h
  ·rcases List.mem_cons.1 h with rfl|h
   ·rfl
   ·exact zok p k cs x h
theorem zol (p:Plan):∀(ys:List Kpr) (k:Nat) (x:Ref),x∈zn6 p k ys->∃q:Nat,x.keeper=(q:Int)∧q<k+ys.length
 | [],k,x,h=>by cases h
 | y :: ys,k,x,h=>by
  rw[zn6,List.mem_append] at h
  rcases h with h|h
  ·exact⟨k,zok p k _ x h,by simp⟩
  ·obtain⟨q,h1,h2⟩:=zol p ys (k+1) x h
   exact⟨q,h1,by simp only[List.length_cons];omega⟩
theorem zom (p:Plan) (v:Value) (w:World) (h:Sl No w 2 (KprC No w) v p.keepers):
  Calls Tryz.prog 14 #[.agg #[v]] w (Gives (.bool (zn7 p)) w):=by
 obtain⟨A,cap,rfl,_,_⟩:=h.form
 obtain⟨wA,hwA⟩:∃wA,wA=(w.alloc (.cells #[.slice A p.keepers.length cap] 32)):=⟨_,rfl⟩
 have hfA:Fr No w wA:=hwA▸frc
 have HN:=zgH p _ wA (h.keep hfA (fun _ h=>h.elim) (fun _ _ _ h=>h.keep hfA (fun _ h=>h.elim)))
 have hlay:zn7 p=(lodB p&&(zn6 p 0 p.keepers).all (zcO p)):=rfl
 unfold zgG at HN
 generalize zn7 p=L at *
 clear h
 have hsA:=hfA.size
 cases hp:lodB p
 ·rw[hp] at HN hlay
  obtain rfl:L=false:=hlay
  go_enter Tryz.func14,Tryz.ntmps14
  go_wp2_with fail
  rw[<-hwA]
  replace hwA:=Lib.hid hwA
  refine HN.mono ?_
  rintro e w1 ⟨hf1,⟨_,rfl⟩ | ⟨hno,_⟩⟩
  ·clear HN
   go_wp2
   refine bodyPost_ret (v:=.bool false) (by simp[results,Tryz.results14,go_sem]) rfl ?_
   exact⟨rfl,hfA.trans0 hf1⟩
  ·cases hno
 ·rw[hp] at HN hlay
  obtain rfl:L=(zn6 p 0 p.keepers).all (zcO p):=hlay
  have hk3:=(zbM hp).2
  have hmem:∀x∈zn6 p 0 p.keepers,(Lit.int .i64 x.keeper).wf=true:=fun x hx=>by
   obtain⟨q,h1,h2⟩:=zol p _ _ x hx
   rw[h1]
   exact zb3 (by omega) (by omega)
  have HCl:=fun l bl W (hL:Lg W l bl 0 p)=>zoc l bl 0 p W hL
  generalize zn6 p 0 p.keepers=xs at *
  go_enter Tryz.func14,Tryz.ntmps14
  go_wp2_with fail
  rw[<-hwA]
  replace hwA:=Lib.hid hwA
  refine HN.mono ?_
  rintro e w1 ⟨hf1,⟨hno,_⟩ | ⟨_,l,bl,rfl,hll,hbl,hLo⟩⟩
  ·cases hno
  ·have hLg:Lg w1 l bl 0 p:=⟨_,hLo,fun _ _ _ h=>by cases h⟩
   have hs1:=hf1.size
   have hblt:=hLg.lt
   have HQ:=HCl l bl w1 hLg
   clear HN hLo HCl
   go_wp2_with (go_at_call 31;refine HQ.mono ?_;rintro e w2 ⟨v2,rfl,ys,hy,hm15,hrow,hnm,hq,hf2⟩;obtain rfl:xs=ys:=(by simpa using hy);clear hy;obtain⟨Ac,cc,rfl,_,_⟩:=hrow.form)
   have hXb:∀q,zcP (.slice Ac xs.length cc)=some q->¬(q=bl):=fun q hb e=>by have:=hq q hb;omega
   have hSl:=zoj (X:=fun b=>b=bl) hrow hnm hXb
   have hL2:=hLg.keep hf2
   have hs2:=hf2.size
   have hxl:xs.length≤15:=hm15
   have hI0:Hid (Lg w2 l bl (200 * 0) p∧Fr (fun b=>b=bl) w2 w2∧(xs.take 0).all (zcO p)=true):=Lib.hid ⟨hL2,Fr.refl _ _,rfl⟩
   clear hrow hq HQ
   go_loopw [13] (fun i wr=>∃j:Nat,j≤xs.length∧i=.int .i64 j∧Hid (Lg wr l bl (200 * j) p∧Fr (fun b=>b=bl) w2 wr∧(xs.take j).all (zcO p)=true)) (fun i _=>xs.length-(intOf i).toNat)
   case atStart=>exact⟨0,Nat.zero_le _,rfl,hI0⟩
   case round=>
    clear hI0
    obtain⟨j,hj,rfl,hI⟩:=hrel
    obtain⟨hlg,hf,hall⟩:=hI.out
    clear hI
    have hw0:Fr No w wr:=((hfA.trans0 hf1).trans0 hf2).trans hf (fun b hb e=>by omega)
    by_cases hlt:j<xs.length
    ·obtain⟨b,off,hAc,_,c0,c1,hsz⟩:=(hSl.keep (R':=RefC) hf (fun _ h=>h) (fun _ _ _ h=>h)).ref hlt
     subst hAc
     have hwk:=hmem _ (List.getElem_mem hlt)
     have HR:=fun W (hW:Fr No wr W)=>zli l bl (200 * j) p xs[j] W (hlg.keep hW) hsz hwk (zlk hp) (by omega)
     have ht:=zle (zcO p) xs j hlt
     rw[hall,Bool.true_and] at ht
     have hno:=zlf (zcO p) xs j hlt
     unfold zk9 at HR
     generalize zcO p xs[j]=R at *
     generalize xs[j]=x at *
     replace hlg:=Lib.hid hlg
     replace hall:=Lib.hid hall
     replace ht:=Lib.hid ht
     have hadd:IntKind.i64.wrap ((j:Int)+1)=((j+1:Nat):Int):=by rw[IntWalk.i64_in _ (by omega)];simp
     cases R
     ·have hno2:=Lib.hid (hno rfl)
      clear hno
      go_wp2_with (go_at_call 27;refine(HR _ frc).mono ?_;rintro e w3 ⟨rfl,hl3,hf3⟩)
      refine bodyPost_ret (v:=.bool false) (by simp[results,Tryz.results14,go_sem]) rfl ?_
      exact⟨by rw[hno2.out],(hw0.trans0 frc).trans hf3 (fun b hb e=>by omega)⟩
     ·clear hno
      go_wp2_with (go_at_call 27;refine(HR _ frc).mono ?_;rintro e w3 ⟨rfl,hl3,hf3⟩)
      exact⟨⟨j+1,by omega,by simp,Lib.hid ⟨hl3.mono (by omega),hf.same ((frc:Fr No wr (wr.alloc (.cells #[.int .i64 x.keeper,.string x.name] tRef))).of0.same hf3),ht.out⟩⟩,by simp[intOf];omega⟩
    ·obtain rfl:j=xs.length:=by omega
     rw[List.take_length] at hall
     have hall2:=Lib.hid hall
     clear hall
     replace hlg:=Lib.hid hlg
     go_wp2_with fail
     refine bodyPost_ret (v:=.bool true) (by simp[results,Tryz.results14,go_sem]) rfl ?_
     exact⟨by rw[hall2.out],hw0⟩
def zon (p:Plan) (r:Ref):Bool:=!(zmF p r).isEmpty
def plsC (p:Plan):List Ref:=if lodB p then zn6 p 0 p.keepers else []
theorem zoo (p:Plan):zn6 p 0 p.keepers=(zod 0 p.keepers).filter (zon p):=zog p 0 p.keepers
theorem zop (X:Nat->Prop) (p:Plan) (v:Value) (w:World) (h:Sl X w 2 (KprC X w) v p.keepers):
  Calls Tryz.prog 30 #[.agg #[v]] w (zn8 (plsC p) w):=by
 have hkw:=fun W (hW:Fr No w W)=>h.keep (R':=KprC X W) hW (fun _ h=>h.elim) (fun _ _ _ h=>h.keep hW (fun _ h=>h.elim))
 have HO:=fun W (hW:Fr No w W)=>zaP X p v W (hkw W hW)
 have HA:=fun hp W (hW:Fr No w W)=>zoh X p v W hp (hkw W hW)
 have HC:=fun(r:Ref) (hr:r.name.size≤maxLen) W (hW:Fr No w W)=>zdb X p v r W (hkw W hW) hr
 obtain⟨A,cap,rfl,_,_⟩:=h.form
 clear hkw h
 obtain⟨wA,hwA⟩:∃wA,wA=((w.alloc (.cells #[.slice A p.keepers.length cap] 32)).alloc (.cells #[] tRef)):=⟨_,rfl⟩
 have hfA:Fr No w wA:=hwA▸frc
 have B0:=(hwA▸bxc:Bx wA w.heap.size 32 #[.slice A p.keepers.length cap])
 have KA:=B0.r1
 clear B0
 obtain⟨L,hL⟩:∃L,L=plsC p:=⟨_,rfl⟩
 rw[<-hL]
 go_enter Tryz.func30,Tryz.ntmps30
 go_wp2_with fail
 rw[<-hwA]
 replace hwA:=Lib.hid hwA
 refine(HO _ hfA).mono ?_
 rintro e w1 ⟨rfl,hf1⟩
 obtain⟨x0,_,xl⟩:=KA w1 hf1
 cases hp:lodB p with
 | false=>
  obtain rfl:L=[]:=by rw[hL];unfold plsC;rw[hp];rfl
  clear HA HC hL
  go_wp2_with fail
  refine bodyPost_ret (v:=.slice (some ⟨w.heap.size+1,0,none⟩) 0 0) (by simp[results,Tryz.results30,go_sem]) rfl ?_
  exact⟨_,rfl,(RefI.lit (hfA.trans0 hf1)).mono (by omega)⟩
 | true=>
  obtain rfl:L=(zod 0 p.keepers).filter (zon p):=by rw[hL];unfold plsC;rw[hp,<-zoo];rfl
  clear hL
  have HA2:=HA hp w1 (hfA.trans0 hf1)
  have hchs:∀r,za8 p r=zmF p r:=fun r=>by unfold za8;rw[hp];rfl
  have hhF:∀r,zon p r=!(zmF p r).isEmpty:=fun _=>rfl
  clear HO HA
  generalize zon p=F at *
  generalize zod 0 p.keepers=ys at *
  go_wp2_with fail
  refine HA2.mono ?_
  rintro e w2 ⟨v2,rfl,ys',hy,hm15,hrow,hnm,hq,hf2⟩
  obtain rfl:ys=ys':=by simpa using hy
  clear hy x0 xl HA2
  obtain⟨Ac,cc,rfl,_,_⟩:=hrow.form
  have hSl:=zoj (X:=No) hrow hnm (fun _ _ h=>h)
  have hyl:ys.length≤15:=hm15
  have q2:Fr No wA w2:=hf1.trans0 hf2
  have hI0:Hid (RefI (ys.filter F) ((ys.drop 0).filter F) w2 0 (.slice (some ⟨w.heap.size+1,0,none⟩) 0 0) w2):=by
   rw[List.drop_zero]
   exact RefI.lit (Fr.refl _ _)
  obtain⟨i0,hi,hz0,hz1,hz2⟩:=info_parts zmw
  replace hi:=Lib.hid hi
  replace hz0:=Lib.hid hz0
  replace hz1:=Lib.hid hz1
  replace hz2:=Lib.hid hz2
  clear hrow hq hnm hf1 hf2 hm15
  go_wp2_with fail
  go_loopw [5,3] (fun i v wr=>∃j:Nat,j≤ys.length∧i=.int .i64 j∧Hid (RefI (ys.filter F) ((ys.drop j).filter F) w2 j v wr)) (fun i _ _=>ys.length-(intOf i).toNat)
  case atStart=>exact⟨0,Nat.zero_le _,rfl,hI0⟩
  case round=>
   clear hI0
   obtain⟨j,hj,rfl,hI⟩:=hrel
   have hadd:IntKind.i64.wrap ((j:Int)+1)=((j+1:Nat):Int):=by rw[IntWalk.i64_in _ (by omega)];simp
   by_cases hlt:j<ys.length
   ·obtain⟨xs,hx,hm,hrow,hnm,hq,hfw⟩:=hI.out
    clear hI
    have q3:=q2.trans0 hfw
    obtain⟨b,off,hAc,_,c0,c1,hsz⟩:=hSl.ref hlt
    subst hAc
    have KX0:=cr (hfw.keep0 c0)
    have KX1:=cr (hfw.keep0 c1)
    have K0:=fun W (h:Fr No wr W)=>KA W (q3.trans0 h)
    obtain⟨x0,_,xl⟩:=K0 wr (Fr.refl _ _)
    rw[List.drop_eq_getElem_cons hlt,List.filter_cons,hhF] at hx
    have HCx:=fun W (hW:Fr No wr W)=>HC ys[j] hsz W ((hfA.trans0 q3).trans0 hW)
    rw[hchs] at HCx
    unfold zmG at HCx
    generalize ys[j]=x at *
    obtain⟨Av,cv,rfl,hc1,hc2⟩:=hrow.form
    replace HCx:=Lib.hid HCx
    clear KA HC hhF hchs c0 c1 hSl
    go_wp2_with fail
    refine zn0 5 24 [mV (.agg #[.slice A p.keepers.length cap]),mV (.slice (some ⟨b,off,none⟩) ys.length cc),mV (.int .i64 j),mV (.pointer (some ⟨b,off+j * 2,none⟩)),mV (.agg #[.int .i64 x.keeper,.string x.name])] (by kernel_rfl) (by kernel_rfl) (by simp) ?_ ?_
    ·refine hopC ?_ <| hopC ?_ <| hopC ?_ <| hopC ?_ <| hopC ?_ <| hopZ
     all_goals (intro a' W hW hoff hdep;have hbs:=hW.size;have H1:=hoff 1 rfl;have H4:=hoff 4 rfl;have H5:=hoff 5 rfl;refine nE rfl ?_)
     ·clear hoff hdep;simp[execOp,Act.eval,go_sem,zaa, *];exact fr1 rfl
     ·simp[execOp,Act.eval,H4,go_sem,zaa];exact fr1 rfl
     ·simp[execOp,Act.eval,H5,go_sem,zaa];exact fr1 rfl
     ·have D20:_=_:=hdep 1 20 rfl;have D21:_=_:=hdep 2 21 rfl;clear hoff hdep;simp[execOp,Act.eval,go_sem,zaa, *];exact fr1 rfl
     ·have D22:_=_:=hdep 3 22 rfl;clear hoff hdep;simp[execOp,Act.eval,go_sem,zaa, *];exact fr1 rfl
    intro vs WR hWR hv hne
    simp only[lz6,List.drop_zero,znK,znR,Nat.zero_add,Nat.reduceAdd]
    simp only[Act.put,lz0,lz1,lz2]
    clear hv
    cases hch:(zmF p x).isEmpty with
    | true=>
     have hch2:zmF p x=[]:=List.isEmpty_iff.1 hch
     rw[hch,if_neg (by decide)] at hx
     rw[hch2] at HCx
     have hN:∀W,Fr No wr W->RefI (ys.filter F) ((ys.drop (j+1)).filter F) w2 (j+1) (.slice Av xs.length cv) W:=fun W hW=>⟨xs,hx,by omega,hrow.keep0 hW,hnm,hq,hfw.trans0 hW⟩
     replace hN:=Lib.hid hN
     clear hx hrow hnm hq hch hch2 KX0 KX1
     go_wp2_with (go_at_call 40;refine(HCx.out _ hWR).mono ?_;rintro e w3 ⟨v3,rfl,hsl,hf3⟩;obtain⟨A3,c3,rfl,_,_⟩:=hsl.form)
     exact⟨⟨j+1,by omega,by simp,Lib.hid (hN.out _ (hWR.trans0 hf3))⟩,by simp[intOf];omega⟩
    | false=>
     have hpos:(0:Int)<((zmF p x).length:Int):=by
      rcases Nat.eq_zero_or_pos (zmF p x).length with h0|h0
      ·rw[List.eq_nil_of_length_eq_zero h0] at hch;cases hch
      ·omega
     rw[hch,if_pos (by decide)] at hx
     have hN:=fun g' cap' w3 w5 h1 h2 h3 h4 h5=>RefI.grow (w:=w2) (wr:=wr) (w2:=w3) (w5:=w5) (cv:=cv) (Av:=Av) (g':=g') (cap':=cap') hx hm hnm hsz hq hfw h1 h2 h3 h4 h5
     replace hN:=Lib.hid hN
     clear hx hnm hq hch
     generalize zmF p x=ch at *
     go_wp2_with (first
      | (go_at_call 40;refine(HCx.out _ hWR).mono ?_;rintro e w3 ⟨v3,rfl,hsl,hf3⟩;obtain⟨A3,c3,rfl,_,_⟩:=hsl.form;have y0:=KX0 w3 (hWR.trans0 hf3);have y1:=KX1 w3 (hWR.trans0 hf3);have hrB:=hrow.keep0 ((hWR.trans0 hf3).trans0 (show Fr No w3 (w3.alloc (.cells #[.int .i64 x.keeper,.string x.name] tRef)) from frc));have hnB:=Lib.hid (bxc:Bx (w3.alloc (.cells #[.int .i64 x.keeper,.string x.name] tRef)) w3.heap.size tRef [Value.int .i64 x.keeper,Value.string x.name].toArray).news)
      | (at_builtin;refine zcS _ rfl _ _ 66 rfl tRef i0 (.agg #[.int .i64 0,.string ⟨#[]⟩]) 2 24 Tryz.underlying66 hi.out hz0.out hz1.out hz2.out rfl (by decide) (.slice Av xs.length cv) xs.length (xs.flatMap zmo) rfl hrB ⟨w3.heap.size,0,none⟩ 1 1 [Value.int .i64 x.keeper,Value.string x.name] rfl rfl hnB.out (by simp[Value.oneCell']) (by decide) (by unfold maxLen;omega) (by omega) ?_;intro g' cap' w5 hrow5 hcap hgf hor))
     exact⟨⟨j+1,by omega,by simp,Lib.hid (hN.out _ _ _ _ hcap ((hWR.trans0 hf3).trans0 frc) hrow5 hgf hor)⟩,by simp[intOf];omega⟩
   ·obtain rfl:j=ys.length:=by omega
    rw[List.drop_length,List.filter_nil] at hI
    obtain⟨xs,hx,hm,hrow,hnm,hq,hfw⟩:=hI.out
    obtain⟨Av,cv,rfl,hc1,hc2⟩:=hrow.form
    clear hI
    go_wp2_with fail
    refine bodyPost_ret (v:=.slice Av xs.length cv) (by simp[results,Tryz.results30,go_sem]) rfl ?_
    exact⟨_,rfl,xs,hx,by omega,hrow,hnm,fun q e=>by have:=(hfA.trans0 q2).size;have:=hq q e;omega,(hfA.trans0 q2).trans0 hfw⟩
theorem zoq (p:Plan) (v:Value) (w:World) (h:Sl No w 2 (KprC No w) v p.keepers):
  Calls Tryz.prog 13 #[.agg #[v]] w (zgm (zn7 p) w):=by
 have hkw:=fun W (hW:Fr No w W)=>h.keep (R':=KprC No W) hW (fun _ h=>h.elim) (fun _ _ _ h=>h.keep hW (fun _ h=>h.elim))
 have HO:=fun W (hW:Fr No w W)=>zaP No p v W (hkw W hW)
 have HA:=fun W (hW:Fr No w W)=>zop No p v W (hkw W hW)
 have HC:=fun(r:Ref) (hr:r.name.size≤maxLen) W (hW:Fr No w W)=>zic (fun b=>W.heap.size≤b) p v r W ((hkw W hW).old (by decide) (fun _ _ _ h=>h.old)) (fun _ h=>h) hr
 obtain⟨A,cap,rfl,_,_⟩:=h.form
 clear hkw h
 obtain⟨wA,hwA⟩:∃wA,wA=(w.alloc (.cells #[.slice A p.keepers.length cap] 32)):=⟨_,rfl⟩
 have hfA:Fr No w wA:=hwA▸frc
 have B0:=(hwA▸bxc:Bx wA w.heap.size 32 #[.slice A p.keepers.length cap])
 have KA:=B0.r1
 clear B0
 obtain⟨L,hL⟩:∃L,L=zn7 p:=⟨_,rfl⟩
 rw[<-hL]
 go_enter Tryz.func13,Tryz.ntmps13
 go_wp2_with fail
 rw[<-hwA]
 replace hwA:=Lib.hid hwA
 refine(HO _ hfA).mono ?_
 rintro e w1 ⟨rfl,hf1⟩
 obtain⟨x0,_,xl⟩:=KA w1 hf1
 cases hp:lodB p with
 | false=>
  obtain rfl:L=false:=by rw[hL];unfold zn7;rw[hp];rfl
  clear HA HC hL
  go_wp2
  go_ret
  exact .mk rfl (hfA.trans0 hf1)
 | true=>
  obtain rfl:L=(plsC p).all (zcO p):=by rw[hL];unfold zn7 plsC;rw[hp];rfl
  have HA2:=HA w1 (hfA.trans0 hf1)
  have hrt:∀r,lkcS p r=zcO p r:=fun r=>by unfold lkcS;rw[hp];rfl
  clear HO HA hL
  generalize zcO p=F at *
  generalize plsC p=ys at *
  go_wp2_with fail
  refine HA2.mono ?_
  rintro e w2 ⟨v2,rfl,ys',hy,hm15,hrow,hnm,hq,hf2⟩
  obtain rfl:ys=ys':=by simpa using hy
  clear hy x0 xl HA2
  obtain⟨Ac,cc,rfl,_,_⟩:=hrow.form
  have hSl:=zoj (X:=No) hrow hnm (fun _ _ h=>h)
  have hyl:ys.length≤15:=hm15
  have q2:Fr No wA w2:=hf1.trans0 hf2
  have hI0:Hid ((ys.take 0).all F=true):=rfl
  clear hrow hq hnm hf1 hf2 hm15
  go_wp2_with fail
  go_loopw [4] (fun i wr=>∃j:Nat,j≤ys.length∧i=.int .i64 j∧Hid ((ys.take j).all F=true)∧Fr No w2 wr) (fun i _=>ys.length-(intOf i).toNat)
  case atStart=>exact⟨0,Nat.zero_le _,rfl,hI0,Fr.refl _ _⟩
  case round=>
   clear hI0
   obtain⟨j,hj,rfl,hall,hfw⟩:=hrel
   have hadd:IntKind.i64.wrap ((j:Int)+1)=((j+1:Nat):Int):=by rw[IntWalk.i64_in _ (by omega)];simp
   by_cases hlt:j<ys.length
   ·have q3:=q2.trans0 hfw
    obtain⟨b,off,hAc,_,c0,c1,hsz⟩:=hSl.ref hlt
    subst hAc
    have KX0:=cr (hfw.keep0 c0)
    have KX1:=cr (hfw.keep0 c1)
    have K0:=fun W (h:Fr No wr W)=>KA W (q3.trans0 h)
    have HCx:=fun W (hW:Fr No wr W)=>HC ys[j] hsz W ((hfA.trans0 q3).trans0 hW)
    rw[hrt] at HCx
    have ht:=zle F ys j hlt
    rw[hall.out,Bool.true_and] at ht
    have hno:=zlf F ys j hlt
    generalize F ys[j]=R at *
    generalize ys[j]=x at *
    replace HCx:=Lib.hid HCx
    replace ht:=Lib.hid ht
    replace hno:=Lib.hid hno
    clear KA HC hrt c0 c1 hSl hall
    go_wp2_with fail
    refine zn0 5 21 [mV (.agg #[.slice A p.keepers.length cap]),mV (.slice (some ⟨b,off,none⟩) ys.length cc),mV (.int .i64 j),mV (.pointer (some ⟨b,off+j * 2,none⟩)),mV (.agg #[.int .i64 x.keeper,.string x.name])] (by kernel_rfl) (by kernel_rfl) (by simp) ?_ ?_
    ·refine hopC ?_ <| hopC ?_ <| hopC ?_ <| hopC ?_ <| hopC ?_ <| hopZ
     all_goals (intro a' W hW hoff hdep;have hbs:=hW.size;have H1:=hoff 1 rfl;have H3:=hoff 3 rfl;have H4:=hoff 4 rfl;refine nE rfl ?_)
     ·clear hoff hdep;simp[execOp,Act.eval,go_sem,zaa, *];exact fr1 rfl
     ·simp[execOp,Act.eval,H3,go_sem,zaa];exact fr1 rfl
     ·simp[execOp,Act.eval,H4,go_sem,zaa];exact fr1 rfl
     ·have D17:_=_:=hdep 1 17 rfl;have D18:_=_:=hdep 2 18 rfl;clear hoff hdep;simp[execOp,Act.eval,go_sem,zaa, *];exact fr1 rfl
     ·have D19:_=_:=hdep 3 19 rfl;clear hoff hdep;simp[execOp,Act.eval,go_sem,zaa, *];exact fr1 rfl
    intro vs WR hWR hv hne
    simp only[lz6,List.drop_zero,znK,znR,Nat.zero_add,Nat.reduceAdd]
    simp only[Act.put,lz0,lz1,lz2]
    clear hv
    have hq:=hfw.trans0 hWR
    clear KX0 KX1 K0
    go_wp2_with fail
    refine(HCx.out _ hWR).mono ?_
    rintro e w3 ⟨rfl,hf3⟩
    have hq3:=hq.trans0 hf3
    cases R with
    | true=>
     go_wp2
     exact⟨⟨j+1,by omega,by simp,Lib.hid ht.out,hq3⟩,by simp[intOf];omega⟩
    | false=>
     have hn:=Lib.hid (hno.out rfl)
     clear hno ht HCx
     go_wp2
     go_ret
     exact .mk hn.out.symm ((hfA.trans0 q2).trans0 hq3)
   ·obtain rfl:j=ys.length:=by omega
    rw[List.take_length] at hall
    go_wp2_with fail
    go_ret
    exact .mk hall.out.symm ((hfA.trans0 q2).trans0 hfw)
end Go.Proofs.YthembcdcdnffeaaGreat
