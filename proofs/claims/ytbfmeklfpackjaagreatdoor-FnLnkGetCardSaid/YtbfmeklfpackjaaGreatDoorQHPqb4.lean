/- The program's classes: those of the keepers' that are there, in order (as Lcl, without the verifier). -/
import Derived.Test.YtbfmeklfpackjaaGreatDoorQHPqbE
import Derived.Test.YtbfmeklfpackjaaGreatDoorQHPqb3
set_option maxHeartbeats 8000000
set_option maxRecDepth 100000
namespace Go.Proofs.YtbfmeklfpackjaaGreatDoor
open Go.RowKit
def zn5 (p:Plan) (k:Nat):List Cls->List Ref
 | []=>[]
 | c :: cs=>if (zmF p ⟨k,c.name⟩).isEmpty then zn5 p k cs else ⟨k,c.name⟩ :: zn5 p k cs
def zn6 (p:Plan):Nat->List Kpr->List Ref
 | _,[]=>[]
 | k,y :: ys=>zn5 p k y.owns ++ zn6 p (k+1) ys
abbrev tRef:TypeId:=29
def RefI (all rest:List Ref) (w:World) (m:Nat) (v:Value) (W:World):Prop:=
 ∃xs,all=xs ++ rest∧xs.length≤m∧RowV W tRef 2 v xs.length (xs.flatMap zmo)∧(∀x∈xs,x.name.size≤maxLen)∧(∀q,zcP v=some q->w.heap.size≤q)∧Fr No w W
def zn8 (xs:List Ref) (w:World) (e:Ending) (w':World):Prop:=∃v,e=.returned v∧RefI xs [] w 15 v w'
theorem zn9 {p:Plan} (h:lodB p=true) {k:Nat} (hk:k<p.keepers.length):p.keepers[k].owns.length≤5:=by
 unfold lodB at h
 simp only[lz5,decide_eq_true_eq,List.all_eq_true] at h
 have h9:=h.2 _ (List.getElem_mem hk)
 unfold kprB at h9
 simp only[lz5,decide_eq_true_eq] at h9
 exact h9.1.1.1
theorem RefI.nil (all:List Ref) (w:World) (W:World) (hf:Fr No w W):RefI all all w 0 (.slice none 0 0) W:=⟨[],rfl,Nat.le_refl _,RowV.nil _ _ _,fun _ h=>absurd h (by simp),(fun q hq=>by cases hq),hf⟩
theorem RefI.to {all rest:List Ref} {w W W':World} {m:Nat} {v:Value} (h:RefI all rest w m v W) (hf:Fr No W W'):RefI all rest w m v W':=by
 obtain⟨xs,h1,h2,h3,h4,h5,h6⟩:=h
 exact⟨xs,h1,h2,h3.keep0 hf,h4,h5,h6.trans0 hf⟩
theorem RefI.mono {all rest:List Ref} {w W:World} {m m':Nat} {v:Value} (h:RefI all rest w m v W) (hm:m≤m'):RefI all rest w m' v W:=by
 obtain⟨xs,h1,h2,h3,h4,h5,h6⟩:=h
 exact⟨xs,h1,Nat.le_trans h2 hm,h3,h4,h5,h6⟩
theorem zoa (p:Plan) (k:Nat) (h:k<p.keepers.length):zn6 p k (p.keepers.drop k)=zn5 p k p.keepers[k].owns ++ zn6 p (k+1) (p.keepers.drop (k+1)):=by
 rw[List.drop_eq_getElem_cons h,zn6]
theorem zob (p:Plan) (k:Nat) (cs:List Cls) (j:Nat) (h:j<cs.length):zn5 p k (cs.drop j)=if (zmF p ⟨k,cs[j].name⟩).isEmpty then zn5 p k (cs.drop (j+1)) else ⟨k,cs[j].name⟩ :: zn5 p k (cs.drop (j+1)):=by
 rw[List.drop_eq_getElem_cons h,zn5]
theorem zoc (l bl n:Nat) (p:Plan) (w:World) (h:Lg w l bl n p):
  Calls Tryz.prog 41 #[.pointer (some ⟨l,0,none⟩)] w (zn8 (zn6 p 0 p.keepers) w):=by
 have hp:=h.ok
 obtain⟨g,hL,_⟩:=h
 have HC:=fun(r:Ref) (hr:r.name.size≤maxLen) W (hW:Fr No w W)=>zmI l bl n p g r W (hL.keep hW) hr
 obtain⟨_,A,cap,bo,ba,hB,_,_,_,hK,_,_,_⟩:=hL
 obtain⟨hp1,hp3⟩:=zbM hp
 have KB:=hB.r4
 obtain⟨all,hall⟩:∃all,all=zn6 p 0 p.keepers:=⟨_,rfl⟩
 rw[<-hall]
 have hI0:∀W,Fr No w W->RefI all (zn6 p 0 (p.keepers.drop 0)) w (5 * 0) (.slice none 0 0) W:=fun W hW=>by
  rw[List.drop_zero,<-hall]
  exact RefI.nil all w W hW
 obtain⟨c0,c1,c2,c3,cf,cl⟩:=KB w (Fr.refl _ _)
 obtain⟨i0,hi,hz0,hz1,hz2⟩:=info_parts zmw
 replace hi:=Lib.hid hi
 replace hz0:=Lib.hid hz0
 replace hz1:=Lib.hid hz1
 replace hz2:=Lib.hid hz2
 replace hall:=Lib.hid hall
 replace hI0:=Lib.hid hI0
 clear KB
 go_enter Tryz.func41,Tryz.ntmps41
 go_wp2_with fail
 go_loopw [14,3] (fun i v wr=>∃k:Nat,k≤p.keepers.length∧i=.int .i64 k∧Hid (RefI all (zn6 p k (p.keepers.drop k)) w (5 * k) v wr)) (fun i _ _=>p.keepers.length-(intOf i).toNat)
 case atStart=>exact⟨0,Nat.zero_le _,rfl,Lib.hid (hI0.out _ (Fr.refl _ _))⟩
 case round=>
  clear hI0
  obtain⟨k,hk,rfl,hI⟩:=hrel
  by_cases hlt:k<p.keepers.length
  ·obtain⟨xs,hx,hm,hrow,hnm,hq,hf⟩:=hI.out
   have hI2:Hid (RefI all (zn5 p k (p.keepers[k].owns.drop 0) ++ zn6 p (k+1) (p.keepers.drop (k+1))) w (5 * k+0) u3 wr):=by
    rw[List.drop_zero,<-zoa p k hlt]
    exact hI
   clear hI hx hm hrow hnm hq
   have ho5:=zn9 hp hlt
   have hadd:IntKind.i64.wrap ((k:Int)+1)=((k+1:Nat):Int):=by rw[IntWalk.i64_in _ (by omega)];simp
   obtain⟨b,off,Ao,co,Aa,ca,hAb,_,k0,k1,hO,_,_,_,_,_⟩:=hK.kpr hlt
   subst hAb
   replace k0:=hf.keep0 k0
   replace k1:=hf.keep0 k1
   have hwr:=hf.size
   go_wp2_with fail
   go_loopw [22,3] (fun i v wq=>∃j:Nat,j≤p.keepers[k].owns.length∧i=.int .i64 j∧Hid (RefI all (zn5 p k (p.keepers[k].owns.drop j) ++ zn6 p (k+1) (p.keepers.drop (k+1))) w (5 * k+j) v wq)) (fun i _ _=>p.keepers[k].owns.length-(intOf i).toNat)
   case atStart=>exact⟨0,Nat.zero_le _,rfl,Lib.hid (RefI.to hI2.out frc)⟩
   case round=>
    clear hI2 k0 k1
    obtain⟨j,hj,rfl,hI⟩:=hrel
    by_cases hlt2:j<p.keepers[k].owns.length
    ·obtain⟨xs,hx,hm,hrow,hnm,hq,hfw⟩:=hI.out
     clear hI
     rw[zob p k _ j hlt2] at hx
     obtain⟨b2,off2,Af,cf2,Am,cm,hAo,_,o0,o1,o2,o3,z0,z1,_,_,_,_,_,_⟩:=hO.cls hlt2
     subst hAo
     replace o0:=hfw.keep0 o0
     replace o1:=hfw.keep0 o1
     replace o2:=hfw.keep0 o2
     replace o3:=hfw.keep0 o3
     obtain⟨Av,cv,rfl,hc1,hc2⟩:=hrow.form
     have hadd2:IntKind.i64.wrap ((j:Int)+1)=((j+1:Nat):Int):=by rw[IntWalk.i64_in _ (by omega)];simp
     generalize p.keepers[k].owns[j]=c at *
     have HC2:=fun W (hW:Fr No wr W)=>HC ⟨k,c.name⟩ z0 W (hfw.trans0 hW)
     unfold zmG at HC2
     cases hch:(zmF p ⟨k,c.name⟩).isEmpty with
     | true=>
      have hch2:zmF p ⟨k,c.name⟩=[]:=List.isEmpty_iff.1 hch
      rw[if_pos hch] at hx
      rw[hch2] at HC2
      have hN:∀W,Fr No wr W->RefI all (zn5 p k (p.keepers[k].owns.drop (j+1)) ++ zn6 p (k+1) (p.keepers.drop (k+1))) w (5 * k+(j+1)) (.slice Av xs.length cv) W:=fun W hW=>⟨xs,hx,by omega,hrow.keep0 hW,hnm,hq,hfw.trans0 hW⟩
      replace hN:=Lib.hid hN
      clear hx hrow hnm hq hch hch2
      go_wp2_with (go_at_call 43;refine(HC2 _ frc).mono ?_;rintro e w2 ⟨v2,rfl,hsl,hf2⟩;obtain⟨A2,c2',rfl,_,_⟩:=hsl.form;have q2:Fr No wr w2:=(by refine Fr.trans0 ?_ hf2;exact frc))
      exact⟨⟨j+1,by omega,by simp,Lib.hid (hN.out _ q2)⟩,by simp[intOf];omega⟩
     | false=>
      have hpos:(0:Int)<((zmF p ⟨k,c.name⟩).length:Int):=by
       rcases Nat.eq_zero_or_pos (zmF p ⟨k,c.name⟩).length with h0|h0
       ·rw[List.eq_nil_of_length_eq_zero h0] at hch;cases hch
       ·omega
      rw[if_neg (by rw[hch];decide)] at hx
      have hN:∀g' cap' w2 w5,xs.length+1≤cap'->Fr No wr w2->RowV w5 tRef 2 (.slice (some ⟨g',0,none⟩) (xs.length+1) cap') (xs.length+1) (xs.flatMap zmo ++ [.int .i64 k,.string c.name])->Fr (fun b=>zcP (.slice Av xs.length cv)=some b) w2 w5->(zcP (.slice Av xs.length cv)=some g'∨g'=w2.heap.size)->
        RefI all (zn5 p k (p.keepers[k].owns.drop (j+1)) ++ zn6 p (k+1) (p.keepers.drop (k+1))) w (5 * k+(j+1)) (.slice (some ⟨g',0,none⟩) (xs.length+1) cap') w5:=fun g' cap' w2 w5 h1 h2 h3 h4 h5=>by
       refine⟨xs ++ [⟨k,c.name⟩],by rw[hx];simp,by simp;omega,by simpa[zmo] using h3,fun x hx=>?_,fun q hq'=>?_,(hfw.trans0 h2).trans h4 (fun b hb e=>by have:=hq b e;omega)⟩
       ·rcases List.mem_append.1 hx with hx|hx
        ·exact hnm x hx
        ·rw[List.mem_singleton.1 hx];exact z0
       ·rw[zcQ,if_neg (by omega)] at hq'
        cases hq'
        rcases h5 with h5|h5
        ·exact hq _ h5
        ·rw[h5];exact(hfw.trans0 h2).size
      replace hN:=Lib.hid hN
      clear hx hnm hq hch
      generalize zmF p ⟨k,c.name⟩=ch at *
      go_wp2_with (first
       | (go_at_call 43;refine(HC2 _ frc).mono ?_;rintro e w2 ⟨v2,rfl,hsl,hf2⟩;obtain⟨A2,c2',rfl,_,_⟩:=hsl.form;have q2:Fr No wr w2:=(by refine Fr.trans0 ?_ hf2;exact frc);have B8:Bx w2 (wr.heap.size+1) tRef #[.int .i64 k,.string c.name]:=(by refine Bx.keep ?_ hf2;exact bxc);obtain⟨e0,e1⟩:=B8.c2;have ef:=(fun i=>B8.frozen i);have el:=B8.lt;have hrB:=(hrow.keep0 q2).keep0 (show Fr No w2 (w2.alloc (.cells #[.int .i64 k,.string c.name] tRef)) from frc);have hnB:=(bxc:Bx (w2.alloc (.cells #[.int .i64 k,.string c.name] tRef)) w2.heap.size tRef [Value.int .i64 k,Value.string c.name].toArray).news;replace hnB:=Lib.hid hnB)
       | (at_builtin;refine zcS _ rfl _ _ 59 rfl tRef i0 (.agg #[.int .i64 0,.string ⟨#[]⟩]) 2 24 Tryz.underlying59 hi.out hz0.out hz1.out hz2.out rfl (by decide) (.slice Av xs.length cv) xs.length (xs.flatMap zmo) rfl hrB ⟨w2.heap.size,0,none⟩ 1 1 [Value.int .i64 k,Value.string c.name] rfl rfl hnB.out (by simp[Value.oneCell']) (by decide) (by unfold maxLen;omega) (by omega) ?_;intro g' cap' w5 hrow5 hcap hgf hor))
      exact⟨⟨j+1,by omega,by simp,Lib.hid (hN.out _ _ _ _ hcap (q2.trans0 frc) hrow5 hgf hor)⟩,by simp[intOf];omega⟩
    ·obtain rfl:j=p.keepers[k].owns.length:=by omega
     rw[List.drop_length,zn5,List.nil_append] at hI
     have hI9:=Lib.hid (hI.out.mono (m':=5 * (k+1)) (by omega))
     clear hI
     go_wp2_with fail
     exact⟨⟨k+1,by omega,by simp,hI9⟩,by simp[intOf];omega⟩
  ·obtain rfl:k=p.keepers.length:=by omega
   rw[List.drop_length,zn6] at hI
   obtain⟨xs,hx,hm,hrow,hnm,hq,hf⟩:=hI.out
   obtain⟨Av,cv,rfl,_,_⟩:=hrow.form
   clear hI
   go_wp2_with fail
   refine bodyPost_ret (v:=.slice Av xs.length cv) (by simp[results,Tryz.results41,go_sem]) rfl ?_
   exact⟨_,rfl,xs,hx,by omega,hrow,hnm,hq,hf⟩
theorem zvD {p:Plan} {k:Int} {m:Str} {f:LFld}:∀(xs:List (Ref×Fld)) (i:Nat),zjN p k m i xs=(f,1)->∃(j:Nat) (hj:j<xs.length),zmJ p k xs[j].1.keeper xs[j].2.kind=true∧f=⟨xs[j].1,((i+j:Nat):Int),xs[j].2.kind⟩
 | [],_,h=>by simp[zjN] at h
 | x :: xs,i,h=>by
  rw[zjN] at h
  split at h
  ·split at h
   ·rename_i hag
    have e:f=⟨x.1,(i:Int),x.2.kind⟩:=by simp only[Prod.mk.injEq] at h;exact h.1.symm
    exact⟨0,by simp,hag,e⟩
   ·simp only[Prod.mk.injEq] at h;omega
  ·obtain⟨j,hj,h1,h2⟩:=zvD xs (i+1) h
   exact⟨j+1,by simpa using hj,h1,by rw[h2];simp only[List.getElem_cons_succ];congr 2;omega⟩
theorem zvE {p:Plan} {k k':Int} {m:Str} {f g:LFld} {ys:List (Ref×Fld)}:∀(xs:List (Ref×Fld)) (i:Nat),zjN p k m i xs=(f,1)->zjN p k' m i (xs ++ ys)=(g,1)->g=f
 | [],_,h,_=>by simp[zjN] at h
 | x :: xs,i,h,h'=>by
  rw[List.cons_append,zjN] at h'
  rw[zjN] at h
  split at h
  ·rename_i hn
   rw[if_pos hn] at h'
   split at h
   ·split at h'
    ·simp only[Prod.mk.injEq] at h h'
     rw[<-h.1,<-h'.1]
    ·simp only[Prod.mk.injEq] at h';omega
   ·simp only[Prod.mk.injEq] at h;omega
  ·rename_i hn
   rw[if_neg hn] at h'
   exact zvE xs (i+1) h h'
theorem zvF {p:Plan} {k:Int} {s m:Str} {f:LFld} (h:getS p k s m=(f,1)):lodB p=true∧hasK p k=true∧∃kc ic:Nat,zu8 p k s=(⟨kc,s⟩,1)∧Here p ⟨kc,s⟩ kc ic∧canB p ⟨kc,s⟩=true∧zjN p k m 0 (zjB p (zmF p ⟨kc,s⟩).reverse)=(f,1):=by
 unfold getS at h
 cases hp:lodB p
 ·rw[hp] at h;simp only[Bool.false_eq_true,if_false,Prod.mk.injEq] at h;omega
 ·rw[hp] at h
  simp only[if_true] at h
  unfold getB getG at h
  by_cases h1:(zdS p k s m).2=1
  ·rw[if_pos h1] at h
   obtain⟨r,hr⟩:∃r,zdS p k s m=(r,1):=⟨(zdS p k s m).1,by rw[<-h1]⟩
   rw[hr] at h
   have hlk:=hr
   unfold zdS at hlk
   split at hlk
   ·obtain⟨kc,ic,rfl,hh,hcan,hf⟩:=zd0 hp hlk
    refine⟨rfl,?_,kc,ic,?_,hh,hcan,h⟩
    ·cases h9:hasK p k
     ·rw[zg9 h9] at hf;cases hf
     ·rfl
    ·unfold zu8;rw[hp];exact hf
   ·simp only[Prod.mk.injEq] at hlk;omega
  ·rw[if_neg h1] at h
   simp only[Prod.mk.injEq] at h
   exact absurd h.2 h1
theorem zvG {p:Plan} {k:Int} {s m:Str} {f g:LFld} (h:getS p k s m=(f,1)) {kc:Nat} (hf:zu8 p k s=(⟨kc,s⟩,1)) {low:Ref} (hl:canB p low=true) (hu:zem p low ⟨kc,s⟩=true) (hg:getS p low.keeper low.name m=(g,1)):g=f:=by
 obtain⟨hp,_,kc',ic,hf',hh,hcan,hgo⟩:=zvF h
 rw[hf] at hf'
 obtain⟨⟨hk9,_⟩,_⟩:(((kc:Int)=kc')∧True)∧True:=by simpa using hf'
 rw[<-hk9] at hgo hh hcan
 obtain⟨_,_,kl,il,hfl,hhl,_,hgl⟩:=zvF hg
 obtain⟨lk,ln⟩:=low
 dsimp only at hfl hgl hg
 have hfl9:zmD p lk ln=(⟨kl,ln⟩,1):=by unfold zu8 at hfl;rw[hp] at hfl;simpa using hfl
 have hne:zmF p ⟨lk,ln⟩≠[]:=by
  unfold canB at hl
  cases hc:zmF p ⟨lk,ln⟩ with
  | nil=>rw[hc] at hl;simp at hl
  | cons a b=>simp
 have hlk:(kl:Int)=lk:=by
  unfold zmF at hne
  dsimp only at hne
  rw[hfl9] at hne
  dsimp only at hne
  by_cases h9:(kl:Int)=lk
  ·exact h9
  ·rw[if_neg (fun e=>h9 e.2)] at hne;exact absurd rfl hne
 rw[hlk] at hgl
 obtain⟨k1,i1,pre1,e1,hh1,hc1⟩:=zmH hp (k:=lk) (s:=ln) (by rw[hfl9])
 rw[hfl9] at e1
 obtain⟨⟨hk1,_⟩,_⟩:(((kl:Int)=k1)∧True)∧True:=by simpa using e1
 have hcl:zmF p ⟨lk,ln⟩=pre1:=by
  unfold zmF
  dsimp only
  rw[hfl9,if_pos ⟨rfl,hlk⟩,<-hlk,hk1,hc1]
  rfl
 have hfs9:zmD p k s=(⟨kc,s⟩,1):=by unfold zu8 at hf;rw[hp] at hf;simpa using hf
 obtain⟨k2,i2,pre2,e2,hh2,hc2⟩:=zmH hp (k:=k) (s:=s) (by rw[hfs9])
 rw[hfs9] at e2
 obtain⟨⟨hk2,_⟩,_⟩:(((kc:Int)=k2)∧True)∧True:=by simpa using e2
 rw[<-hk2] at hc2 hh2 e2
 have hcr:zmF p ⟨kc,s⟩=pre2:=by
  obtain rfl:kc=k2:=by omega
  exact(zni hfs9 hh2 hc2).1
 unfold zem at hu
 rw[List.any_eq_true] at hu
 obtain⟨x,hx,hxr⟩:=hu
 have hxe:x=⟨kc,s⟩:=by
  by_cases h9:x=⟨kc,s⟩
  ·exact h9
  ·rw[zjw h9] at hxr;cases hxr
 subst hxe
 rw[hcl] at hx hgl
 rw[hcr] at hgo
 obtain⟨j,hj,hje⟩:=List.getElem_of_mem hx
 obtain⟨n9,hn9⟩:=zjy hc1 j hj
 rw[hje] at hn9
 unfold chainOf at hc2
 have a:=zjx hn9 (Nat.le_max_left n9 6)
 have b:=zjx hc2 (Nat.le_max_right n9 6)
 rw[a] at b
 have hd:pre1.drop j=pre2:=Option.some.inj b
 have hs:pre1.reverse=pre2.reverse ++ (pre1.take j).reverse:=by
  rw[<-List.reverse_append,<-hd,List.take_append_drop]
 rw[hs,zjD] at hgl
 exact zvE _ _ hgo hgl
theorem zdd (l bl n:Nat) (p:Plan) (g:Int->Str->Option Int) (low top:Ref) (w:World) (h:zgF w l bl n p g) (hs:low.name.size≤maxLen):
  Calls Tryz.prog 40 #[.pointer (some ⟨l,0,none⟩),.agg #[.int .i64 low.keeper,.string low.name],.agg #[.int .i64 top.keeper,.string top.name]] w (zgm (zem p low top) w):=by
 obtain⟨wA,hwA⟩:∃wA,wA=((w.alloc (.cells #[.int .i64 low.keeper,.string low.name] 29)).alloc (.cells #[.int .i64 top.keeper,.string top.name] 29)):=⟨_,rfl⟩
 have hfA:Fr No w wA:=hwA▸frc
 have K1:=(hwA▸bxc:Bx wA (w.heap.size+1) 29 #[.int .i64 top.keeper,.string top.name]).r2
 have HC:=zmI l bl n p g low wA (h.keep hfA) hs
 have hU:zem p low top=(zmF p low).any (fun r=>zjt r top):=rfl
 generalize zem p low top=V at *
 generalize zmF p low=xs at *
 obtain⟨rk,rn⟩:=low
 obtain⟨tk,tn⟩:=top
 replace hU:=Lib.hid hU
 dsimp only at *
 clear h
 go_enter Tryz.func40,Tryz.ntmps40
 go_wp2_with fail
 rw[<-hwA]
 replace hwA:=Lib.hid hwA
 refine HC.mono ?_
 rintro e w1 ⟨v,rfl,hsl,hf1⟩
 obtain⟨A,cap,rfl,_,hlen⟩:=hsl.form
 unfold maxLen at hlen
 clear HC
 go_wp2
 go_loopw [13] (fun i wr=>∃j:Nat,j≤xs.length∧i=.int .i64 j∧Hid (∀x∈xs.take j,zjt x ⟨tk,tn⟩=false)∧Fr No w1 wr) (fun i _=>xs.length-(intOf i).toNat)
 case atStart=>exact⟨0,Nat.zero_le _,rfl,by simp[Hid],Fr.refl _ _⟩
 case round=>
  obtain⟨j,hj,rfl,hn,hf⟩:=hrel
  have q:Fr No wA wr:=hf1.trans0 hf
  by_cases hlt:j<xs.length
  ·obtain⟨b,bf,rfl,_,c0,c1,z⟩:=(hsl.k0 hf).ref hlt
   have K2:=K1 wr q
   clear hsl
   by_cases hm:zjt xs[j] ⟨tk,tn⟩=true
   ·have hV:V=true:=by rw[hU.out,List.any_eq_true];exact⟨_,List.getElem_mem hlt,hm⟩
    rw[zju] at hm
    rw[hm] at c0 c1
    dsimp only at c0 c1
    clear hm hU hn
    go_wp2
    go_ret
    exact .mk hV.symm frc
   ·have hV:Hid (∀x∈xs.take (j+1),zjt x ⟨tk,tn⟩=false):=by
     intro x hx
     rw[List.take_add_one,List.mem_append] at hx
     rcases hx with hx|hx
     ·exact hn.out x hx
     ·rw[lz8 hlt] at hx
      simp only[Option.toList_some,List.mem_singleton] at hx
      rw[hx];simpa using hm
    generalize hxj:xs[j]=x at *
    obtain⟨xk,xn⟩:=x
    have hx:(xk == tk&&xn.toList == tn.toList)=false:=by
     have h9:zjt ⟨xk,xn⟩ ⟨tk,tn⟩=false:=by simpa using hm
     unfold zjt at h9
     simpa using h9
    dsimp only at c0 c1
    clear hm hU hn
    go_wp2
    ·rename_i h1 h2
     rw[h1,h2] at hx
     simp at hx
    all_goals refine⟨⟨j+1,by omega,by go_num,hV,by exact frc⟩,?_⟩
    all_goals simp[intOf]
    all_goals omega
  ·clear hsl
   have hV:V=false:=by
    rw[hU.out,List.any_eq_false]
    intro x hx
    have:=hn.out x (by rwa [List.take_of_length_le (by omega)])
    simpa using this
   clear hU hn
   go_wp2
   go_ret
   exact .mk hV.symm frc
theorem zvH {p:Plan} {k:Nat} (hk:∀c:Cls,zmF p ⟨k,c.name⟩≠[]->c.name.size≤maxLen):∀(cs:List Cls),∀x∈zn5 p k cs,x.keeper=(k:Int)∧x.name.size≤maxLen∧zmF p x≠[]
 | [],x,h=>by simp[zn5] at h
 | c :: cs,x,h=>by
  rw[zn5] at h
  split at h
  ·exact zvH hk cs x h
  ·rename_i hne
   rcases List.mem_cons.1 h with rfl|h
   ·have:zmF p ⟨(k:Int),c.name⟩≠[]:=fun e=>hne (by rw[e];rfl)
    exact⟨rfl,hk c this,this⟩
   ·exact zvH hk cs x h
theorem zvI {p:Plan} (hk:∀(k:Nat) (c:Cls),zmF p ⟨k,c.name⟩≠[]->c.name.size≤maxLen):∀(ys:List Kpr) (k:Nat),∀x∈zn6 p k ys,∃j:Nat,k≤j∧j<k+ys.length∧x.keeper=(j:Int)∧x.name.size≤maxLen∧zmF p x≠[]
 | [],_,x,h=>by simp[zn6] at h
 | y :: ys,k,x,h=>by
  rw[zn6,List.mem_append] at h
  rcases h with h|h
  ·obtain⟨h1,h2,h3⟩:=zvH (hk k) _ x h
   exact⟨k,Nat.le_refl _,by simp,h1,h2,h3⟩
  ·obtain⟨j,h1,h2,h3⟩:=zvI hk ys (k+1) x h
   exact⟨j,by omega,by simp;omega,h3⟩
theorem zvJ {p:Plan} (hp:lodB p=true):∀x∈zn6 p 0 p.keepers,∃j:Nat,j<p.keepers.length∧x.keeper=(j:Int)∧x.name.size≤maxLen:=fun x hx=>by
 obtain⟨j,_,h2,h3,h4,_⟩:=zvI (fun k c hne=>by
  rcases zhi hp ⟨(k:Int),c.name⟩ with h | ⟨k1,i1,hh,hc⟩
  ·exact absurd h hne
  ·exact zhe (zhd hp hh)) p.keepers 0 x hx
 exact⟨j,by omega,h3,h4⟩
theorem zvK (p:Plan) (v:Value) (a b:Ref) (w:World) (h:Sl No w 2 (KprC No w) v p.keepers) (hs:a.name.size≤maxLen) (hp:lodB p=true):
  Calls Tryz.prog 17 #[.agg #[v],.agg #[.int .i64 a.keeper,.string a.name],.agg #[.int .i64 b.keeper,.string b.name]] w (zgm (zem p a b) w):=by
 obtain⟨A,cap,rfl,_,_⟩:=h.form
 obtain⟨wA,hwA⟩:∃wA,wA=(((w.alloc (.cells #[.slice A p.keepers.length cap] 25)).alloc (.cells #[.int .i64 a.keeper,.string a.name] 29)).alloc (.cells #[.int .i64 b.keeper,.string b.name] 29)):=⟨_,rfl⟩
 have hfA:Fr No w wA:=hwA▸frc
 have B0:Bx wA w.heap.size 25 #[.slice A p.keepers.length cap]:=hwA▸bxc
 have B1:Bx wA (w.heap.size+1) 29 #[.int .i64 a.keeper,.string a.name]:=hwA▸bxc
 have B2:Bx wA (w.heap.size+1+1) 29 #[.int .i64 b.keeper,.string b.name]:=hwA▸bxc
 have HN:=zgH p _ wA (h.keep hfA zN (fun _ _ _ h=>h.keep hfA zN))
 unfold zgG at HN
 rw[hp] at HN
 have HC:=fun l bl g W (hL:zgF W l bl 0 p g)=>zdd l bl 0 p g a b W hL hs
 generalize zem p a b=u at *
 clear h hp
 have q0:=B0.c1
 have l0:=B0.lt
 go_enter Tryz.func17,Tryz.ntmps17
 go_wp2_with fail
 rw[<-hwA]
 replace hwA:=Lib.hid hwA
 refine HN.mono ?_
 rintro e w1 ⟨hf1,⟨hno,_⟩ | ⟨_,l,bl,rfl,hll,hbl,hLo⟩⟩
 ·cases hno
 ·obtain⟨y0,y1⟩:=(B1.keep hf1).c2
  have yl:=(B1.keep hf1).lt
  obtain⟨z0,z1⟩:=(B2.keep hf1).c2
  have zl:=(B2.keep hf1).lt
  have hw1:=hfA.trans0 hf1
  have HC:=HC l bl _ w1 hLo
  clear q0 l0 HN hLo B0 B1 B2 hf1
  go_wp2_with fail
  refine HC.mono ?_
  rintro e w2 ⟨rfl,hf2⟩
  have hw2:Fr No w w2:=hw1.trans0 hf2
  clear y0 y1 yl z0 z1 zl HC hf2 hw1
  go_wp2
  go_ret
  exact .mk rfl hw2
theorem zvL (p:Plan) (v:Value) (w:World) (h:Sl No w 2 (KprC No w) v p.keepers) (hp:lodB p=true):
  Calls Tryz.prog 18 #[.agg #[v]] w (zmG (zn6 p 0 p.keepers) w):=by
 obtain⟨A,cap,rfl,_,_⟩:=h.form
 obtain⟨wA,hwA⟩:∃wA,wA=(w.alloc (.cells #[.slice A p.keepers.length cap] 25)):=⟨_,rfl⟩
 have hfA:Fr No w wA:=hwA▸frc
 have B0:Bx wA w.heap.size 25 #[.slice A p.keepers.length cap]:=hwA▸bxc
 have HN:=zgH p _ wA (h.keep hfA zN (fun _ _ _ h=>h.keep hfA zN))
 unfold zgG at HN
 rw[hp] at HN
 have HC:=fun l bl W (hL:Lg W l bl 0 p)=>zoc l bl 0 p W hL
 generalize zn6 p 0 p.keepers=xs at *
 clear h hp
 have q0:=B0.c1
 have l0:=B0.lt
 go_enter Tryz.func18,Tryz.ntmps18
 go_wp2_with fail
 rw[<-hwA]
 replace hwA:=Lib.hid hwA
 refine HN.mono ?_
 rintro e w1 ⟨hf1,⟨hno,_⟩ | ⟨_,l,bl,rfl,hll,hbl,hLo⟩⟩
 ·cases hno
 ·have hLg:Lg w1 l bl 0 p:=⟨_,hLo,fun _ _ _ h=>by cases h⟩
  have hw1:=hfA.trans0 hf1
  have HC:=HC l bl w1 hLg
  clear q0 l0 HN hLo B0 hf1 hLg
  go_wp2_with fail
  refine HC.mono ?_
  rintro e w2 ⟨v2,rfl,ys,hy,_,hrow,hnm,_,hf2⟩
  rw[List.append_nil] at hy
  subst hy
  have hv2:Sl No w2 2 RefC v2 xs:=RowV.slW (C:=zmo) (fun _=>rfl) hrow rfl (fun i h1 h2=>⟨rfl,hnm _ (List.getElem_mem h2)⟩) (fun _ _ h=>h)
  obtain⟨A2,c2,rfl,_,_⟩:=hv2.form
  have hw2:Fr No w w2:=hw1.trans0 hf2
  clear HC hf2 hw1 hrow hnm
  go_wp2
  go_ret
  exact⟨_,rfl,hv2,hw2⟩
theorem zhT {w w':World} {X:Nat->Prop} {base sz n:Nat} {e:TypeId} {v:Value} {xs:List Value} (h:w.ownsRow base e sz v n xs) (hf:Fr X w w') (hX:∀q,v.ownBlock=some q->¬X q):w'.ownsRow base e sz v n xs:=by
 obtain⟨hl,h | ⟨g,cap,cur,rfl,hg,hb,h1,h2,h3,h4⟩⟩:=h
 ·exact⟨hl,.inl h⟩
 ·have hb':Bx w g e cur:=hb
  exact⟨hl,.inr ⟨g,cap,cur,rfl,hg,hb'.keepX hf (hX g rfl),h1,h2,h3,h4⟩⟩
theorem Fr.fill4 {X:Nat->Prop} {a w:World} {g:Nat} {c0 c1 c2 c3:Value} (h:Fr X a w) (hg:X g):Fr X a ((((w.setCell ⟨g,0,none⟩ c0).setCell ⟨g,1,none⟩ c1).setCell ⟨g,2,none⟩ c2).setCell ⟨g,3,none⟩ c3):=
 (((h.setCellX (p:=⟨g,0,none⟩) hg c0).setCellX (p:=⟨g,1,none⟩) hg c1).setCellX (p:=⟨g,2,none⟩) hg c2).setCellX (p:=⟨g,3,none⟩) hg c3
theorem Fr.fill4n {X:Nat->Prop} {a w:World} {g:Nat} {c0 c1 c2 c3:Value} (h:Fr X a w) (hg:a.heap.size≤g):Fr X a ((((w.setCell ⟨g,0,none⟩ c0).setCell ⟨g,1,none⟩ c1).setCell ⟨g,2,none⟩ c2).setCell ⟨g,3,none⟩ c3):=
 (((h.setCell (p:=⟨g,0,none⟩) hg c0).setCell (p:=⟨g,1,none⟩) hg c1).setCell (p:=⟨g,2,none⟩) hg c2).setCell (p:=⟨g,3,none⟩) hg c3
def zhU (L:List LFld) (w:World) (e:Ending) (w':World):Prop:=∃v,e=.returned v∧Sl No w' 5 zj4 v L∧Fr No w w'
theorem zhV (X:Nat->Prop) (p:Plan) (v:Value) (k0:Nat) (s0:Str) (i0:Nat) (rs:List Ref) (w:World) (hp:lodB p=true) (h:Sl X w 2 (KprC X w) v p.keepers) (hh:Here p ⟨k0,s0⟩ k0 i0) (hs:s0.size≤maxLen) (hch:chainOf p ⟨k0,s0⟩=some rs):
  Calls Tryz.prog 64 #[.agg #[v],.agg #[.int .i64 k0,.string s0]] w (zhU (layL p rs) w):=by
 obtain⟨A,cap,rfl,hcap,hlen⟩:=h.form
 have hkw:=fun W (hW:Fr No w W)=>h.keep (R':=KprC X W) hW zN (fun _ _ _ h=>h.keep hW zN)
 have HC:=fun W (hW:Fr No w W)=>za0 X p _ k0 s0 i0 W hp (hkw W hW) hh hs
 have hB:=(Bx.new w 25 #[.slice A p.keepers.length cap]).alloc (.cells #[.int .i64 k0,.string s0] 29)
 have hall:zhb p rs:=zhf hp hh hch
 have hl6:rs.length≤6:=zhh hch
 unfold zaV at HC
 rw[hch] at HC
 dsimp only[Option.getD_some,Option.isSome_some] at HC
 obtain⟨i0',hi,hz0,hz1,hz2⟩:=info_parts zj9
 replace hi:=Lib.hid hi
 replace hz0:=Lib.hid hz0
 replace hz1:=Lib.hid hz1
 replace hz2:=Lib.hid hz2
 clear h hch hh
 go_enter Tryz.func64,Tryz.ntmps64
 go_wp2_with (go_at_call 54;refine(HC _ frc).mono ?_;rintro e w2 ⟨v2,rfl,hsl,hf2⟩;obtain⟨A2,c2,rfl,_,_⟩:=hsl.form)
 have q2:Fr No w w2:=frc
 have hBk:=hB.keep (show Fr No _ w2 from hf2)
 have hrow0:(w2.alloc (.cells #[] 53)).ownsRow w2.heap.size 53 5 (.slice (some ⟨w2.heap.size,0,none⟩) 0 0) (accJ p rs 0).length ((accJ p rs 0).flatMap zj3):=by
  rw[zkd]
  exact⟨rfl,.inr ⟨w2.heap.size,0,#[],rfl,Nat.le_refl _,World.alloc_heap_new w2 _,Nat.le_refl _,Nat.zero_le _,rfl,rfl⟩⟩
 clear hf2 hB HC
 go_loopw [7,8] (fun u i wr=>∃j:Nat,j≤rs.length∧i=.int .i64 ((rs.length:Int)-1-j)∧wr.ownsRow w2.heap.size 53 5 u (accJ p rs j).length ((accJ p rs j).flatMap zj3)∧Fr No w2 wr) (fun _ i _=>(intOf i+1).toNat)
 case atStart=>exact⟨0,Nat.zero_le _,by simp,hrow0,(Fr.refl _ _).alloc _⟩
 case round=>
  clear hrow0
  obtain⟨j,hj,rfl,hrow,hwr⟩:=hrel
  by_cases hlt:j<rs.length
  ·have hk:rs.length-1-j<rs.length:=by omega
   have hO:bwOK rs j (0,rs[rs.length-1-j])∨True:=.inr trivial
   have hst:accJ p rs (j+1)=zj5 rs[rs.length-1-j] (accJ p rs j) (zbG p rs[rs.length-1-j]).fields:=zkf p (x:=((rs.length:Int)-1-j,rs[rs.length-1-j])) ⟨hlt,rfl,lz8 hk⟩
   obtain⟨hrn,kq,iq,hhq⟩:=hall _ (List.getElem_mem hk)
   have hl3:=zkh hp hall (j+1)
   obtain⟨b,off,rfl,_,c0,c1,_⟩:=hsl.ref hk
   generalize rs[rs.length-1-j]=r at *
   obtain⟨qk,qn⟩:=r
   obtain rfl:qk=(kq:Int):=hhq.1
   dsimp only at c0 c1 hrn
   obtain⟨Af,cf,Am,cm,hCR,HC2⟩:=zaU X p _ kq qn iq w2 (hkw w2 q2) hhq hrn
   have hfl:=(show Sl X w2 3 FldC (.slice Af (zbG p ⟨kq,qn⟩).fields.length cf) (zbG p ⟨kq,qn⟩).fields by obtain⟨_,_,he,_,_,h,_⟩:=hCR;cases he;exact h)
   have HCl:=fun W (hW:Fr No wr W)=>HC2 W (hwr.trans0 hW)
   have KB:=(hBk.keep hwr).r1
   have K0:=fun W (hW:Fr No wr W)=>(hwr.trans0 hW).keep0 c0
   have K1:=fun W (hW:Fr No wr W)=>(hwr.trans0 hW).keep0 c1
   have hidx:((rs.length:Int)-1-j).toNat=rs.length-1-j:=by omega
   rw[hst] at hl3
   replace hst:=Lib.hid hst
   generalize zbG p ⟨kq,qn⟩=cl at *
   have cl0:=lt_of_cell c0
   obtain⟨Av,cv,rfl⟩:=zki hrow
   clear hCR hO
   go_wp2_with fail
   refine zn0 7 31 [mV (.agg #[.slice A p.keepers.length cap]),mV (.slice (some ⟨b,off,none⟩) rs.length c2),mV (.int .i64 ((rs.length:Int)-1-j)),mV (.pointer (some ⟨b,off+(rs.length-1-j) * 2,none⟩)),mV (.agg #[.int .i64 kq,.string qn]),mV (.agg #[.string cl.name,.string cl.super,.slice Af cl.fields.length cf,.slice Am cl.methods.length cm]),mB 41 (#[.string ⟨#[]⟩,.string ⟨#[]⟩,.slice none 0 0,.slice none 0 0]) wr.heap.size] (by kernel_rfl) (by kernel_rfl) (by simp) ?_ ?_
   ·refine hc4 ?_ ?_ ?_ ?_ <| hopC ?_ <| hopC ?_ <| hopC ?_ <| hopZ
    all_goals (intro a' W hW hoff hdep;have hbs:=hW.size;have H2:=hoff 2 rfl;have H5:=hoff 5 rfl;have H8:=hoff 8 rfl;refine nE rfl ?_)
    ·exact gx0
    ·simp[execOp,Act.eval,H5,go_sem,zaa];exact fr1 rfl
    ·simp[execOp,Act.eval,H8,go_sem,zaa];exact fr1 rfl
    ·have D26:_=_:=hdep 1 26 rfl;have D27:_=_:=hdep 2 27 rfl;clear hoff hdep;simp[execOp,Act.eval,go_sem,zaa,↓IntWalk.iteOmega, *];exact fr1 rfl
    ·have D28:_=_:=hdep 3 28 rfl;clear hoff hdep;simp[execOp,Act.eval,go_sem,zaa, *];exact fr1 rfl
    ·have D25:_=_:=hdep 0 25 rfl;have D29:_=_:=hdep 4 29 rfl;simp[Act.eval,D25,D29,go_sem,zaa];exact(HCl _ hW).mono fun e w' h=>⟨_,h.1,h.2,rfl⟩
    ·simp[execOp,go_sem,zaa];exact⟨(Fr.refl _ _).alloc _,⟨_,rfl,Bx.new_ rfl,hbs⟩,Nat.le_refl _⟩
   intro vs WR hWR hv hne
   obtain⟨b6,e6,hb6,hl6⟩:=hv 6 (by omega)
   simp only[lz6,List.drop_zero,znP,znK,znR,Nat.zero_add,Nat.reduceAdd,e6]
   simp only[Act.put,lz0,lz1,lz2]
   clear e6 hv
   clear K0 K1 KB HCl HC2
   have hrowR:=zms hrow hWR zN
   have hz6:=hb6
   obtain⟨z0,z1,z2,z3⟩:=hz6.c4
   have zf:=fun j=>hz6.frozen j
   have zl:=hz6.lt
   go_wp2_with fail
   refine zaE (fun W=>Bx W b6 41 #[.string cl.name,.string cl.super,.slice Af cl.fields.length cf,.slice Am cl.methods.length cm]∧W.ownsRow w2.heap.size 53 5 (.slice Av (accJ p rs j).length cv) (accJ p rs j).length ((accJ p rs j).flatMap zj3)∧Fr No wr W) ?_ ?_
   ·exact⟨hb6.fill4,zhT hrowR ((Fr.refl (fun x=>x=b6) _).fill4 rfl) (fun q e=>zj8 hrowR hb6 (by decide) q e),hWR.fill4n hl6⟩
   rintro W7 ⟨hB7,hrow7,hf7⟩
   have hw7:Fr No w2 W7:=hwr.trans0 hf7
   have hb6n:w2.heap.size≤b6:=Nat.le_trans hwr.size hl6
   clear hrowR hz6 z0 z1 z2 z3 zf zl hb6 hrow hf7 hwr hWR
   clear hl6
   go_loopw [7,10] (fun u i wq=>∃(i':Nat) (xs:List LFld),i'≤cl.fields.length∧i=.int .i64 i'∧Hid (zj5 ⟨kq,qn⟩ (accJ p rs j) cl.fields=zj5 ⟨kq,qn⟩ xs (cl.fields.drop i'))∧xs.length=(accJ p rs j).length+i'∧Bx wq b6 41 #[.string cl.name,.string cl.super,.slice Af cl.fields.length cf,.slice Am cl.methods.length cm] ∧
    wq.ownsRow w2.heap.size 53 5 u xs.length (xs.flatMap zj3)∧Fr No w2 wq) (fun _ i _=>cl.fields.length-(intOf i).toNat)
   case atStart=>exact⟨0,accJ p rs j,Nat.zero_le _,rfl,rfl,rfl,hB7,hrow7,hw7⟩
   case round=>
    clear hrow7 hB7 hw7
    obtain⟨i,xs,hi2,rfl,hd,hxl,hBq,hrowq,hwq⟩:=hrel
    obtain⟨Au,cu,rfl⟩:=zki hrowq
    obtain⟨z0,z1,z2,z3⟩:=hBq.c4
    have zl:=hBq.lt
    by_cases hi3:i<cl.fields.length
    ·obtain⟨bf,of,rfl,_,g0,g1,g2,_,hfz⟩:=(hfl.k0 hwq).fld hi3
     rw[List.drop_eq_getElem_cons hi3,zj6] at hd
     have hd:=Lib.hid hd
     have gl:=lt_of_cell g0
     generalize cl.fields[i]=f at *
     have KB:=hBq.r4
     have K0:=fun W (hW:Fr No wr W)=>(hwq.trans0 hW).keep0 c0
     have K1:=fun W (hW:Fr No wr W)=>(hwq.trans0 hW).keep0 c1
     have KG1:=kp g1
     have KG2:=kp g2
     have hxm:xs.length≤1000:=by unfold zj5 at hl3;simp[zjJ] at hl3;omega
     have hws:=hwq.size
     have hfm:cl.fields.length≤1000:=by unfold zj5 at hl3;simp[zjJ] at hl3;omega
     replace hxl:=Lib.hid hxl
     go_wp2_with fail
     refine zn0 15 53 [mV (.slice Au xs.length cu),mV (.slice (some ⟨b,off,none⟩) rs.length c2),mV (.int .i64 ((rs.length:Int)-1-j)),mV (.pointer (some ⟨b,off+(rs.length-1-j) * 2,none⟩)),mV (.agg #[.int .i64 kq,.string qn]),mV (.slice Au xs.length cu),mV (.int .i64 xs.length),mV (.pointer (some ⟨b6,2,none⟩)),mV (.slice (some ⟨bf,of,none⟩) cl.fields.length cf),mV (.int .i64 i),mV (.pointer (some ⟨bf,of+i * 3,none⟩)),mV (.pointer (some ⟨bf,of+i * 3+1,none⟩)),mV (.agg #[.int .i64 f.kind.kind,.string f.kind.name]),mV (.agg #[.int .i64 kq,.string qn,.int .i64 xs.length,.int .i64 f.kind.kind,.string f.kind.name]),mS 53 (#[.int .i64 kq,.string qn,.int .i64 xs.length,.int .i64 f.kind.kind,.string f.kind.name]) 1 wr.heap.size] (by kernel_rfl) (by kernel_rfl) (by simp) ?_ ?_
     ·refine hc4 ?_ ?_ ?_ ?_ <| hc4 ?_ ?_ ?_ ?_ <| hc4 ?_ ?_ ?_ ?_ <| hopC ?_ <| hopC ?_ <| hopC ?_ <| hopZ
      all_goals (intro a' W hW hoff hdep;have hbs:=hW.size;have H7:=hoff 7 rfl;have H5:=hoff 5 rfl;have H8:=hoff 8 rfl;have H9:=hoff 9 rfl;have H10:=hoff 10 rfl;refine nE rfl ?_)
      ·simp[execOp,Act.eval,H7,go_sem,zaa];exact fr1 rfl
      ·simp[execOp,Act.eval,H5,go_sem,zaa];exact fr1 rfl
      ·simp[execOp,Act.eval,H8,go_sem,zaa];exact fr1 rfl
      ·have D39:_=_:=hdep 1 39 rfl;have D40:_=_:=hdep 2 40 rfl;clear hoff hdep;simp[execOp,Act.eval,go_sem,zaa,↓IntWalk.iteOmega, *];exact fr1 rfl
      ·have D41:_=_:=hdep 3 41 rfl;clear hoff hdep;simp[execOp,Act.eval,go_sem,zaa, *];exact fr1 rfl
      ·simp[execOp,Act.eval,H7,go_sem,zaa];exact fr1 rfl
      ·have D43:_=_:=hdep 5 43 rfl;simp[Act.eval,D43,go_sem,zaa];exact fr1 rfl
      ·simp[execOp,Act.eval,H9,go_sem,zaa];exact fr1 rfl
      ·have D45:_=_:=hdep 7 45 rfl;clear hoff hdep;simp[execOp,Act.eval,go_sem,zaa, *];exact fr1 rfl
      ·simp[execOp,Act.eval,H10,go_sem,zaa];exact fr1 rfl
      ·have D46:_=_:=hdep 8 46 rfl;have D47:_=_:=hdep 9 47 rfl;clear hoff hdep;simp[execOp,Act.eval,go_sem,zaa, *];exact fr1 rfl
      ·have D48:_=_:=hdep 10 48 rfl;simp[execOp,Act.eval,D48,go_sem,zaa];exact fr1 rfl
      ·have D49:_=_:=hdep 11 49 rfl;clear hoff hdep;simp[execOp,Act.eval,go_sem,zaa, *];exact fr1 rfl
      ·have D42:_=_:=hdep 4 42 rfl;have D44:_=_:=hdep 6 44 rfl;have D50:_=_:=hdep 12 50 rfl;simp at D42 D44 D50;simp[execOp,Act.eval,D42,D44,D50,go_sem,zaa];exact fr1 rfl
      ·have D51:_=_:=hdep 13 51 rfl;simp at D51;simp[execOp,Act.eval,D51,go_sem,zaa];exact⟨(Fr.refl _ _).alloc _,⟨_,rfl,Bx.new_ rfl,hbs⟩,Nat.le_refl _⟩
     intro vs WR hWR hv hne
     obtain⟨b14,e14,hb14,hl14⟩:=hv 14 (by omega)
     simp only[lz6,List.drop_zero,znQ,znK,znR,Nat.zero_add,Nat.reduceAdd,e14]
     simp only[Act.put,lz0,lz1,lz2]
     clear e14 hv
     clear hne K0 K1 KG1 KG2 KB z0 z1 z2 z3 zl g0 g1 g2
     have hrowR:=zms hrowq hWR zN
     have hBR:=hBq.keep hWR
     have hown:=zj8 hrowR hBR (by decide)
     replace hown:=Lib.hid hown
     have hrl:=hrowR.lt
     replace hrl:=Lib.hid hrl
     have hsR:=hWR.size
     have hsrc:Hid (∀(j:Nat) (u:Value),(zj3 ⟨⟨(kq:Int),qn⟩,xs.length,f.kind⟩)[j]? =some u->WR.cell? ((⟨b14,0,none⟩:Addr).add j)=some u):=fun j u h=>by
      rw[show((⟨b14,0,none⟩:Addr).add j)=⟨b14,j,none⟩ by simp[Addr.add];omega]
      rw[hb14.cell]
      simpa[zj3] using h
     clear hrowq hBq
     go_wp2_with (at_builtin;refine wpList_append_own _ rfl _ _ 56 rfl w2.heap.size 53 i0' (.agg #[.int .i64 0,.string ⟨#[]⟩,.int .i64 0,.int .i64 0,.string ⟨#[]⟩]) 5 56 Tryz.underlying56 hi.out hz0.out hz1.out hz2.out rfl (by decide) _ _ _ rfl hrowR ⟨b14,0,none⟩ 1 1 (zj3 ⟨⟨kq,qn⟩,xs.length,f.kind⟩) rfl rfl hsrc.out (by simp[zj3,Value.oneCell']) (by unfold maxLen;omega) (by omega) (by omega) ?_;intro v' w1 hown' hgrow hnil;obtain⟨g',cap',rfl⟩:=ownsRow_succ hown';have hfo:Fr (fun x=>(Value.slice Au xs.length cu).ownBlock=some x) WR w1:=(Fr.refl _ WR).grown hgrow (fun k e=>.inr e))
     have hfw:Fr No w2 w1:=(hwq.trans0 hWR).trans hfo (fun x hx (hy:(Value.slice Au xs.length cu).ownBlock=some x)=>by have:=(hrl.out x hy).1;omega)
     have hr1:w1.ownsRow w2.heap.size 53 5 (.slice (some ⟨g',0,none⟩) (xs.length+1) cap') (xs ++ [(⟨⟨kq,qn⟩,xs.length,f.kind⟩:LFld)]).length ((xs ++ [(⟨⟨kq,qn⟩,xs.length,f.kind⟩:LFld)]).flatMap zj3):=by
      rw[List.flatMap_append,List.length_append]
      simpa using hown'
     go_roundw
     case rel=>exact⟨i+1,xs ++ [⟨⟨kq,qn⟩,xs.length,f.kind⟩],by omega,by go_num,hd.out,by have:=hxl.out;simp;omega,hBR.keepX hfo (fun e=>hown.out _ e rfl),hr1,hfw⟩
     case measure=>simp[intOf];omega
    ·have HS:Hid (zj5 ⟨kq,qn⟩ (accJ p rs j) cl.fields=xs):=by have:=hd.out;rwa [List.drop_eq_nil_of_le (by omega),zj7] at this
     have hacc:accJ p rs (j+1)=xs:=hst.out.trans HS.out
     go_wp2
     go_roundw
     case rel=>exact⟨j+1,by omega,by congr 1;omega,by rw[hacc];exact hrowq,hwq⟩
     case measure=>simp[intOf];omega
  ·obtain rfl:j=rs.length:=by omega
   have e0:(rs.length:Int)-1-(rs.length:Int)=-1:=by omega
   rw[e0]
   rw[zkg] at hrow
   clear e0
   obtain⟨Av,cv,rfl⟩:=zki hrow
   have hsm:=zeh hp (show zhb p rs.reverse from fun x hx=>hall x (by simpa using hx)) 0
   go_wp2
   go_ret
   exact⟨_,rfl,(zdO hrow hsm).weaken zN (fun _ _ _ h=>h),q2.trans0 hwr⟩
def cntF (F:List (Ref×Fld)) (q:Ref) (k:Nat):Nat:=((F.take k).filter (fun x=>zjt x.1 q)).length
theorem cntF_step {F:List (Ref×Fld)} {q:Ref} {k:Nat} (hk:k<F.length):cntF F q (k+1)=cntF F q k+if zjt F[k].1 q then 1 else 0:=by
 unfold cntF
 rw[List.take_succ_eq_append_getElem hk,List.filter_append,List.length_append]
 congr 1
 cases h:zjt F[k].1 q<;>simp[h]
theorem zhW (F:List (Ref×Fld)) (q:Ref) (k:Nat):cntF F q k≤k:=by
 unfold cntF
 exact Nat.le_trans (List.length_filter_le _ _) (by simp;omega)
theorem zhX (X Y:Nat->Prop) (p:Plan) (v u:Value) (F:List (Ref×Fld)) (i kq iq:Nat) (qn:Str) (f:Fld) (w:World) (h:Sl X w 2 (KprC X w) v p.keepers) (hu:Sl Y w 5 zj4 u (zjH 0 F)) (hi:i<F.length) (hF:F.length≤100) (hq:F[i]=(⟨kq,qn⟩,f))
  (hh:Here p ⟨kq,qn⟩ kq iq) (hqn:qn.size≤maxLen) (hd:(zbG p ⟨kq,qn⟩).fields[cntF F ⟨kq,qn⟩ i]? =some f):
  Calls Tryz.prog 65 #[.agg #[v],u,.int .i64 i] w (Gives (.string f.name) w):=by
 obtain⟨A,cap,rfl,hcap,hlen⟩:=h.form
 have hll:=zjJ F 0
 obtain⟨A2,c2,rfl,_,_⟩:=hu.form
 obtain⟨b,off,rfl,_,t0,t1,_,_,_,_,_⟩:=hu.lfld (k:=i) (by omega)
 rw[zjK _ _ _ hi,hq] at t0 t1
 dsimp only at t0 t1
 have hrow:∀k (hk:k<F.length),w.cell? ⟨b,off+k * 5,none⟩=some (.int .i64 F[k].1.keeper)∧w.cell? ⟨b,off+k * 5+1,none⟩=some (.string F[k].1.name):=fun k hk=>by
  obtain⟨b',off',he,_,q0,q1,_⟩:=hu.lfld (k:=k) (by omega)
  simp only[Option.some.injEq,Addr.mk.injEq,and_true] at he
  obtain⟨rfl,rfl⟩:=he
  rw[zjK _ _ _ hk] at q0 q1
  exact⟨q0,q1⟩
 have hB:=Bx.new w 25 #[.slice A p.keepers.length cap]
 replace hrow:=Lib.hid hrow
 obtain⟨Af,cf,Am,cm,hCR,HC⟩:=zaU X p _ kq qn iq w h hh hqn
 have hfl:=(show Sl X w 3 FldC (.slice Af (zbG p ⟨kq,qn⟩).fields.length cf) (zbG p ⟨kq,qn⟩).fields by obtain⟨_,_,he,_,_,h,_⟩:=hCR;cases he;exact h)
 obtain⟨hd1,hd2⟩:=List.getElem?_eq_some_iff.1 hd
 obtain⟨bf,of,rfl,_,g0,_,_,hgn,_⟩:=hfl.fld hd1
 rw[hd2] at g0 hgn
 rw[hll]
 replace hll:=Lib.hid hll
 replace hu:=Lib.hid hu
 have hb1:=lt_of_cell t0
 have hb2:=lt_of_cell g0
 have hci:cntF F ⟨kq,qn⟩ 0=0:=by simp[cntF]
 clear h hd hd2 hfl hCR
 go_enter Tryz.func65,Tryz.ntmps65
 go_wp2
 go_loopw [7,8] (fun n j wr=>∃k:Nat,k≤i∧n=.int .i64 (cntF F ⟨kq,qn⟩ k)∧j=.int .i64 k∧Fr No (w.alloc (.cells #[.slice A p.keepers.length cap] 25)) wr) (fun _ j _=>i-(intOf j).toNat)
 case atStart=>exact⟨0,Nat.zero_le _,by rw[hci];rfl,rfl,Fr.refl _ _⟩
 case round=>
  clear hci
  obtain⟨k,hk,rfl,rfl,hwr⟩:=hrel
  have hw2:Fr No w wr:=((Fr.refl No w).alloc _).trans0 hwr
  have hkl:=zhW F ⟨kq,qn⟩ k
  by_cases hlt:k<i
  ·have hkF:k<F.length:=by omega
   obtain⟨q0,q1⟩:=hrow.out k hkF
   have hst:=cntF_step (q:=⟨kq,qn⟩) hkF
   generalize F[k]=x at *
   obtain⟨⟨xk,xn⟩,xf⟩:=x
   dsimp only at q0 q1 hst
   have K0:=fun W (hW:Fr No wr W)=>(hw2.trans0 hW).keep0 q0
   have K1:=fun W (hW:Fr No wr W)=>(hw2.trans0 hW).keep0 q1
   have K2:=fun W (hW:Fr No wr W)=>(hw2.trans0 hW).keep0 t0
   have K3:=fun W (hW:Fr No wr W)=>(hw2.trans0 hW).keep0 t1
   generalize hcn:cntF F ⟨kq,qn⟩ k=n at *
   have hcase:(zjt ⟨xk,xn⟩ ⟨kq,qn⟩=false∧¬xk=(kq:Int))∨(zjt ⟨xk,xn⟩ ⟨kq,qn⟩=false∧xk=(kq:Int)∧¬xn.toList=qn.toList)∨(zjt ⟨xk,xn⟩ ⟨kq,qn⟩=true∧xk=(kq:Int)∧xn=qn):=by
    cases hr:zjt ⟨xk,xn⟩ ⟨kq,qn⟩
    ·by_cases h1:xk=(kq:Int)
     ·exact .inr (.inl ⟨rfl,h1,by unfold zjt at hr;simpa[h1] using hr⟩)
     ·exact .inl ⟨rfl,h1⟩
    ·have:=zju.1 hr
     rw[Ref.mk.injEq] at this
     exact .inr (.inr ⟨rfl,this⟩)
   go_wp2_with fail
   refine zn0 10 24 [mV (.slice (some ⟨b,off,none⟩) F.length c2),mV (.int .i64 k),mV (.pointer (some ⟨b,off+k * 5,none⟩)),mV (.pointer (some ⟨b,off+k * 5,none⟩)),mV (.agg #[.int .i64 xk,.string xn]),mV (.slice (some ⟨b,off,none⟩) F.length c2),mV (.int .i64 i),mV (.pointer (some ⟨b,off+i * 5,none⟩)),mV (.pointer (some ⟨b,off+i * 5,none⟩)),mV (.agg #[.int .i64 kq,.string qn])] (by kernel_rfl) (by kernel_rfl) (by simp) ?_ ?_
   ·refine hc4 ?_ ?_ ?_ ?_ <| hc4 ?_ ?_ ?_ ?_ <| hopC ?_ <| hopC ?_ <| hopZ
    all_goals (intro a' W hW hoff hdep;have hbs:=hW.size;have H1:=hoff 1 rfl;have H8:=hoff 8 rfl;have H2:=hoff 2 rfl;refine nE rfl ?_)
    ·simp[execOp,Act.eval,H1,go_sem,zaa];exact fr1 rfl
    ·simp[execOp,Act.eval,H8,go_sem,zaa];exact fr1 rfl
    ·have D14:_=_:=hdep 0 14 rfl;have D15:_=_:=hdep 1 15 rfl;clear hoff hdep;simp[execOp,Act.eval,go_sem,zaa, *];exact fr1 rfl
    ·have D16:_=_:=hdep 2 16 rfl;simp[execOp,Act.eval,D16,go_sem,zaa];exact fr1 rfl
    ·have D17:_=_:=hdep 3 17 rfl;clear hoff hdep;simp[execOp,Act.eval,go_sem,zaa, *];exact fr1 rfl
    ·simp[execOp,Act.eval,H1,go_sem,zaa];exact fr1 rfl
    ·simp[execOp,Act.eval,H2,go_sem,zaa];exact fr1 rfl
    ·have D19:_=_:=hdep 5 19 rfl;have D20:_=_:=hdep 6 20 rfl;clear hoff hdep;simp[execOp,Act.eval,go_sem,zaa, *];exact fr1 rfl
    ·have D21:_=_:=hdep 7 21 rfl;simp[execOp,Act.eval,D21,go_sem,zaa];exact fr1 rfl
    ·have D22:_=_:=hdep 8 22 rfl;clear hoff hdep;simp[execOp,Act.eval,go_sem,zaa, *];exact fr1 rfl
   intro vs WR hWR hv hne
   simp only[lz6,List.drop_zero,znK,znR,Nat.zero_add,Nat.reduceAdd]
   simp only[Act.put,lz0,lz1,lz2]
   clear hv
   clear K0 K1 K2 K3
   have hwR:=hwr.trans0 hWR
   rcases hcase with ⟨hr,h1⟩ | ⟨hr,rfl,h2⟩ | ⟨hr,rfl,rfl⟩
   ·rw[hr] at hst
    replace hst:=Lib.hid hst
    clear hr
    go_wp2
    go_roundw
    case rel=>exact⟨k+1,by omega,by rw[hst.out];rfl,by go_num,hwR⟩
    case measure=>simp[intOf];omega
   ·rw[hr] at hst
    replace hst:=Lib.hid hst
    clear hr
    go_wp2
    go_roundw
    case rel=>exact⟨k+1,by omega,by rw[hst.out];rfl,by go_num,hwR⟩
    case measure=>simp[intOf];omega
   ·rw[hr] at hst
    replace hst:=Lib.hid hst
    clear hr
    go_wp2
    go_roundw
    case rel=>exact⟨k+1,by omega,by rw[hst.out];go_num,by go_num,hwR⟩
    case measure=>simp[intOf];omega
  ·obtain rfl:k=i:=by omega
   have HCl:=fun W (hW:Fr No wr W)=>HC W (hw2.trans0 hW)
   have KB:=(hB.keep hwr).r1
   have K2:=fun W (hW:Fr No wr W)=>(hw2.trans0 hW).keep0 t0
   have K3:=fun W (hW:Fr No wr W)=>(hw2.trans0 hW).keep0 t1
   have KG:=fun W (hW:Fr No wr W)=>(hw2.trans0 hW).keep0 g0
   have hws:=hw2.size
   generalize cntF F ⟨kq,qn⟩ k=d at *
   go_wp2_with fail
   refine zn0 12 39 [mV (.agg #[.slice A p.keepers.length cap]),mV (.slice (some ⟨b,off,none⟩) F.length c2),mV (.int .i64 k),mV (.pointer (some ⟨b,off+k * 5,none⟩)),mV (.pointer (some ⟨b,off+k * 5,none⟩)),mV (.agg #[.int .i64 kq,.string qn]),mV (.agg #[.string (zbG p ⟨kq,qn⟩).name,.string (zbG p ⟨kq,qn⟩).super,.slice (some ⟨bf,of,none⟩) (zbG p ⟨kq,qn⟩).fields.length cf,.slice Am (zbG p ⟨kq,qn⟩).methods.length cm]),mV (.slice (some ⟨bf,of,none⟩) (zbG p ⟨kq,qn⟩).fields.length cf),mV (.int .i64 d),mV (.pointer (some ⟨bf,of+d * 3,none⟩)),mV (.pointer (some ⟨bf,of+d * 3,none⟩)),mV (.string f.name)] (by kernel_rfl) (by kernel_rfl) (by simp) ?_ ?_
   ·refine hc4 ?_ ?_ ?_ ?_ <| hc4 ?_ ?_ ?_ ?_ <| hc4 ?_ ?_ ?_ ?_ <| hopZ
    all_goals (intro a' W hW hoff hdep;have hbs:=hW.size;have H3:=hoff 3 rfl;have H1:=hoff 1 rfl;have H2:=hoff 2 rfl;have H7:=hoff 7 rfl;refine nE rfl ?_)
    ·exact gx0
    ·simp[execOp,Act.eval,H1,go_sem,zaa];exact fr1 rfl
    ·simp[execOp,Act.eval,H2,go_sem,zaa];exact fr1 rfl
    ·have D28:_=_:=hdep 1 28 rfl;have D29:_=_:=hdep 2 29 rfl;clear hoff hdep;simp[execOp,Act.eval,go_sem,zaa, *];exact fr1 rfl
    ·have D30:_=_:=hdep 3 30 rfl;simp[execOp,Act.eval,D30,go_sem,zaa];exact fr1 rfl
    ·have D31:_=_:=hdep 4 31 rfl;clear hoff hdep;simp[execOp,Act.eval,go_sem,zaa, *];exact fr1 rfl
    ·have D27:_=_:=hdep 0 27 rfl;have D32:_=_:=hdep 5 32 rfl;simp[Act.eval,D27,D32,go_sem,zaa];exact(HCl _ hW).mono fun e w' h=>⟨_,h.1,h.2,rfl⟩
    ·have D33:_=_:=hdep 6 33 rfl;simp[execOp,Act.eval,D33,go_sem,zaa];exact fr1 rfl
    ·simp[execOp,Act.eval,H7,go_sem,zaa];exact fr1 rfl
    ·have D34:_=_:=hdep 7 34 rfl;have D35:_=_:=hdep 8 35 rfl;clear hoff hdep;simp[execOp,Act.eval,go_sem,zaa, *];exact fr1 rfl
    ·have D36:_=_:=hdep 9 36 rfl;simp[execOp,Act.eval,D36,go_sem,zaa];exact fr1 rfl
    ·have D37:_=_:=hdep 10 37 rfl;clear hoff hdep;simp[execOp,Act.eval,go_sem,zaa, *];exact fr1 rfl
   intro vs WR hWR hv hne
   simp only[lz6,List.drop_zero,znK,znR,Nat.zero_add,Nat.reduceAdd]
   simp only[Act.put,lz0,lz1,lz2]
   clear hv
   clear K2 K3 KG KB
   go_wp2
   go_ret
   exact .mk rfl (hw2.trans0 hWR)
end Go.Proofs.YtbfmeklfpackjaaGreatDoor
