/- The reference: what is found of any keepers, the chain of a loadable class, LnkLaid, LnkPick. -/
import Derived.Test.YthembcdcdnffeaaGreatEG22
set_option maxHeartbeats 4000000
set_option maxRecDepth 100000
namespace Go.Proofs.YthembcdcdnffeaaGreat
open Go.RowKit
theorem zda (X:Nat->Prop) (p:Plan) (v:Value) (k:Int) (s:Str) (w:World) (h:Sl X w 2 (KprC X w) v p.keepers) (hs:s.size≤maxLen):
  Calls Tryz.prog 69 #[.agg #[v],.int .i64 k,.string s] w (Gives (refV (za7 p k s)) w):=by
 obtain⟨A,cap,rfl,hcap,hlen⟩:=h.form
 unfold maxLen at hlen
 obtain⟨hB,hZ, -⟩:=Bx.two w 32 #[.slice A p.keepers.length cap] 34 #[.int .i64 0,.string ⟨#[]⟩]
 have hkw:=fun W (hW:Fr No w W)=>h.keep (R':=KprC X W) hW zN (fun _ _ _ h=>h.keep hW zN)
 have HK:=fun W (hW:Fr No w W)=>zaP X p _ W (hkw W hW)
 have HN:=fun W=>zlv s W hs
 have HL:=fun W=>zlz k 0 ((p.keepers.length:Int)-1) W
 have wl:IntKind.i64.wrap ((p.keepers.length:Int)-1)=(p.keepers.length:Int)-1:=IntWalk.i64_in _ (by omega)
 have hhk:(decide (0≤k)&&decide (k≤(p.keepers.length:Int)-1))=hasK p k:=by unfold hasK;rw[Bool.eq_iff_iff];simp;omega
 rw[hhk] at HL
 obtain⟨V,hV⟩:∃V,V=za7 p k s:=⟨_,rfl⟩
 rw[<-hV]
 unfold za7 at hV
 cases hp:lodB p
 ·rw[hp] at HK hV
  rw[if_neg (by simp)] at hV
  subst hV
  clear h hkw hp hhk
  unfold refV zbH
  dsimp only
  go_enter Tryz.func69,Tryz.ntmps69
  go_wp2_with (go_at_call 29;refine(HK _ (by exact frc)).mono ?_;rintro e w1 ⟨rfl,hf1⟩;have hB1:=hB.keep hf1;have hZ1:=hZ.keep hf1;have b1:=hB1.c1;obtain⟨z0,z1⟩:=hZ1.c2;have hBl1:=hB1.lt;have hZl1:=hZ1.lt;have zf1:=(fun j=>hZ1.frozen j))
  refine bodyPost_ret (v:=.tuple #[.agg #[.int .i64 0,.string ⟨#[]⟩],.int .i64 2]) (by simp[results,Tryz.results69,go_sem, *]) rfl ?_
  exact .mk0 (by exact frc)
 ·have hp':=Lib.hid hp
  rw[hp] at HK hV
  rw[if_pos rfl] at hV
  cases hk:hasK p k
  ·rw[zg9 hk] at hV
   subst hV
   rw[hk] at HL
   clear h hkw hp hhk hk
   unfold refV zbH
   dsimp only
   go_enter Tryz.func69,Tryz.ntmps69
   go_wp2_with (first
    | (go_at_call 29;refine(HK _ (by exact frc)).mono ?_;rintro e w1 ⟨rfl,hf1⟩;have hB1:=hB.keep hf1;have hZ1:=hZ.keep hf1;have b1:=hB1.c1;obtain⟨z0,z1⟩:=hZ1.c2;have hBl1:=hB1.lt;have hZl1:=hZ1.lt;have zf1:=(fun j=>hZ1.frozen j))
    | (go_at_call 32;refine(HL _).mono ?_;rintro e w2 ⟨rfl,rfl⟩))
   refine bodyPost_ret (v:=.tuple #[.agg #[.int .i64 0,.string ⟨#[]⟩],.int .i64 2]) (by simp[results,Tryz.results69,go_sem, *]) rfl ?_
   exact .mk0 (by exact frc)
  ·rw[hk] at HL
   cases hn:namB s
   ·rw[zg8 hp'.out hn] at hV
    subst hV
    rw[hn] at HN
    clear h hkw hp hhk hk hn
    unfold refV zbH
    dsimp only
    go_enter Tryz.func69,Tryz.ntmps69
    go_wp2_with (first
     | (go_at_call 29;refine(HK _ (by exact frc)).mono ?_;rintro e w1 ⟨rfl,hf1⟩;have hB1:=hB.keep hf1;have hZ1:=hZ.keep hf1;have b1:=hB1.c1;obtain⟨z0,z1⟩:=hZ1.c2;have hBl1:=hB1.lt;have hZl1:=hZ1.lt;have zf1:=(fun j=>hZ1.frozen j))
     | (go_at_call 32;refine(HL _).mono ?_;rintro e w2 ⟨rfl,rfl⟩)
     | (go_at_call 86;refine(HN _).mono ?_;rintro e w2 ⟨rfl,rfl⟩))
    refine bodyPost_ret (v:=.tuple #[.agg #[.int .i64 0,.string ⟨#[]⟩],.int .i64 2]) (by simp[results,Tryz.results69,go_sem, *]) rfl ?_
    exact .mk0 (by exact frc)
   ·rw[hn] at HN
    unfold hasK at hk
    rw[lz5,decide_eq_true_eq,decide_eq_true_eq] at hk
    obtain⟨k,rfl⟩:=Int.eq_ofNat_of_zero_le hk.1
    have HF:=fun W (hW:Fr No w W)=>za6 X p _ k s W hp'.out (hkw W hW) (by omega) hs
    rw[<-hV] at HF
    clear h hkw hp hhk hk hn hV
    obtain⟨⟨kc,nm⟩,c⟩:=V
    unfold refV at HF ⊢
    dsimp only at HF ⊢
    go_enter Tryz.func69,Tryz.ntmps69
    go_wp2_with (first
     | (go_at_call 29;refine(HK _ (by exact frc)).mono ?_;rintro e w1 ⟨rfl,hf1⟩;have hB1:=hB.keep hf1;have hZ1:=hZ.keep hf1;have b1:=hB1.c1;obtain⟨z0,z1⟩:=hZ1.c2;have hBl1:=hB1.lt;have hZl1:=hZ1.lt;have zf1:=(fun j=>hZ1.frozen j))
     | (go_at_call 32;refine(HL _).mono ?_;rintro e w2 ⟨rfl,rfl⟩)
     | (go_at_call 86;refine(HN _).mono ?_;rintro e w2 ⟨rfl,rfl⟩)
     | (go_at_call 114;refine(HF _ (by exact frc)).mono ?_;rintro e w2 ⟨rfl,hf2⟩;have hZ2:=hZ1.keep hf2;clear z0 z1 zf1;obtain⟨z0,z1⟩:=hZ2.c2;have hZl2:=hZ2.lt;have zf2:=(fun j=>hZ2.frozen j)))
    refine bodyPost_ret (v:=.tuple #[.agg #[.int .i64 kc,.string nm],.int .i64 c]) (by simp[results,Tryz.results69,go_sem, *]) rfl ?_
    exact .mk0 (by exact frc)
theorem zdb (X:Nat->Prop) (p:Plan) (v:Value) (r:Ref) (w:World) (h:Sl X w 2 (KprC X w) v p.keepers) (hs:r.name.size≤maxLen):
  Calls Tryz.prog 40 #[.agg #[v],.agg #[.int .i64 r.keeper,.string r.name]] w (zmG (za8 p r) w):=by
 obtain⟨A,cap,rfl,hcap,hlen⟩:=h.form
 obtain⟨rk,rn⟩:=r
 dsimp only at *
 obtain⟨hB,hR, -⟩:=Bx.two w 32 #[.slice A p.keepers.length cap] 34 #[.int .i64 rk,.string rn]
 have hkw:=fun W (hW:Fr No w W)=>h.keep (R':=KprC X W) hW zN (fun _ _ _ h=>h.keep hW zN)
 have HF:=fun W (hW:Fr No w W)=>zda X p _ rk rn W (hkw W hW) hs
 by_cases hc:(za7 p rk rn).2=1
 ·have hp:lodB p=true:=by
   cases hp:lodB p
   ·unfold za7 at hc;rw[hp] at hc;simp at hc
   ·rfl
  have hfs:za7 p rk rn=zmD p rk rn:=by unfold za7;rw[if_pos hp]
  have hcs:za8 p ⟨rk,rn⟩=zmF p ⟨rk,rn⟩:=by unfold za8;rw[if_pos hp]
  rw[hcs]
  rw[hfs] at hc HF
  obtain⟨kc,i,pre,hq,hh,hch⟩:=zmH hp hc
  rw[hq] at HF
  unfold refV at HF
  dsimp only at HF
  by_cases hk:(kc:Int)=rk
  ·subst hk
   have hV:Hid (zmF p ⟨kc,rn⟩=pre):=by
    show zmF p ⟨kc,rn⟩=pre
    unfold zmF
    dsimp only
    rw[hq,if_pos ⟨rfl,rfl⟩,hch];rfl
   have HC:=fun W (hW:Fr No w W)=>za0 X p _ kc rn i W hp (hkw W hW) hh hs
   rw[hch] at HC
   clear h hkw hfs hcs hc hq hh hch
   go_enter Tryz.func40,Tryz.ntmps40
   go_wp2_with (first
    | (go_at_call 69;refine(HF _ (by exact frc)).mono ?_;rintro e w1 ⟨rfl,hf1⟩;have hB1:=hB.keep hf1;have hR1:=hR.keep hf1;have b1:=hB1.c1;obtain⟨z0,z1⟩:=hR1.c2;have hBl1:=hB1.lt;have hRl1:=hR1.lt)
    | (go_at_call 70;refine(HC _ (by exact frc)).mono ?_;rintro e w2 ⟨v2,rfl,hsl,hf2⟩;obtain⟨A2,c2,rfl,_,_⟩:=hsl.form))
   go_ret
   exact⟨_,rfl,by rw[hV.out];exact hsl,by exact frc⟩
  ·have hV:Hid (zmF p ⟨rk,rn⟩=[]):=by
    show zmF p ⟨rk,rn⟩=[]
    unfold zmF
    dsimp only
    rw[hq,if_neg (fun h=>hk h.2)]
   have hk':((kc:Int) == rk)=false:=by simpa using hk
   have hk'':((kc:Int) != rk)=true:=by simpa using hk
   clear h hkw hfs hcs hc hq hh hch hk
   go_enter Tryz.func40,Tryz.ntmps40
   go_wp2_with (go_at_call 69;refine(HF _ (by exact frc)).mono ?_;rintro e w1 ⟨rfl,hf1⟩;have hB1:=hB.keep hf1;have hR1:=hR.keep hf1;have b1:=hB1.c1;obtain⟨z0,z1⟩:=hR1.c2;have hBl1:=hB1.lt;have hRl1:=hR1.lt)
   go_ret
   exact .none_ hV.out (by exact frc)
 ·have hV:Hid (za8 p ⟨rk,rn⟩=[]):=by
   show za8 p ⟨rk,rn⟩=[]
   unfold za8
   cases hp:lodB p
   ·rfl
   ·rw[if_pos rfl]
    unfold za7 at hc
    rw[if_pos hp] at hc
    unfold zmF
    rw[if_neg (fun h=>hc h.1)]
  unfold refV at HF
  generalize za7 p rk rn=q at *
  obtain⟨⟨kc,nm⟩,c⟩:=q
  dsimp only at *
  have hc':(c != 1)=true:=by simpa using hc
  clear h hkw hc
  go_enter Tryz.func40,Tryz.ntmps40
  go_wp2_with (go_at_call 69;refine(HF _ (by exact frc)).mono ?_;rintro e w1 ⟨rfl,hf1⟩;have hB1:=hB.keep hf1;have hR1:=hR.keep hf1;have b1:=hB1.c1;obtain⟨z0,z1⟩:=hR1.c2;have hBl1:=hB1.lt;have hRl1:=hR1.lt)
  go_ret
  exact .none_ hV.out (by exact frc)
theorem zdc (X:Nat->Prop) (p:Plan) (v:Value) (r:Ref) (w:World) (h:Sl X w 2 (KprC X w) v p.keepers) (hs:r.name.size≤maxLen):
  Calls Tryz.prog 22 #[.agg #[v],.agg #[.int .i64 r.keeper,.string r.name]] w (zgm (canS p r) w):=by
 obtain⟨A,cap,rfl,hcap,hlen⟩:=h.form
 have hkw:=fun W (hW:Fr No w W)=>h.keep (R':=KprC X W) hW zN (fun _ _ _ h=>h.keep hW zN)
 have HC:=fun W (hW:Fr No w W)=>zdb X p _ r W (hkw W hW) hs
 obtain⟨hB,hR, -⟩:=Bx.two w 32 #[.slice A p.keepers.length cap] 34 #[.int .i64 r.keeper,.string r.name]
 by_cases hc:za8 p r=[]
 ·have hV:Hid (canS p r=false):=by
   show canS p r=false
   unfold canS canB
   unfold za8 at hc
   cases hp:lodB p
   ·rfl
   ·rw[hp,if_pos rfl] at hc;rw[hc];rfl
  rw[hc] at HC
  clear hc h hkw
  go_enter Tryz.func22,Tryz.ntmps22
  go_wp2_with (go_at_call 40;refine(HC _ (by exact frc)).mono ?_;rintro e w1 ⟨v1,rfl,hsl,hf1⟩;obtain⟨A1,c1,rfl,_,_⟩:=hsl.form)
  go_ret
  exact .mk hV.out.symm (by exact frc)
 ·obtain⟨hp,k0,i0,hh,hch⟩:lodB p=true∧∃k i:Nat,Here p r k i∧chainOf p r=some (za8 p r):=by
   unfold za8 at hc ⊢
   cases hp:lodB p
   ·rw[hp] at hc;exact absurd rfl hc
   ·rw[hp,if_pos rfl] at hc
    rw[if_pos rfl]
    rcases zhi hp r with h | ⟨k,i,h1,h2⟩
    ·exact absurd h hc
    ·exact⟨rfl,k,i,h1,h2⟩
  have hV:Hid (canS p r=zhn p (za8 p r)):=by
   show canS p r=_
   unfold canS canB
   unfold za8 at hc ⊢
   rw[hp,if_pos rfl] at hc
   rw[hp,if_pos rfl]
   cases hx:zmF p r with
   | nil=>exact absurd hx hc
   | cons a as'=>rfl
  have hpos:0<(za8 p r).length:=List.length_pos_iff.2 hc
  obtain⟨rk,rn⟩:=r
  obtain rfl:rk=(k0:Int):=hh.1
  have HL:=fun W (hW:Fr No w W)=>zkt X p _ k0 rn i0 W hp (hkw W hW) hh hs
  rw[hch] at HL
  dsimp only[Option.getD_some] at *
  clear hc h hkw hh hch
  generalize za8 p ⟨k0,rn⟩=xs at *
  generalize zhn p xs=ok at *
  go_enter Tryz.func22,Tryz.ntmps22
  go_wp2_with (first
   | (go_at_call 40;refine(HC _ (by exact frc)).mono ?_;rintro e w1 ⟨v1,rfl,hsl,hf1⟩;obtain⟨A1,c1,rfl,_,_⟩:=hsl.form;have hB1:=hB.keep hf1;have hR1:=hR.keep hf1;have b1:=hB1.c1;obtain⟨z0,z1⟩:=hR1.c2;have hBl1:=hB1.lt;have hRl1:=hR1.lt)
   | (go_at_call 41;refine(HL _ (by exact frc)).mono ?_;rintro e w2 ⟨rfl,hf2⟩))
  go_ret
  exact .mk hV.out.symm (by exact frc)
theorem zos {p:Plan} {r:Ref} (h:canS p r=true):lodB p=true∧∃k i:Nat,Here p r k i∧chainOf p r=some (zmF p r):=by
 unfold canS canB at h
 rw[lz5,lz5] at h
 rcases zhi h.1 r with h1|h1
 ·rw[h1] at h;simp at h
 ·exact⟨h.1,h1⟩
theorem zdd (l bl n:Nat) (p:Plan) (g:Int->Str->Option Int) (low top:Ref) (w:World) (h:zgF w l bl n p g) (hs:low.name.size≤maxLen):
  Calls Tryz.prog 197 #[.pointer (some ⟨l,0,none⟩),.agg #[.int .i64 low.keeper,.string low.name],.agg #[.int .i64 top.keeper,.string top.name]] w (zgm (zem p low top) w):=by
 obtain⟨wA,hwA⟩:∃wA,wA=((w.alloc (.cells #[.int .i64 low.keeper,.string low.name] 34)).alloc (.cells #[.int .i64 top.keeper,.string top.name] 34)):=⟨_,rfl⟩
 have hfA:Fr No w wA:=hwA▸frc
 have K1:=(hwA▸bxc:Bx wA (w.heap.size+1) 34 #[.int .i64 top.keeper,.string top.name]).r2
 have HC:=zmI l bl n p g low wA (h.keep hfA) hs
 have hU:zem p low top=(zmF p low).any (fun r=>zjt r top):=rfl
 generalize zem p low top=V at *
 generalize zmF p low=xs at *
 obtain⟨rk,rn⟩:=low
 obtain⟨tk,tn⟩:=top
 replace hU:=Lib.hid hU
 dsimp only at *
 clear h
 go_enter Tryz.func197,Tryz.ntmps197
 go_wp2_with fail
 rw[<-hwA]
 replace hwA:=Lib.hid hwA
 refine HC.mono ?_
 rintro e w1 ⟨v,rfl,hsl,hf1⟩
 obtain⟨A,cap,rfl,_,hlen⟩:=hsl.form
 unfold maxLen at hlen
 clear HC
 go_wp2
 go_loopw [13] (fun i wr=>∃j:Nat,j≤xs.length∧i=.int .i64 j∧Hid (∀x∈xs.take j,zjt x ⟨tk,tn⟩=false)∧Fr No w1 wr) (fun i _=>xs.length-(intOf i).toNat)
 case atStart=>exact⟨0,Nat.zero_le _,rfl,by simp[Hid],Fr.refl _ _⟩
 case round=>
  obtain⟨j,hj,rfl,hn,hf⟩:=hrel
  have q:Fr No wA wr:=hf1.trans0 hf
  by_cases hlt:j<xs.length
  ·obtain⟨b,bf,rfl,_,c0,c1,z⟩:=(hsl.k0 hf).ref hlt
   have K2:=K1 wr q
   clear hsl
   by_cases hm:zjt xs[j] ⟨tk,tn⟩=true
   ·have hV:V=true:=by rw[hU.out,List.any_eq_true];exact⟨_,List.getElem_mem hlt,hm⟩
    rw[zju] at hm
    rw[hm] at c0 c1
    dsimp only at c0 c1
    clear hm hU hn
    go_wp2
    go_ret
    exact .mk hV.symm frc
   ·have hV:Hid (∀x∈xs.take (j+1),zjt x ⟨tk,tn⟩=false):=by
     intro x hx
     rw[List.take_add_one,List.mem_append] at hx
     rcases hx with hx|hx
     ·exact hn.out x hx
     ·rw[lz8 hlt] at hx
      simp only[Option.toList_some,List.mem_singleton] at hx
      rw[hx];simpa using hm
    generalize hxj:xs[j]=x at *
    obtain⟨xk,xn⟩:=x
    have hx:(xk == tk&&xn.toList == tn.toList)=false:=by
     have h9:zjt ⟨xk,xn⟩ ⟨tk,tn⟩=false:=by simpa using hm
     unfold zjt at h9
     simpa using h9
    dsimp only at c0 c1
    clear hm hU hn
    go_wp2
    ·rename_i h1 h2
     rw[h1,h2] at hx
     simp at hx
    all_goals refine⟨⟨j+1,by omega,by go_num,hV,by exact frc⟩,?_⟩
    all_goals simp[intOf]
    all_goals omega
  ·clear hsl
   have hV:V=false:=by
    rw[hU.out,List.any_eq_false]
    intro x hx
    have:=hn.out x (by rwa [List.take_of_length_le (by omega)])
    simpa using this
   clear hU hn
   go_wp2
   go_ret
   exact .mk hV.symm frc
theorem zde (l bl n:Nat) (p:Plan) (g:Int->Str->Option Int) (k:Int) (a b:Tag) (w:World) (h:zgF w l bl n p g) (ha:a.name.size≤maxLen) (hb:b.name.size≤maxLen):
  Calls Tryz.prog 176 #[.pointer (some ⟨l,0,none⟩),.int .i64 k,.agg #[.int .i64 a.kind,.string a.name],.agg #[.int .i64 b.kind,.string b.name]] w (zgm (mayK p k a b) w):=by
 have HA:=fun W (hW:Fr No w W)=>find_ok l bl n p g k a.name W (h.keep hW) ha
 have HB:=fun W (hW:Fr No w W)=>find_ok l bl n p g k b.name W (h.keep hW) hb
 have HU:=fun(h1:(zmD p k a.name).2=1) W (hW:Fr No w W)=>zdd l bl n p g (zmD p k a.name).1 (zmD p k b.name).1 W (h.keep hW) (by obtain⟨k1,i1,_,e1,_⟩:=zmH h.1 h1;rw[e1];exact ha)
 obtain⟨V,hV⟩:∃V,V=mayK p k a b:=⟨_,rfl⟩
 rw[<-hV]
 unfold mayK at hV
 unfold refV at HA HB
 generalize zem p (zmD p k a.name).1 (zmD p k b.name).1=U at *
 generalize zmD p k a.name=qa at *
 generalize zmD p k b.name=qb at *
 obtain⟨⟨ka,na⟩,ca⟩:=qa
 obtain⟨⟨kb,nb⟩,cb⟩:=qb
 obtain⟨ak,an⟩:=a
 obtain⟨bk,bn⟩:=b
 dsimp only at *
 clear h
 by_cases h0:bk=0
 ·subst h0
  rw[if_pos rfl] at hV
  clear HA HB HU
  go_enter Tryz.func176,Tryz.ntmps176
  go_wp2
  go_ret
  exact .mk hV.symm frc
 rw[if_neg h0] at hV
 by_cases ht:zei ⟨ak,an⟩ ⟨bk,bn⟩=true
 ·rw[if_pos ht] at hV
  rw[zej] at ht
  cases ht
  clear HA HB HU
  go_enter Tryz.func176,Tryz.ntmps176
  go_wp2
  go_ret
  exact .mk hV.symm frc
 rw[if_neg ht] at hV
 have hx:¬(ak=bk∧an.toList=bn.toList):=fun hx=>ht (by unfold zei;simp[hx.1,hx.2])
 clear ht
 by_cases h2:bk=2
 ·subst h2
  rw[if_neg (by simp)] at hV
  by_cases h3:ak=3
  ·subst h3
   rw[if_pos rfl] at hV
   clear HA HB HU hx
   go_enter Tryz.func176,Tryz.ntmps176
   go_wp2
   go_ret
   exact .mk hV.symm frc
  rw[if_neg h3] at hV
  by_cases h4:ak=2
  ·subst h4
   rw[if_neg (by simp)] at hV
   obtain⟨wA,hwA⟩:∃wA,wA=((w.alloc (.cells #[.int .i64 2,.string an] 116)).alloc (.cells #[.int .i64 2,.string bn] 116)):=⟨_,rfl⟩
   have hfA:Fr No w wA:=hwA▸frc
   have K1:=(hwA▸bxc:Bx wA (w.heap.size+1) 116 #[.int .i64 2,.string bn]).r2
   have hn:¬an.toList=bn.toList:=fun h=>hx ⟨rfl,h⟩
   clear hx h0
   have hcase:(ca=1∧cb=1)∨(ca=1∧¬cb=1)∨¬ca=1:=by
    by_cases h1:ca=1<;>by_cases h2:cb=1<;>simp[h1,h2]
   replace hV:=Lib.hid hV
   rcases hcase with ⟨rfl,rfl⟩ | ⟨rfl,hc2⟩|hc1
   ·have hE:V=U:=by rw[hV.out];simp
    have HU':=HU rfl
    clear HU hV
    go_enter Tryz.func176,Tryz.ntmps176
    go_wp2_with fail
    rw[<-hwA]
    replace hwA:=Lib.hid hwA
    refine(HA _ hfA).mono ?_
    rintro e w1 ⟨rfl,hf1⟩
    have z1:=K1 w1 hf1
    have R1:=(Bx.new w1 34 #[.int .i64 ka,.string na])
    go_wp2_with fail
    refine(HB _ (by exact frc)).mono ?_
    rintro e w2 ⟨rfl,hf2⟩
    have R2:=R1.keep hf2
    obtain⟨y0,y1⟩:=R2.c2
    have yl:=R2.lt
    clear z1 R1
    go_wp2_with fail
    refine(HU' _ (by exact frc)).mono ?_
    rintro e w3 ⟨rfl,hf3⟩
    clear y0 y1 yl R2
    go_wp2
    go_ret
    exact .mk hE.symm (by exact frc)
   ·have hE:V=false:=by rw[hV.out];simp[hc2]
    clear HU hV
    go_enter Tryz.func176,Tryz.ntmps176
    go_wp2_with fail
    rw[<-hwA]
    replace hwA:=Lib.hid hwA
    refine(HA _ hfA).mono ?_
    rintro e w1 ⟨rfl,hf1⟩
    have z1:=K1 w1 hf1
    go_wp2_with fail
    refine(HB _ (by exact frc)).mono ?_
    rintro e w2 ⟨rfl,hf2⟩
    clear z1
    go_wp2
    go_ret
    exact .mk hE.symm (by exact frc)
   ·have hE:V=false:=by rw[hV.out];simp[hc1]
    clear HU hV
    go_enter Tryz.func176,Tryz.ntmps176
    go_wp2_with fail
    rw[<-hwA]
    replace hwA:=Lib.hid hwA
    refine(HA _ hfA).mono ?_
    rintro e w1 ⟨rfl,hf1⟩
    have z1:=K1 w1 hf1
    go_wp2_with fail
    refine(HB _ (by exact frc)).mono ?_
    rintro e w2 ⟨rfl,hf2⟩
    clear z1
    go_wp2
    go_ret
    exact .mk hE.symm (by exact frc)
  ·rw[if_pos h4] at hV
   clear HA HB HU hx
   go_enter Tryz.func176,Tryz.ntmps176
   go_wp2
   go_ret
   exact .mk hV.symm frc
 ·rw[if_pos h2] at hV
  clear HA HB HU
  go_enter Tryz.func176,Tryz.ntmps176
  go_wp2
  all_goals first
   | (go_ret;exact .mk hV.symm frc)
   | (exact absurd ⟨by assumption,by assumption⟩ hx)
end Go.Proofs.YthembcdcdnffeaaGreat
