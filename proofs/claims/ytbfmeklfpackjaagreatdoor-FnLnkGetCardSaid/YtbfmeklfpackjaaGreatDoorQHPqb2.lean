/- A call's world, cut off. -/
import Derived.Test.YtbfmeklfpackjaaGreatDoorQHPqbE
import Derived.Test.YtbfmeklfpackjaaGreatDoorQHPqb1
import Derived.Test.YtbfmeklfpackjaaGreatDoorQG44
set_option maxHeartbeats 4000000
set_option maxRecDepth 100000
namespace Go.Proofs.YtbfmeklfpackjaaGreatDoor
open Go.RowKit Go.Shelf
theorem zdP {P:Program} {f:FuncId} {args:Array Value} {w:World} {Q:Ending->World->Prop} (R:World->Prop) (h:R w) (k:∀W,R W->Calls P f args W Q):Calls P f args w Q:=k w h
def ErrV (c:Int) (v:Value) (w:World):Prop:=(c=1∧v=.nilIface)∨(c≠1∧∃b,v=.iface 108 (.pointer (some ⟨b,0,none⟩))∧Bx w b 110 #[.int .i64 c])
theorem ErrV.keep {c:Int} {v:Value} {w w':World} (h:ErrV c v w) (hf:Fr No w w'):ErrV c v w':=by
 rcases h with h | ⟨h,b,h1,h2⟩
 ·exact .inl h
 ·exact .inr ⟨h,b,h1,h2.keep hf⟩
theorem ErrV.mk {c:Int} {b:Nat} {w:World} (hc:c≠1) (h:Bx w b 110 #[.int .i64 c]):ErrV c (.iface 108 (.pointer (some ⟨b,0,none⟩))) w:=.inr ⟨hc,b,rfl,h⟩
def zdR (p:Plan) (k:Int) (s:Str):Ref×Int:=
 if (zmD p k s).2=1 then (if canB p (zmD p k s).1 then ((zmD p k s).1,1) else (zbH,4)) else (zbH,2)
def zdS (p:Plan) (k:Int) (s m:Str):Ref×Int:=if namB m then zdR p k s else (zbH,2)
theorem zdT {p:Plan} {k:Int} {s:Str} (h:zmD p k s=(zbH,2)):zdR p k s=(zbH,2):=by
 unfold zdR;rw[h];rfl
def zdU (q:Ref×Int) (p:Plan) (l bl n:Nat) (w:World) (e:Ending) (w':World):Prop:=
 ∃ev,e=.returned (.tuple #[.agg #[.int .i64 q.1.keeper,.string q.1.name],ev])∧ErrV q.2 ev w'∧Fr (fun b=>b=bl) w w'∧Lg w' l bl (n+1) p
theorem zdU.mk {q:Ref×Int} {p:Plan} {l bl n:Nat} {w w':World} {v ev:Value} {r:Ref} {c:Int} (hq:q=(r,c)) (hv:v=.tuple #[.agg #[.int .i64 r.keeper,.string r.name],ev]) (he:ErrV c ev w') (hf:Fr (fun b=>b=bl) w w') (hl:Lg w' l bl (n+1) p):zdU q p l bl n w (.returned v) w':=by
 subst hq;subst hv;exact⟨_,rfl,he,hf,hl⟩
theorem zdV {w:World} {l bl n:Nat} {p:Plan} (h:Lg w l bl n p) (k:Int):
  Calls Tryz.prog 34 #[.pointer (some ⟨l,0,none⟩),.int .i64 k] w (zgl (hasK p k) w):=by
 obtain⟨g,⟨hp,A,cap,bo,ba,hB,_⟩,_⟩:=h
 have h3:=zbM hp
 exact zgq l p.keepers.length cap A _ _ _ k w hB (by unfold maxLen;omega)
theorem zdW {k:Nat} (h:k<4):(Lit.int .i64 (k:Int)).wf=true:=by
 rcases k with _|_|_|_|k
 ·rfl
 ·rfl
 ·rfl
 ·rfl
 ·omega
theorem zdX (l bl n:Nat) (p:Plan) (k:Int) (s m:Str) (w:World) (h:Lg w l bl n p) (hs:s.size≤maxLen) (hm:m.size≤maxLen) (hn:n<1000000):
  Calls Tryz.prog 48 #[.pointer (some ⟨l,0,none⟩),.int .i64 k,.string s,.string m] w (zdU (zdS p k s m) p l bl n w):=by
 have hp:=h.ok
 have hlt:=h.lt
 have h0:=h
 have HH:=fun W (hW:Fr No w W)=>zdV (h.keep hW) k
 have HN:=fun W=>zeE s W hs
 have HM:=fun W=>zeE m W hm
 cases hk:hasK p k
 ·have HS:Hid (zdS p k s m=(zbH,2)):=by
   show zdS p k s m=_
   unfold zdS
   rw[zdT (zg9 hk)]
   cases namB m<;>rfl
  rw[hk] at HH
  clear hk h hp
  go_enter Tryz.func48,Tryz.ntmps48
  go_wp2_with (go_at_call 34;refine(HH _ frc).mono ?_;rintro e w' ⟨rfl,rfl⟩)
  refine bodyPost_ret (v:=.tuple #[.agg #[.int .i64 0,.string ⟨#[]⟩],.iface 108 (.pointer (some ⟨w.heap.size+1,0,none⟩))]) (by simp[results,Tryz.results48,go_sem, *]) rfl ?_
  exact .mk HS.out rfl (.mk (by decide) bxc) frc ((h0.keep frc).mono (by omega))
 rw[hk] at HH
 cases hns:namB s
 ·have HS:Hid (zdS p k s m=(zbH,2)):=by
   show zdS p k s m=_
   unfold zdS
   rw[zdT (zg8 hp hns)]
   cases namB m<;>rfl
  rw[hns] at HN
  clear hk h hp hns
  go_enter Tryz.func48,Tryz.ntmps48
  go_wp2_with (first
   | (go_at_call 34;refine(HH _ frc).mono ?_;rintro e w' ⟨rfl,rfl⟩)
   | (go_at_call 77;refine(HN _).mono ?_;rintro e w' ⟨rfl,rfl⟩))
  refine bodyPost_ret (v:=.tuple #[.agg #[.int .i64 0,.string ⟨#[]⟩],.iface 108 (.pointer (some ⟨w.heap.size+1,0,none⟩))]) (by simp[results,Tryz.results48,go_sem, *]) rfl ?_
  exact .mk HS.out rfl (.mk (by decide) bxc) frc ((h0.keep frc).mono (by omega))
 rw[hns] at HN
 cases hnm:namB m
 ·have HS:Hid (zdS p k s m=(zbH,2)):=by
   show zdS p k s m=_
   unfold zdS
   rw[hnm]
   rfl
  rw[hnm] at HM
  clear hk h hp hns hnm
  go_enter Tryz.func48,Tryz.ntmps48
  go_wp2_with (first
   | (go_at_call 34;refine(HH _ frc).mono ?_;rintro e w' ⟨rfl,rfl⟩)
   | (go_at_call 77;(first|refine(HN _).mono ?_|refine(HM _).mono ?_);rintro e w' ⟨rfl,rfl⟩))
  refine bodyPost_ret (v:=.tuple #[.agg #[.int .i64 0,.string ⟨#[]⟩],.iface 108 (.pointer (some ⟨w.heap.size+1,0,none⟩))]) (by simp[results,Tryz.results48,go_sem, *]) rfl ?_
  exact .mk HS.out rfl (.mk (by decide) bxc) frc ((h0.keep frc).mono (by omega))
 rw[hnm] at HM
 have hV:zdS p k s m=zdR p k s:=by unfold zdS;rw[hnm];rfl
 rw[hV]
 have B0:Bx (w.alloc (.cells #[.int .i64 0,.string ⟨#[]⟩] 29)) w.heap.size 29 #[.int .i64 0,.string ⟨#[]⟩]:=bxc
 obtain⟨g,hLo,hg⟩:=h
 have HF:=fun W (hW:Fr No w W)=>find_ok l bl n p g k s W (hLo.keep hW) hs
 clear hV hk hns hnm
 by_cases hc:(zmD p k s).2=1
 ·obtain⟨kc,i,pre,hq,hh,_⟩:=zmH hp hc
  have h3:=zbM hp
  have hkl:=hh.2.1
  have wk:=zdW (show kc<4 by omega)
  have HC:=fun W (hW:Lg W l bl n p)=>zjo l bl n p ⟨(kc:Int),s⟩ W hW hs wk hn
  have hV:zdR p k s=if canB p ⟨kc,s⟩ then (⟨kc,s⟩,1) else (zbH,4):=by
   unfold zdR
   rw[if_pos hc,hq]
  rw[hq] at HF
  unfold refV at HF
  unfold zjn at HC
  replace hV:=Lib.hid hV
  generalize zdR p k s=V at *
  clear hc hq hh hp h3 hkl wk
  dsimp only at HF HC
  generalize canB p ⟨kc,s⟩=cb at *
  go_enter Tryz.func48,Tryz.ntmps48
  go_wp2_with (first
   | (go_at_call 34;refine(HH _ frc).mono ?_;rintro e w' ⟨rfl,rfl⟩)
   | (go_at_call 77;(first|refine(HN _).mono ?_|refine(HM _).mono ?_);rintro e w' ⟨rfl,rfl⟩)
   | (go_at_call 32;refine(HF _ frc).mono ?_;rintro e w1 ⟨rfl,hf1⟩;have q1:Fr No w w1:=frc;have B1:=B0.keep hf1;have l1:=B1.lt))
  refine zdP (fun W=>Bx W w.heap.size 29 #[.int .i64 0,.string ⟨#[]⟩]∧Bx W w1.heap.size 29 #[.int .i64 kc,.string s]∧Fr No w W) ⟨bxc,bxc,frc⟩ ?_
  rintro Wz ⟨hB,hR,hwz⟩
  refine(HC Wz (h0.keep hwz)).mono ?_
  rintro e w2 ⟨rfl,hf2,hL2⟩
  have hw2:Fr (fun b=>b=bl) w w2:=hwz.of0.same hf2
  obtain⟨z0,z1⟩:=(hB.keepX hf2 (by omega)).c2
  have zf:=fun j=>(hB.keepX hf2 (by omega)).frozen j
  have zl:=(hB.keepX hf2 (by omega)).lt
  obtain⟨y0,y1⟩:=(hR.keepX hf2 (by omega)).c2
  have yl:=(hR.keepX hf2 (by omega)).lt
  clear hf1 q1 B0 B1 HH HN HM HF HC hf2 hB hR hwz
  cases cb
  ·go_wp2
   refine bodyPost_ret (v:=.tuple #[.agg #[.int .i64 0,.string ⟨#[]⟩],.iface 108 (.pointer (some ⟨w2.heap.size,0,none⟩))]) (by simp[results,Tryz.results48,go_sem, *]) rfl ?_
   exact .mk hV.out rfl (.mk (by decide) bxc) frc (h0.over hL2 hw2 frx)
  ·go_wp2
   refine bodyPost_ret (v:=.tuple #[.agg #[.int .i64 kc,.string s],.nilIface]) (by simp[results,Tryz.results48,go_sem, *]) rfl ?_
   exact .mk hV.out rfl (.inl ⟨rfl,rfl⟩) frc (h0.over hL2 hw2 frx)
 ·have HS:Hid (zdR p k s=(zbH,2)):=by
   show zdR p k s=_
   unfold zdR
   rw[if_neg hc]
  unfold refV at HF
  have hc':((zmD p k s).2 != 1)=true:=by simpa using hc
  generalize zmD p k s=q at *
  obtain⟨⟨kc,nm⟩,c⟩:=q
  dsimp only at *
  clear hc
  go_enter Tryz.func48,Tryz.ntmps48
  go_wp2_with (first
   | (go_at_call 34;refine(HH _ frc).mono ?_;rintro e w' ⟨rfl,rfl⟩)
   | (go_at_call 77;(first|refine(HN _).mono ?_|refine(HM _).mono ?_);rintro e w' ⟨rfl,rfl⟩)
   | (go_at_call 32;refine(HF _ frc).mono ?_;rintro e w1 ⟨rfl,hf1⟩;have q1:Fr No w w1:=frc;have B1:=B0.keep hf1;have l1:=B1.lt;have ⟨z0,z1⟩:=B1.c2;have zf:=(fun j=>B1.frozen j)))
  refine bodyPost_ret (v:=.tuple #[.agg #[.int .i64 0,.string ⟨#[]⟩],.iface 108 (.pointer (some ⟨w1.heap.size+1,0,none⟩))]) (by simp[results,Tryz.results48,go_sem, *]) rfl ?_
  exact .mk HS.out rfl (.mk (by decide) bxc) frc ((h0.keep frc).mono (by omega))
theorem ErrV.nil {v:Value} {w:World} (h:ErrV 1 v w):v=.nilIface:=by
 rcases h with ⟨_,h⟩ | ⟨h,_⟩
 ·exact h
 ·exact absurd rfl h
theorem ErrV.some {c:Int} {v:Value} {w:World} (hc:¬c=1) (h:ErrV c v w):∃b,v=.iface 108 (.pointer (some ⟨b,0,none⟩))∧Bx w b 110 #[.int .i64 c]:=by
 rcases h with ⟨h,_⟩ | ⟨_,h⟩
 ·exact absurd h hc
 ·exact h
theorem zd0 {p:Plan} (hp:lodB p=true) {k:Int} {s:Str} {r:Ref} (h:zdR p k s=(r,1)):∃kc i:Nat,r=⟨kc,s⟩∧Here p ⟨kc,s⟩ kc i∧canB p ⟨kc,s⟩=true∧zmD p k s=(⟨kc,s⟩,1):=by
 unfold zdR at h
 by_cases hc:(zmD p k s).2=1
 ·obtain⟨kc,i,pre,hq,hh,_⟩:=zmH hp hc
  rw[if_pos hc,hq] at h
  cases hcb:canB p ⟨kc,s⟩
  ·dsimp only at h
   rw[hcb] at h
   cases h
  ·dsimp only at h
   rw[hcb] at h
   cases h
   exact⟨kc,i,rfl,hh,hcb,hq⟩
 ·rw[if_neg hc] at h
  cases h
theorem zd1 {p:Plan} (hp:lodB p=true) {k:Int} {s m:Str} {r:Ref} (h:zdS p k s m=(r,1)):∃kc i:Nat,r=⟨kc,s⟩∧Here p ⟨kc,s⟩ kc i:=by
 unfold zdS at h
 split at h
 ·obtain⟨kc,i,h1,h2,_⟩:=zd0 hp h
  exact⟨kc,i,h1,h2⟩
 ·cases h
def zd6 (q:(Ref×Int)×Int) (p:Plan) (l bl n:Nat) (w:World) (e:Ending) (w':World):Prop:=
 ∃ev,e=.returned (.tuple #[.agg #[.int .i64 q.1.1.keeper,.string q.1.1.name,.int .i64 q.1.2],ev])∧ErrV q.2 ev w'∧Fr (fun b=>b=bl) w w'∧Lg w' l bl (n+2) p
theorem zd6.mk {q:(Ref×Int)×Int} {p:Plan} {l bl n:Nat} {w w':World} {v ev:Value} {r:Ref} {i c:Int} (hq:q=((r,i),c)) (hv:v=.tuple #[.agg #[.int .i64 r.keeper,.string r.name,.int .i64 i],ev]) (he:ErrV c ev w') (hf:Fr (fun b=>b=bl) w w') (hl:Lg w' l bl (n+2) p):zd6 q p l bl n w (.returned v) w':=by
 subst hq;subst hv;exact⟨_,rfl,he,hf,hl⟩
def ErrT (w:World):Prop:=w.cell? ⟨0,0,none⟩=some (.iface 187 (.agg #[.pointer (some ⟨1,75,none⟩)]))
theorem zu4 (c:Int) (v:Value) (w:World) (h:ErrV c v w) (hg:ErrT w):
  Calls Tryz.prog 27 #[v] w (Gives (.int .i64 c) w):=by
 rcases h with ⟨rfl,rfl⟩ | ⟨hc,b,rfl,hb⟩
 ·go_enter Tryz.func27,Tryz.ntmps27
  go_wp2_with (go_at_call 51;refine(zu0 _ _).mono ?_;rintro e w' ⟨rfl,rfl⟩)
  go_ret
  exact .mk1 rfl frc
 ·obtain⟨wA,hwA⟩:∃wA,wA=w.alloc (.cells #[.pointer none] 108):=⟨_,rfl⟩
  have hfA:Fr No w wA:=hwA▸frc
  have B0:Bx wA w.heap.size 108 #[.pointer none]:=hwA▸bxc
  have hgA:wA.cell? ⟨0,0,none⟩=some (.iface 187 (.agg #[.pointer (some ⟨1,75,none⟩)])):=hfA.keep0 hg
  have HA:=zu1 ⟨b,0,none⟩ ⟨w.heap.size,0,none⟩ (.pointer none) wA hgA B0.c1 (B0.frozen 0)
  go_enter Tryz.func27,Tryz.ntmps27
  go_wp2_with fail
  rw[<-hwA]
  refine HA.mono ?_
  rintro e w1 ⟨rfl,hw1⟩
  have q1:Fr No w w1:=by
   rw[hw1]
   exact frc
  have B1:Bx w1 w.heap.size 108 #[.pointer (some ⟨b,0,none⟩)]:=by
   rw[hw1]
   exact Bx.set_ ((((B0.alloc _).alloc _).alloc _).alloc _) 0 _
  have c0:=B1.c1
  have l1:=B1.lt
  have e0:=(hb.keep q1).c1
  have l0:=(hb.keep q1).lt
  clear hw1 HA hwA
  go_wp2
  go_ret
  exact .mk1 rfl frc
theorem znf {p:Plan} {s:Str}:∀(n:Nat) (k:Int) {r:Ref},zbI p s n k=(r,1)->zbF p r.keeper s<0∧¬zbD p r.keeper s<0∧r.name=s
 | 0,_,_,h=>absurd (Prod.mk.inj h).2 (by decide)
 | n+1,k,r,h=>by
  rw[zbI] at h
  by_cases ha:zbF p k s<0
  ·rw[if_pos ha] at h
   by_cases ho:zbD p k s<0
   ·rw[if_pos ho] at h
    exact absurd (Prod.mk.inj h).2 (by decide)
   ·rw[if_neg ho] at h
    obtain rfl:=(Prod.mk.inj h).1
    exact⟨ha,ho,rfl⟩
  ·rw[if_neg ha] at h
   exact znf n _ h
theorem zng {p:Plan} {n:Nat} {r:Ref} {rs:List Ref} (h:upGo p n r=some rs):rs≠[]:=by
 cases n with
 | zero=>cases h
 | succ n=>
  rw[upGo] at h
  split at h
  ·cases h;simp
  ·split at h
   ·obtain⟨_,_,rfl⟩:=Option.map_eq_some_iff.1 h
    simp
   ·cases h
theorem znh {p:Plan} {k:Int} {kc i:Nat} {s:Str} {pre:List Ref} (h:zmD p k s=(⟨kc,s⟩,1)) (hh:Here p ⟨kc,s⟩ kc i) (hc:chainOf p ⟨kc,s⟩=some pre):zmD p kc s=(⟨kc,s⟩,1):=by
 have h1:zbf p k s=(⟨kc,s⟩,1):=by
  unfold zmD at h
  by_cases h2:(zbf p k s).2=1
  ·rw[if_pos h2] at h
   split at h
   ·rw[<-(Prod.mk.inj h).1,<-h2]
   ·exact absurd (Prod.mk.inj h).2 (by decide)
  ·rw[if_neg h2] at h
   exact absurd (Prod.mk.inj h).2 h2
 have h3:whose p k s=(⟨kc,s⟩,1):=by
  unfold zbf at h1
  split at h1
  ·exact h1
  ·exact absurd (Prod.mk.inj h1).2 (by decide)
 obtain⟨h4,h5,_⟩:=znf 4 k h3
 refine za3 (pre:=pre) ?_ hc
 rw[za2 hh.2.1]
 show zbI p s 4 kc=_
 rw[zbI,if_pos h4,if_neg h5]
theorem zni {p:Plan} {k:Int} {kc i:Nat} {s:Str} {pre:List Ref} (h:zmD p k s=(⟨kc,s⟩,1)) (hh:Here p ⟨kc,s⟩ kc i) (hc:chainOf p ⟨kc,s⟩=some pre):zmF p ⟨kc,s⟩=pre∧canB p ⟨kc,s⟩=zhn p pre:=by
 have h1:zmF p ⟨kc,s⟩=pre:=by
  unfold zmF
  dsimp only
  rw[znh h hh hc,if_pos ⟨rfl,rfl⟩,hc]
  rfl
 refine⟨h1,?_⟩
 unfold canB
 rw[h1]
 cases pre with
 | nil=>exact absurd rfl (zng hc)
 | cons a b=>rfl
theorem znj (X:Nat->Prop) (p:Plan) (v:Value) (k0:Nat) (s:Str) (w:World) (hp:lodB p=true) (h:Sl X w 2 (KprC X w) v p.keepers) (hk0:k0<p.keepers.length) (hs:s.size≤maxLen):
  Calls Tryz.prog 53 #[.agg #[v],.int .i64 k0,.string s] w (Gives (refV (zdR p k0 s)) w):=by
 obtain⟨A,cap,rfl,_,_⟩:=h.form
 have hkw:=fun W (hW:Fr No w W)=>h.keep (R':=KprC X W) hW zN (fun _ _ _ h=>h.keep hW zN)
 have HF:=fun W (hW:Fr No w W)=>za6 X p _ k0 s W hp (hkw W hW) hk0 hs
 have B0:Bx ((w.alloc (.cells #[.slice A p.keepers.length cap] 25)).alloc (.cells #[.int .i64 0,.string ⟨#[]⟩] 29)) w.heap.size 25 #[.slice A p.keepers.length cap]:=bxc
 have B1:Bx ((w.alloc (.cells #[.slice A p.keepers.length cap] 25)).alloc (.cells #[.int .i64 0,.string ⟨#[]⟩] 29)) (w.heap.size+1) 29 #[.int .i64 0,.string ⟨#[]⟩]:=bxc
 by_cases hc:(zmD p k0 s).2=1
 ·obtain⟨kc,i,pre,hq,hh,hch⟩:=zmH hp hc
  have HL:=fun W (hW:Fr No w W)=>zkt X p _ kc s i W hp (hkw W hW) hh hs
  rw[hch] at HL
  dsimp only[Option.getD_some] at HL
  rw[<-(zni hq hh hch).2] at HL
  have hV:zdR p k0 s=if canB p ⟨kc,s⟩ then (⟨kc,s⟩,1) else (zbH,4):=by
   unfold zdR
   rw[if_pos hc,hq]
  rw[hq] at HF
  unfold refV at HF ⊢
  replace hV:=Lib.hid hV
  generalize zdR p k0 s=V at *
  generalize canB p ⟨kc,s⟩=cb at *
  dsimp only at HF
  clear hc hq hh hch h hkw
  go_enter Tryz.func53,Tryz.ntmps53
  go_wp2_with (go_at_call 85;refine(HF _ frc).mono ?_;rintro e w1 ⟨rfl,hf1⟩;have q1:Fr No w w1:=frc;have C0:=B0.keep hf1;have C1:=B1.keep hf1;have b0:=C0.c1;have l0:=C0.lt;have l1:=C1.lt)
  refine zdP (fun W=>Bx W (w.heap.size+1) 29 #[.int .i64 0,.string ⟨#[]⟩]∧Bx W w1.heap.size 29 #[.int .i64 kc,.string s]∧Fr No w W) ⟨bxc,bxc,frc⟩ ?_
  rintro Wz ⟨hB,hR,hwz⟩
  refine(HL Wz hwz).mono ?_
  rintro e w2 ⟨rfl,hf2⟩
  obtain⟨z0,z1⟩:=(hB.keep hf2).c2
  have zf:=fun j=>(hB.keep hf2).frozen j
  have zl:=(hB.keep hf2).lt
  obtain⟨y0,y1⟩:=(hR.keep hf2).c2
  have yl:=(hR.keep hf2).lt
  have q2:Fr No w w2:=hwz.trans0 hf2
  clear hf1 q1 B0 B1 HF HL hB hR hwz C0 C1 b0 l0 l1 hf2
  cases cb
  ·go_wp2
   refine bodyPost_ret (v:=.tuple #[.agg #[.int .i64 0,.string ⟨#[]⟩],.int .i64 4]) (by simp[results,Tryz.results53,go_sem, *]) rfl ?_
   exact .mk1 (by rw[hV.out];rfl) frc
  ·go_wp2
   refine bodyPost_ret (v:=.tuple #[.agg #[.int .i64 kc,.string s],.int .i64 1]) (by simp[results,Tryz.results53,go_sem, *]) rfl ?_
   exact .mk1 (by rw[hV.out];rfl) frc
 ·have HS:zdR p k0 s=(zbH,2):=by
   unfold zdR
   rw[if_neg hc]
  rw[HS]
  unfold refV at HF ⊢
  have hc':((zmD p k0 s).2 != 1)=true:=by simpa using hc
  generalize zmD p k0 s=q at *
  obtain⟨⟨kc,nm⟩,c⟩:=q
  dsimp only at *
  clear hc HS h hkw
  go_enter Tryz.func53,Tryz.ntmps53
  go_wp2_with (go_at_call 85;refine(HF _ frc).mono ?_;rintro e w1 ⟨rfl,hf1⟩;have q1:Fr No w w1:=frc;have C1:=B1.keep hf1;have ⟨z0,z1⟩:=C1.c2;have zf:=(fun j=>C1.frozen j);have zl:=C1.lt)
  refine bodyPost_ret (v:=.tuple #[.agg #[.int .i64 0,.string ⟨#[]⟩],.int .i64 2]) (by simp[results,Tryz.results53,go_sem, *]) rfl ?_
  exact .mk1 rfl frc
def zu8 (p:Plan) (k:Int) (s:Str):Ref×Int:=if lodB p then zmD p k s else (zbH,2)
theorem zu9 (p:Plan) (v:Value) (k:Int) (s:Str) (w:World) (h:Sl No w 2 (KprC No w) v p.keepers) (hs:s.size≤maxLen):
  Calls Tryz.prog 9 #[.agg #[v],.int .i64 k,.string s] w (Gives (refV (zu8 p k s)) w):=by
 obtain⟨A,cap,rfl,_,_⟩:=h.form
 obtain⟨wA,hwA⟩:∃wA,wA=((w.alloc (.cells #[.slice A p.keepers.length cap] 25)).alloc (.cells #[.int .i64 0,.string ⟨#[]⟩] 29)):=⟨_,rfl⟩
 have hfA:Fr No w wA:=hwA▸frc
 have B0:Bx wA w.heap.size 25 #[.slice A p.keepers.length cap]:=hwA▸bxc
 have B2:Bx wA (w.heap.size+1) 29 #[.int .i64 0,.string ⟨#[]⟩]:=hwA▸bxc
 have HN:=zgH p _ wA (h.keep hfA zN (fun _ _ _ h=>h.keep hfA zN))
 have hV:zu8 p k s=if lodB p then zmD p k s else (zbH,2):=rfl
 have hsA:=hfA.size
 unfold zgG at HN
 generalize zu8 p k s=V at *
 clear h
 cases hp:lodB p
 ·rw[hp] at HN hV
  simp only[Bool.false_eq_true,if_false] at hV
  subst hV
  have q0:=B0.c1
  have l0:=B0.lt
  go_enter Tryz.func9,Tryz.ntmps9
  go_wp2_with fail
  rw[<-hwA]
  replace hwA:=Lib.hid hwA
  refine HN.mono ?_
  rintro e w1 ⟨hf1,⟨_,rfl⟩ | ⟨hno,_⟩⟩
  ·obtain⟨y0,y1⟩:=(B2.keep hf1).c2
   have yf:=fun j=>(B2.keep hf1).frozen j
   have yl:=(B2.keep hf1).lt
   clear q0 l0 HN
   go_wp2
   refine bodyPost_ret (v:=.tuple #[.agg #[.int .i64 0,.string ⟨#[]⟩],.int .i64 2]) (by simp[results,Tryz.results9,go_sem, *]) rfl ?_
   exact .mk1 rfl frc
  ·cases hno
 ·rw[hp] at HN hV
  simp only[if_true] at hV
  have HP:=fun l bl n g W (hL:zgF W l bl n p g)=>find_ok l bl n p g k s W hL hs
  rw[<-hV] at HP
  clear hV
  obtain⟨⟨uk,un⟩,uc⟩:=V
  unfold refV at HP ⊢
  dsimp only at HP ⊢
  have q0:=B0.c1
  have l0:=B0.lt
  go_enter Tryz.func9,Tryz.ntmps9
  go_wp2_with fail
  rw[<-hwA]
  replace hwA:=Lib.hid hwA
  refine HN.mono ?_
  rintro e w1 ⟨hf1,⟨hno,_⟩ | ⟨_,l,bl,rfl,hll,hbl,hLo⟩⟩
  ·cases hno
  ·have hb2:=B2.keep hf1
   have hw1:=hfA.trans0 hf1
   clear q0 l0 HN
   go_wp2_with fail
   refine(HP l bl 0 _ w1 hLo).mono ?_
   rintro e w2 ⟨rfl,hf2⟩
   obtain⟨x0,x1⟩:=(hb2.keep hf2).c2
   have xf:=fun j=>(hb2.keep hf2).frozen j
   have xl:=(hb2.keep hf2).lt
   have hw2:Fr No w w2:=hw1.trans0 hf2
   clear hb2 hf1 hf2 HP hLo hw1
   go_wp2
   refine bodyPost_ret (v:=.tuple #[.agg #[.int .i64 uk,.string un],.int .i64 uc]) (by simp[results,Tryz.results9,go_sem, *]) rfl ?_
   exact .mk1 rfl frc
theorem zva (p:Plan) (v:Value) (a b:Int) (k:Knd) (w:World) (h:Sl No w 2 (KprC No w) v p.keepers) (hs:k.name.size≤maxLen) (hp:lodB p=true) (ha:hasK p a=true) (hb:hasK p b=true) (hk:kndB k=true) (hag:zmJ p a b k=true):
  Calls Tryz.prog 12 #[.agg #[v],.int .i64 a,.int .i64 b,.agg #[.int .i64 k.kind,.string k.name]] w (zgm true w):=by
 obtain⟨A,cap,rfl,_,_⟩:=h.form
 obtain⟨wA,hwA⟩:∃wA,wA=((w.alloc (.cells #[.slice A p.keepers.length cap] 25)).alloc (.cells #[.int .i64 k.kind,.string k.name] 45)):=⟨_,rfl⟩
 have hfA:Fr No w wA:=hwA▸frc
 have B0:Bx wA w.heap.size 25 #[.slice A p.keepers.length cap]:=hwA▸bxc
 have B2:Bx wA (w.heap.size+1) 45 #[.int .i64 k.kind,.string k.name]:=hwA▸bxc
 have HN:=zgH p _ wA (h.keep hfA zN (fun _ _ _ h=>h.keep hfA zN))
 unfold zgG at HN
 rw[hp] at HN
 have HK:=fun W=>zfn k W hs
 rw[hk] at HK
 have HA:=fun l bl n g W (hL:zgF W l bl n p g)=>zmK l bl n p g a b k W hL hs
 rw[hag] at HA
 have HH:∀l bl g W (hL:zgF W l bl 0 p g) x,hasK p x=true->Calls Tryz.prog 34 #[.pointer (some ⟨l,0,none⟩),.int .i64 x] W (zgl true W):=fun l bl g W hL x hx=>by
  obtain⟨_,A,cap,bo,ba,h1,_,_,_,h5,_⟩:=hL
  obtain⟨_,_,_,_,hm⟩:=h5.form
  have:=zgq l p.keepers.length cap A _ _ _ x W h1 hm
  unfold hasK at hx
  rw[hx] at this
  exact this
 have q0:=B0.c1
 have l0:=B0.lt
 clear h
 go_enter Tryz.func12,Tryz.ntmps12
 go_wp2_with fail
 rw[<-hwA]
 replace hwA:=Lib.hid hwA
 refine HN.mono ?_
 rintro e w1 ⟨hf1,⟨hno,_⟩ | ⟨_,l,bl,rfl,hll,hbl,hLo⟩⟩
 ·cases hno
 ·obtain⟨x0,x1⟩:=(B2.keep hf1).c2
  have xl:=(B2.keep hf1).lt
  have hw1:=hfA.trans0 hf1
  have Ha:=HH l bl _ w1 hLo a ha
  have Hb:=HH l bl _ w1 hLo b hb
  have HA:=fun W (hW:Fr No w1 W)=>HA l bl 0 _ W (hLo.keep hW)
  have B21:=B2.keep hf1
  clear q0 l0 HN HH B0 B2 ha hb hp hk hag hLo hll hbl
  go_wp2_with fail
  refine Ha.mono ?_
  rintro e w2 ⟨rfl,rfl⟩
  go_wp2_with fail
  refine Hb.mono ?_
  rintro e w2 ⟨rfl,rfl⟩
  go_wp2_with fail
  refine(HK _).mono ?_
  rintro e w2 ⟨rfl,hf2⟩
  obtain⟨y0,y1⟩:=(B21.keep hf2).c2
  have yl:=(B21.keep hf2).lt
  have hw2:=hw1.trans0 hf2
  have HA:=HA w2 hf2
  clear x0 x1 xl B21 hf2 hw1 HK Ha Hb
  go_wp2_with fail
  refine HA.mono ?_
  rintro e w3 ⟨rfl,hf3⟩
  go_wp2
  go_ret
  exact .mk rfl (hw2.trans0 hf3)
theorem zvr (p:Plan) (v:Value) (r:Ref) (w:World) (h:Sl No w 2 (KprC No w) v p.keepers) (hs:r.name.size≤maxLen) (wk:(Lit.int .i64 r.keeper).wf=true) (hp:lodB p=true):
  Calls Tryz.prog 19 #[.agg #[v],.agg #[.int .i64 r.keeper,.string r.name]] w (zgm (canB p r) w):=by
 obtain⟨A,cap,rfl,_,_⟩:=h.form
 obtain⟨wA,hwA⟩:∃wA,wA=((w.alloc (.cells #[.slice A p.keepers.length cap] 25)).alloc (.cells #[.int .i64 r.keeper,.string r.name] 29)):=⟨_,rfl⟩
 have hfA:Fr No w wA:=hwA▸frc
 have B0:Bx wA w.heap.size 25 #[.slice A p.keepers.length cap]:=hwA▸bxc
 have B2:Bx wA (w.heap.size+1) 29 #[.int .i64 r.keeper,.string r.name]:=hwA▸bxc
 have HN:=zgH p _ wA (h.keep hfA zN (fun _ _ _ h=>h.keep hfA zN))
 have hsA:=hfA.size
 unfold zgG at HN
 rw[hp] at HN
 have HC:=fun l bl W (hL:Lg W l bl 0 p)=>zjo l bl 0 p r W hL hs wk (by omega)
 unfold zjn at HC
 generalize canB p r=cb at *
 clear h hp wk
 have q0:=B0.c1
 have l0:=B0.lt
 go_enter Tryz.func19,Tryz.ntmps19
 go_wp2_with fail
 rw[<-hwA]
 replace hwA:=Lib.hid hwA
 refine HN.mono ?_
 rintro e w1 ⟨hf1,⟨hno,_⟩ | ⟨_,l,bl,rfl,hll,hbl,hLo⟩⟩
 ·cases hno
 ·have hLg:Lg w1 l bl 0 p:=⟨_,hLo,fun _ _ _ h=>by cases h⟩
  obtain⟨y0,y1⟩:=(B2.keep hf1).c2
  have yl:=(B2.keep hf1).lt
  have hw1:=hfA.trans0 hf1
  clear q0 l0 HN hLo B0 B2 hf1
  go_wp2_with fail
  refine(HC l bl w1 hLg).mono ?_
  rintro e w2 ⟨rfl,hf2,_⟩
  have hw2:Fr No w w2:=hw1.trans hf2 (fun b hb h=>absurd h (by omega))
  clear y0 y1 yl HC hf2 hw1
  go_wp2
  go_ret
  exact .mk rfl hw2
attribute [local go_sem] Oper.semAt_some
def bwA (x:Int×Ref):Array Value:=#[.int .i64 x.1,.agg #[.int .i64 x.2.keeper,.string x.2.name]]
def bwOK (xs:List Ref) (j:Nat) (x:Int×Ref):Prop:=j<xs.length∧x.1=(xs.length:Int)-1-j∧xs[xs.length-1-j]? =some x.2
theorem zaF (Y:Nat->Prop) (xs:List Ref) (A:Option Addr) (cap c L n:Nat) (T:Nat->World->Prop) (Tx:World->Prop) (hlen:xs.length≤1000000)
  (hT:∀j W,T j W->Bx W c 59 #[.slice A xs.length cap]∧Sl Y W 2 RefC (.slice A xs.length cap) xs)
  (Z Zd:World->Prop)
  (hY:∀s x W,T s W->Z W->bwOK xs s x->YieldAt Fence.wide n Tryz.prog L (bwA x) W (fun e W'=>(e=.returned (.bool true)∧T (s+1) W'∧Z W')∨(e=.returned (.bool false)∧Tx W'∧Zd W')))
  (W1:World) (h1:T 0 W1) (hz:Z W1):
  CallsIn Fence.wide (n+1) Tryz.prog 95 #[.func (.yield L) #[] #[],.pointer (some ⟨c,0,none⟩)] W1
   (fun e W'=>(∃v,e=.returned v)∧((∃s,s=xs.length∧T s W'∧Z W')∨(Tx W'∧Zd W'))):=by
 refine callsIn_of_wp Tryz.func95 rfl trivial ?_ rfl
 simp only[Tryz.ntmps95,List.size_toArray,List.length_cons,List.length_nil,Nat.reduceAdd,Nat.reduceSub,Array.replicate_succ,Array.replicate_zero,List.push_toArray,List.append_toArray,List.nil_append,List.cons_append]
 have b0:=(hT 0 W1 h1).1.c1
 have bl:=(hT 0 W1 h1).1.lt
 gi_wp2
 gi_loopw [3] (fun u wr=>∃j:Nat,j≤xs.length∧u=.int .i64 ((xs.length:Int)-1-j)∧T j wr∧Z wr) (fun u _=>(intOf u+1).toNat)
 case atStart=>exact⟨0,Nat.zero_le _,by simp,h1,hz⟩
 case round=>
  clear h1 hz b0 bl
  obtain⟨j,hj,rfl,hTj,hzj⟩:=hrel
  obtain⟨hb,hs⟩:=hT j wr hTj
  have b0:=hb.c1
  have bl:=hb.lt
  by_cases hlt:j<xs.length
  ·have hk:xs.length-1-j<xs.length:=by omega
   have hidx:((xs.length:Int)-1-j).toNat=xs.length-1-j:=by omega
   obtain⟨fn,tmps,assign,body,hy,hR⟩:=hY j ((xs.length:Int)-1-j,xs[xs.length-1-j]) wr hTj hzj ⟨hlt,rfl,lz8 hk⟩
   obtain⟨b,off,rfl,_,c0,c1,_⟩:=hs.ref hk
   have cl:=lt_of_cell c0
   dsimp only[bwA] at hy
   gi_wp2
   refine hR.mono ?_
   rintro e W3 (⟨rfl,hT3,hz3⟩ | ⟨rfl,hX3,hzd3⟩)
   ·clear b0 bl c0 c1 cl hy hR hs hb
    gi_wp2
    go_roundw
    case rel=>exact⟨j+1,by omega,by congr 1;omega,hT3,hz3⟩
    case measure=>simp[intOf];omega
   ·clear b0 bl c0 c1 cl hy hR hs hb
    gi_wp2
    refine bodyPost_ret (results_none rfl _ _ _) rfl ?_
    exact⟨⟨_,rfl⟩,.inr ⟨hX3,hzd3⟩⟩
  ·clear hs hb
   obtain rfl:j=xs.length:=by omega
   have e0:(xs.length:Int)-1-(xs.length:Int)=-1:=by omega
   rw[e0]
   clear e0
   gi_wp2
   go_end0
   exact⟨⟨_,rfl⟩,.inl ⟨xs.length,rfl,hTj,hzj⟩⟩
theorem zaG {n:Nat} {g:Operand} {ps:Array Tmp} {assign body:Code} {Q:Exit->Act->World->Prop} {a:Act} {w:World} (Y:Nat->Prop) (xs:List Ref) (A:Option Addr) (cap c:Nat) (hlen:xs.length≤1000000)
  (hg:a.eval g=.func (.func 95) #[] #[.pointer (some ⟨c,0,none⟩)]) (hps:ps.size=2) (T:Nat->World->Prop) (Tx:World->Prop)
  (hTb:∀j W,T j W->Bx W c 59 #[.slice A xs.length cap]∧Sl Y W 2 RefC (.slice A xs.length cap) xs)
  (hT:∀j W W',T j W->Fr (fun b=>b=w.heap.size+1) W W'->T j W')
  (hTx:∀W W',Tx W->Fr (fun b=>b=w.heap.size+1) W W'->Tx W')
  (h0:∀o o',T 0 ((w.alloc o).alloc o')) (hc:c<w.heap.size)
  (hround:∀j x W,T j W->bwOK xs j x->w.heap.size+1<W.heap.size->
   assign.wpIn (Fence.wide.inRound (w.heap.size+1)) (n+2-1-1) Tryz.prog (Exit.then (fun a1 W1=>(W1.heap[w.heap.size+1]? =W.heap[w.heap.size+1]?∧W1.heap[w.heap.size]? =W.heap[w.heap.size]?) ∧
    ∀W2,Fr (fun b=>b=w.heap.size+1) W1 W2->body.wpIn (Fence.wide.inRound (w.heap.size+1)) (n+2-1-1) Tryz.prog
     (zgI (T (j+1)) Tx (fun W3=>W3.heap[w.heap.size+1]? =W2.heap[w.heap.size+1]?∧W3.heap[w.heap.size]? =W2.heap[w.heap.size]?)) a1 W2) (fun _ _ _=>False))
    { tmps:=(ps.zip (bwA x)).foldl (fun t (p,v)=>t.setIfInBounds p v) a.tmps,defers:=[] } W)
  (hdone:∀W,T xs.length W->W.heap[w.heap.size]? =some (.deferred (some []))->Q .normal { a with defers:={ target:=.collected w.heap.size,args:=#[] } :: a.defers } W)
  (hstop:∀W,Tx W->W.heap[w.heap.size]? =some (.deferred (some []))->Code.ret.wpIn Fence.wide (n+2) Tryz.prog Q { a with defers:={ target:=.collected w.heap.size,args:=#[] } :: a.defers } W):
  (Code.rangeFunc g ps assign body).wpIn Fence.wide (n+2) Tryz.prog Q a w:=
 zgJ (F:=Fence.wide) rfl (by omega) hg trivial (enters_of Tryz.func95 (by kernel_rfl) rfl)
  bwA (fun _=>hps.symm) T Tx (bwOK xs) (fun j _=>j+1) 0 (fun s=>s=xs.length) c hc hT hTx h0 hround
  (fun Z Zd _ _ hY W1 h1 hz=>zaF Y xs A cap c _ _ T Tx hlen hTb Z Zd hY W1 h1 hz)
  (fun s W hs hT=>by subst hs;exact hdone W hT) hstop
theorem zaH (xid:Nat) {n:Nat} {g:Operand} {ps:Array Tmp} {assign body:Code} {Q:Exit->Act->World->Prop} {a:Act} {w:World} (Y:Nat->Prop) (xs:List Ref) (A:Option Addr) (cap c:Nat) (hlen:xs.length≤1000000)
  (hg:a.eval g=.func (.func 95) #[] #[.pointer (some ⟨c,0,none⟩)]) (hps:ps.size=2) (T:Nat->World->Prop) (Tx:World->Prop)
  (hTb:∀j W,T j W->Bx W c 59 #[.slice A xs.length cap]∧Sl Y W 2 RefC (.slice A xs.length cap) xs)
  (hT:∀j W W',T j W->Fr (fun b=>b=w.heap.size+1) W W'->T j W')
  (hTx:∀W W',Tx W->Fr (fun b=>b=w.heap.size+1) W W'->Tx W')
  (h0:∀o o',T 0 ((w.alloc o).alloc o')) (hc:c<w.heap.size)
  (hround:∀j x W,T j W->bwOK xs j x->w.heap.size+1<W.heap.size->
   assign.wpIn (Fence.wide.inRound (w.heap.size+1)) (n+2-1-1) Tryz.prog (Exit.then (fun a1 W1=>(W1.heap[w.heap.size+1]? =W.heap[w.heap.size+1]?∧W1.heap[w.heap.size]? =W.heap[w.heap.size]?) ∧
    ∀W2,Fr (fun b=>b=w.heap.size+1) W1 W2->body.wpIn (Fence.wide.inRound (w.heap.size+1)) (n+2-1-1) Tryz.prog
     (zgK xid (T (j+1)) Tx (fun W3=>W3.heap[w.heap.size+1]? =W2.heap[w.heap.size+1]?∧W3.heap[w.heap.size]? =W2.heap[w.heap.size]?)) a1 W2) (fun _ _ _=>False))
    { tmps:=(ps.zip (bwA x)).foldl (fun t (p,v)=>t.setIfInBounds p v) a.tmps,defers:=[] } W)
  (hdone:∀W,T xs.length W->W.heap[w.heap.size]? =some (.deferred (some []))->Q .normal { a with defers:={ target:=.collected w.heap.size,args:=#[] } :: a.defers } W)
  (hstop:∀W,Tx W->W.heap[w.heap.size]? =some (.deferred (some []))->(Code.exit xid).wpIn Fence.wide (n+2) Tryz.prog Q { a with defers:={ target:=.collected w.heap.size,args:=#[] } :: a.defers } W):
  (Code.rangeFunc g ps assign body).wpIn Fence.wide (n+2) Tryz.prog Q a w:=
 zgL xid (F:=Fence.wide) rfl (by omega) hg trivial (enters_of Tryz.func95 (by kernel_rfl) rfl)
  bwA (fun _=>hps.symm) T Tx (bwOK xs) (fun j _=>j+1) 0 (fun s=>s=xs.length) c hc hT hTx h0 hround
  (fun Z Zd _ _ hY W1 h1 hz=>zaF Y xs A cap c _ _ T Tx hlen hTb Z Zd hY W1 h1 hz)
  (fun s W hs hT=>by subst hs;exact hdone W hT) hstop
theorem zaI (A:Option Addr) (n c:Nat) (w:World):Calls Tryz.prog 67 #[.slice A n c] w
  (fun e w'=>e=.returned (.func (.func 95) #[] #[.pointer (some ⟨w.heap.size,0,none⟩)])∧w'=w.alloc (.cells #[.slice A n c] 59)):=by
 have hmf:∀(fn:Fn) (first cap:Array Value) (w:World),(Instr.makeFunc fn first cap).run Tryz.prog w=.ok (.func fn first cap) w:=fun _ _ _ _=>rfl
 go_enter Tryz.func67,Tryz.ntmps67
 go_wp2
 go_ret
 exact⟨rfl,rfl⟩
theorem zaJ {w:World} {v:Value} {rs:List Ref} {b:Nat} {t:TypeId} {A:Option Addr} {n c:Nat} (h:Sl No w 2 RefC v rs) (hb:Bx w b t #[.slice A n c]):Sl (fun x=>x=b∨w.heap.size≤x) w 2 RefC v rs:=by
 obtain⟨A',cap,rfl,h1,h2,h3⟩:=h
 refine⟨A',cap,rfl,h1,h2,fun h0=>?_⟩
 obtain⟨g,off,rfl,hX,hc⟩:=h3 h0
 refine⟨g,off,rfl,?_,hc⟩
 obtain⟨cs,⟨rfl,_⟩,_,hcs⟩:=hc 0 h0
 have c0:=hcs 0 (by decide)
 simp only[Nat.zero_mul,Nat.add_zero,lz3] at c0
 have hl:=lt_of_cell c0
 rintro(rfl|h)
 ·rw[hb.cell] at c0
  rcases off with _|off
  ·simp at c0
  ·simp at c0
 ·omega
def zjt (q r:Ref):Bool:=decide (q.keeper=r.keeper)&&(q.name.toList == r.name.toList)
theorem zju {q r:Ref}:zjt q r=true↔q=r:=by
 obtain⟨qk,qn⟩:=q
 obtain⟨rk,rn⟩:=r
 unfold zjt
 simp only[lz5,decide_eq_true_eq,beq_iff_eq,Ref.mk.injEq]
 exact⟨fun h=>⟨h.1,str_eq h.2⟩,fun h=>⟨h.1,by rw[h.2]⟩⟩
theorem zjv (r:Ref):zjt r r=true:=zju.2 rfl
theorem zjw {q r:Ref} (h:q≠r):zjt q r=false:=by
 rw[<-Bool.not_eq_true];intro h';exact h (zju.1 h')
theorem zjx {p:Plan}:∀{n m:Nat} {r:Ref} {rs:List Ref},upGo p n r=some rs->n≤m->upGo p m r=some rs
 | 0,_,_,_,h,_=>by cases h
 | n+1,0,_,_,_,hm=>absurd hm (by omega)
 | n+1,m+1,r,rs,h,hm=>by
  rw[upGo] at h ⊢
  by_cases h1:(zbG p r).super.toList.isEmpty=true
  ·rw[if_pos h1] at h ⊢;exact h
  ·rw[if_neg h1] at h ⊢
   by_cases h2:(whose p r.keeper (zbG p r).super).2=1
   ·rw[if_pos h2] at h ⊢
    rw[Option.map_eq_some_iff] at h ⊢
    obtain⟨xs,hx,he⟩:=h
    exact⟨xs,zjx hx (by omega),he⟩
   ·rw[if_neg h2] at h;cases h
theorem zjy {p:Plan}:∀{n:Nat} {r:Ref} {rs:List Ref},upGo p n r=some rs->∀(k:Nat) (hk:k<rs.length),∃m,upGo p m rs[k]=some (rs.drop k)
 | 0,_,_,h,_,_=>by cases h
 | n+1,r,rs,h,k,hk=>by
  have h0:=h
  rw[upGo] at h
  by_cases h1:(zbG p r).super.toList.isEmpty=true
  ·rw[if_pos h1] at h
   cases h
   obtain rfl:k=0:=by simpa using hk
   exact⟨n+1,h0⟩
  ·rw[if_neg h1] at h
   by_cases h2:(whose p r.keeper (zbG p r).super).2=1
   ·rw[if_pos h2] at h
    rw[Option.map_eq_some_iff] at h
    obtain⟨xs,hx,rfl⟩:=h
    cases k with
    | zero=>exact⟨n+1,h0⟩
    | succ k=>exact zjy hx k (by simpa using hk)
   ·rw[if_neg h2] at h;cases h
theorem zjz {p:Plan}:∀{n:Nat} {r:Ref} {rs:List Ref},upGo p n r=some rs->rs.Nodup
 | 0,_,_,h=>by cases h
 | n+1,r,rs,h=>by
  have h0:=h
  rw[upGo] at h
  by_cases h1:(zbG p r).super.toList.isEmpty=true
  ·rw[if_pos h1] at h
   cases h
   simp
  ·rw[if_neg h1] at h
   by_cases h2:(whose p r.keeper (zbG p r).super).2=1
   ·rw[if_pos h2] at h
    rw[Option.map_eq_some_iff] at h
    obtain⟨xs,hx,rfl⟩:=h
    rw[List.nodup_cons]
    refine⟨fun hm=>?_,zjz hx⟩
    obtain⟨k,hk,he⟩:=List.getElem_of_mem hm
    obtain⟨m,hm⟩:=zjy hx k hk
    rw[he] at hm
    have a:=zjx hm (Nat.le_max_left m (n+1))
    have b:=zjx h0 (Nat.le_max_right m (n+1))
    rw[a] at b
    have:=congrArg (Option.map List.length) b
    simp at this
    omega
   ·rw[if_neg h2] at h;cases h
theorem zjA {p:Plan} (hp:lodB p=true) (r:Ref):(zmF p r).Nodup:=by
 rcases zhi hp r with h | ⟨k,i,_,h⟩
 ·rw[h];simp
 ·exact zjz h
def zjB (p:Plan) (rs:List Ref):List (Ref×Fld):=rs.flatMap fun r=>(zbG p r).fields.map (r,·)
theorem zjC (p:Plan) (r:Ref) (rs:List Ref):zjB p (r :: rs)=(zbG p r).fields.map (r,·) ++ zjB p rs:=by simp[zjB]
theorem zjD (p:Plan) (rs ts:List Ref):zjB p (rs ++ ts)=zjB p rs ++ zjB p ts:=by simp[zjB]
def zjE (p:Plan):List Ref->Ref->Nat
 | [],_=>0
 | r :: rs,q=>if zjt r q then 0 else (zbG p r).fields.length+zjE p rs q
theorem zjF {p:Plan} {rs:List Ref} {x:Ref×Fld} (h:x∈zjB p rs):x.1∈rs∧x.2∈(zbG p x.1).fields:=by
 unfold zjB at h
 rw[List.mem_flatMap] at h
 obtain⟨r,hr,hx⟩:=h
 rw[List.mem_map] at hx
 obtain⟨f,hf,rfl⟩:=hx
 exact⟨hr,hf⟩
theorem zjG {p:Plan}:∀{rs:List Ref},rs.Nodup->∀(i:Nat) (hi:i<(zjB p rs).length),
  zjE p rs ((zjB p rs)[i]).1≤i∧(zbG p ((zjB p rs)[i]).1).fields[i-zjE p rs ((zjB p rs)[i]).1]? =some ((zjB p rs)[i]).2 ∧
  (((zjB p rs).take i).filter (fun x=>zjt x.1 ((zjB p rs)[i]).1)).length=i-zjE p rs ((zjB p rs)[i]).1
 | [],_,i,hi=>by simp[zjB] at hi
 | r :: rs,hn,i,hi=>by
  rw[List.nodup_cons] at hn
  have he:=zjC p r rs
  by_cases hlt:i<(zbG p r).fields.length
  ·have hx:(zjB p (r :: rs))[i]=(r,(zbG p r).fields[i]):=by
    simp only[he]
    rw[List.getElem_append_left (by simpa using hlt)]
    simp
   rw[hx]
   have hf:zjE p (r :: rs) r=0:=by rw[zjE,if_pos (zjv r)]
   dsimp only
   rw[hf,Nat.sub_zero]
   refine⟨Nat.zero_le _,lz8 hlt,?_⟩
   rw[he,List.take_append_of_le_length (by simp;omega),List.filter_eq_self.2,List.length_take,List.length_map]
   ·omega
   ·intro x hx
    have:=List.mem_of_mem_take hx
    rw[List.mem_map] at this
    obtain⟨f,_,rfl⟩:=this
    exact zjv r
  ·have hl:(zjB p (r :: rs)).length=(zbG p r).fields.length+(zjB p rs).length:=by rw[he];simp
   have hi':i-(zbG p r).fields.length<(zjB p rs).length:=by omega
   obtain⟨h1,h2,h3⟩:=zjG hn.2 _ hi'
   have hx:(zjB p (r :: rs))[i]=(zjB p rs)[i-(zbG p r).fields.length]:=by
    simp only[he]
    rw[List.getElem_append_right (by simpa using Nat.le_of_not_lt hlt)]
    simp
   rw[hx]
   have hne:r≠((zjB p rs)[i-(zbG p r).fields.length]).1:=fun e=>hn.1 (by rw[e];exact(zjF (List.getElem_mem hi')).1)
   generalize(zjB p rs)[i-(zbG p r).fields.length]=y at *
   have hf:zjE p (r :: rs) y.1=(zbG p r).fields.length+zjE p rs y.1:=by rw[zjE,if_neg (by rw[zjw hne];simp)]
   rw[hf]
   refine⟨by omega,by rw[<-h2];congr 1;omega,?_⟩
   rw[he,List.take_append,List.filter_append,List.length_append,List.length_map,h3]
   have h0:(((zbG p r).fields.map (r,·)).take i).filter (fun x=>zjt x.1 y.1)=[]:=by
    rw[List.filter_eq_nil_iff]
    intro x hx
    have:=List.mem_of_mem_take hx
    rw[List.mem_map] at this
    obtain⟨f,_,rfl⟩:=this
    rw[zjw hne];simp
   rw[h0]
   simp
   omega
structure LFld where
 of_:Ref
 at_:Int
 kind:Knd
def zjH (i:Nat):List (Ref×Fld)->List LFld
 | []=>[]
 | x :: xs=>⟨x.1,i,x.2.kind⟩ :: zjH (i+1) xs
theorem zjI:∀(xs ys:List (Ref×Fld)) (i:Nat),zjH i (xs ++ ys)=zjH i xs ++ zjH (i+xs.length) ys
 | [],ys,i=>by simp[zjH]
 | x :: xs,ys,i=>by rw[List.cons_append,zjH,zjI xs ys,zjH,List.cons_append,List.length_cons];congr 3;omega
theorem zjJ:∀(xs:List (Ref×Fld)) (i:Nat),(zjH i xs).length=xs.length
 | [],_=>rfl
 | x :: xs,i=>by rw[zjH,List.length_cons,zjJ xs,List.length_cons]
theorem zjK:∀(xs:List (Ref×Fld)) (i k:Nat) (hk:k<xs.length),(zjH i xs)[k]'(by rw[zjJ];exact hk)=⟨xs[k].1,((i+k:Nat):Int),xs[k].2.kind⟩
 | x :: xs,i,0,_=>rfl
 | x :: xs,i,k+1,hk=>by
  have:=zjK xs (i+1) k (by simpa using hk)
  simp only[zjH,List.getElem_cons_succ]
  rw[this]
  congr 2
  omega
def layL (p:Plan) (rs:List Ref):List LFld:=zjH 0 (zjB p rs.reverse)
def layK (p:Plan) (r:Ref):List LFld:=layL p (zmF p r)
def layB (p:Plan) (r:Ref):List LFld:=if canB p r then layK p r else []
theorem zjL {c:Cls} (h:clsB c=true):c.fields.length≤3:=by
 unfold clsB at h
 simp only[lz5,decide_eq_true_eq] at h
 omega
theorem zjM {p:Plan} (hp:lodB p=true):∀{rs:List Ref},zhb p rs->(zjB p rs).length≤3 * rs.length
 | [],_=>by simp[zjB]
 | r :: rs,h=>by
  have ih:=zjM hp (rs:=rs) (fun x hx=>h x (by simp[hx]))
  rw[zjC]
  simp
  obtain⟨_,k,i,hh⟩:=h r (by simp)
  have:=zjL (Here.clsB hp hh)
  omega
def zjN (p:Plan) (k:Int) (m:Str) (i:Nat):List (Ref×Fld)->LFld×Int
 | []=>(⟨zbH,0,⟨0,⟨#[]⟩⟩⟩,3)
 | x :: xs=>if x.2.name.toList == m.toList then (if zmJ p k x.1.keeper x.2.kind then (⟨x.1,i,x.2.kind⟩,1) else (⟨zbH,0,⟨0,⟨#[]⟩⟩⟩,4)) else zjN p k m (i+1) xs
theorem zcY {r n:Nat} {P:Program} {f:FuncId} {args:Array Value} {w:World} {R:Ending->World->Prop} (h:Calls P f args w R):CallsIn (Fence.wide.inRound r) n P f args w R:=CallsIn.inRound r (callsIn_wide.2 h)
theorem zcZ {r n:Nat} {P:Program} {row:String} {args:Array Value} {w:World} {R:Value->World->Prop} (h:Rows P row args w R):RowsIn (Fence.wide.inRound r) n P row args w R:=
 fun c cs _=>let ⟨v,w',hr,s⟩:=h c cs;⟨v,w',hr,stepsIn_wide.2 s⟩
theorem zc0 {r n:Nat} {P:Program} {o:Oper} {a:Act} {w:World} {K:Act->World->Prop} {Q:Exit->Act->World->Prop} (hd:∀c,o.op≠.defer c) (h:o.wp P a w K Q):o.wpIn (Fence.wide.inRound r) n P a w K Q:=by
 refine⟨fun _ _=>trivial,?_⟩
 show Oper.uponIn _ _ _ _ _ _ _ ((Oper.semAt (some r) a.eval o).run P w)
 rw[Oper.semAt_some r a.eval o hd]
 unfold Oper.wp at h
 generalize(execOp a.eval o).run P w=res at *
 cases res with
 | ok nx w'=>
  cases nx<;>simp only[Oper.upon] at h<;>simp only[Oper.uponIn]<;>first|exact h|exact⟨fun h=>absurd h (by simp[Fence.wide]),zcY h⟩|exact⟨fun h=>absurd h (by simp[Fence.wide]),zcZ h⟩|exact h.elim
 | halt x w'=>cases x<;>simp only[Oper.upon] at h<;>simp only[Oper.uponIn]<;>first|exact h|exact h.elim
def zc1 (l:List Oper):Bool:=l.all fun o=>match o.op with | .defer _=>false|_=>true
theorem zc2 {l:List Oper} (h:zc1 l=true):∀(i:Nat) (o:Oper),l.toArray[i]? =some o->∀c,o.op≠.defer c:=fun i o ho c hc=>by
 have hm:o∈l:=List.mem_of_getElem? (by simpa using ho)
 have:=List.all_eq_true.1 h o hm
 rw[hc] at this
 cases this
theorem zc3 {r n:Nat} {P:Program} {md:Region.Mode} {ops:Array Oper} {Q:Exit->Act->World->Prop} (hd:∀(i:Nat) (o:Oper),ops[i]? =some o->∀c,o.op≠.defer c) (hQ:¬LetsOut Q):
  ∀(f:Nat) (listed:Array Bool) (a:Act) (w:World),wpAny P md ops Q f listed a w->wpAnyIn (Fence.wide.inRound r) n P md ops Q f listed a w
 | 0,_,_,_,h=>h
 | f+1,listed,a,w,h=>by
  refine⟨h.1,fun i hi=>?_⟩
  have h2:=h.2 i hi
  unfold wpOp at h2
  unfold wpOpIn
  cases ho:ops[i]? with
  | none=>rw[ho] at h2;exact zc3 hd hQ f _ _ _ h2
  | some o=>
   rw[ho] at h2
   dsimp only at h2 ⊢
   by_cases hw:Region.wanted o (yielded ops a.tmps)=true
   ·rw[if_pos hw] at h2 ⊢
    rcases h2 with h2 | ⟨_,h2⟩
    ·exact Oper.wpIn_mono (fun a w h=>zc3 hd hQ f _ _ _ h) (zc0 (hd i o ho) h2)
    ·exact absurd h2 hQ
   ·rw[if_neg hw] at h2 ⊢
    exact⟨fun _ _=>trivial,zc3 hd hQ f _ _ _ h2⟩
section
variable {P:Program} {l:List Oper} {Q:Exit->Act->World->Prop} {a:Act} {w:World} {n:Nat} {Φ:Nat->Value->World->Prop} {E:Nat->Bool}
theorem zc4 {id:Nat} {r d:Nat} (n:Nat) (Φ:Nat->Value->World->Prop) (A E:Nat->Bool) (hA:∀k v W,A k=true->Φ k v W->bk v<W.heap.size) (hf:P.follows .mixedOrders=true) (hm:monB E l n=true) (hsz:∀o∈l.take n,∀d,o.dst=some d->d<a.tmps.size) (hΦ:∀k v W W',Φ k v W->Fr No W W'->Φ k v W')
  (hop:∀k o,(l.take n)[k]? =some o->∀a' W,Fr No w W->(∀t,(∀p∈l.take n,p.dst≠some t)->a'.eval (.tmp t)=a.eval (.tmp t))->(∀e∈o.after,Region.binds .any e=true->∀p d,(l.take n)[e.on]? =some p->p.dst=some d->Φ e.on (a'.eval (.tmp d)) W)->
   (E k=true->zaw P o a' (fun v=>Φ k v W∧A k=false))∧(E k=false->zab P o a' W (fun v W'=>Fr No W W'∧Φ k v W'∧(A k=true->W.heap.size≤bk v))))
  (T:Act->World->Prop)
  (hend:∀vs W,Fr No w W->(∀k,k<n->Φ k (vs k) W)->(∀j k,j<n->k<n->j≠k->A j=true->A k=true->bk (vs j)≠bk (vs k))->wpList P l.toArray (fun e a' W'=>e=.normal∧T a' W') (l.drop n) (zad (l.take n) vs (fun _=>true) 0 a) W)
  (hT:∀a' W,T a' W->Q .normal a' W) (hdf:zc1 l=true):(Code.region id l.toArray true).wpIn (Fence.wide.inRound r) d P Q a w:=by
 have hm':=hm
 simp only[monB,lz5,decide_eq_true_eq] at hm'
 have hn:n<l.length:=hm'.1.1.1.1.1.1.2
 refine wpIn_mono (Q:=fun e a' W'=>e=.normal∧T a' W') ?_ (fun e a' W ⟨he,hx⟩=>by subst he;exact hT a' W hx)
 refine wpIn_region_any hf (zc3 (zc2 hdf) (fun⟨_,_,h⟩=>by cases h.1) _ _ _ _ ?_)
 have hcount:(List.range n).countP (fun i=>!(Array.replicate l.toArray.size false).getD i true)=n:=by
  rw[List.countP_eq_length.2 (fun i hi=>by
   have:=List.mem_range.1 hi
   have:i<l.length:=by omega
   simp[this])]
  simp
 have h:=zax (w:=w) A hA hm hsz hΦ (fun c a' w' h=>by cases h.1) hop hend n (Array.replicate l.toArray.size false) { w with drawn:=w.drawn+1 } hcount.symm
  ⟨by simp,fun j oj _ hl=>(by rw[getD_replicate_false] at hl;cases hl),fun t _ ht=>getD_in (by simpa using ht) (getD_replicate_false _ _)⟩ (fun _=>undef) (Fr.refl No w).drew (fun k _ hl=>by rw[getD_replicate_false] at hl;cases hl) (fun j k _ _ _ hl=>by rw[getD_replicate_false] at hl;cases hl)
 rw[zaj (l.take n) (fun _=>undef) (fun _=>undef) (fun i=>(Array.replicate l.toArray.size false).getD i false) (fun _=>false) 0 a (fun j _ _=>⟨rfl,getD_replicate_false _ _⟩)] at h
 have hnone:∀(l':List Oper) (k:Nat) (a:Act),zad l' (fun _=>undef) (fun _=>false) k a=a:=fun l'=>by
  induction l' with
  | nil=>intro k a;rfl
  | cons o rest ih=>intro k a;unfold zad;simpa using ih (k+1) a
 rw[hnone,show n+(l.length-n)=l.toArray.size by simp;omega] at h
 exact h
end
theorem zc5 {r d:Nat} {P:Program} {l:List Oper} {Q:Exit->Act->World->Prop} {a:Act} {w:World} {id:Nat} (n:Nat) (L:List (Value->World->Prop)) (AL EL:List Bool) (hA:∀p∈L.zip AL,p.2=true->∀v W,p.1 v W->bk v<W.heap.size)
  (hf:P.follows .mixedOrders=true) (hm:(monB (fun k=>EL.getD k false) l n&&decide (L.length=n)&&decide (AL.length=n))=true) (hsz:∀o∈l.take n,∀d,o.dst=some d->d<a.tmps.size) (hL:∀φ∈L,MonP φ)
  (hdf:zc1 l=true)
  (hop:∀k o,(l.take n)[k]? =some o->∀a' W,Fr No w W->(∀t,(∀p∈l.take n,p.dst≠some t)->a'.eval (.tmp t)=a.eval (.tmp t))->(∀e∈o.after,Region.binds .any e=true->∀p d,(l.take n)[e.on]? =some p->p.dst=some d->L.getD e.on (fun _ _=>True) (a'.eval (.tmp d)) W)->
   (EL.getD k false=true->zaw P o a' (fun v=>L.getD k (fun _ _=>True) v W∧AL.getD k false=false))∧(EL.getD k false=false->zab P o a' W (fun v W'=>Fr No W W'∧L.getD k (fun _ _=>True) v W'∧(AL.getD k false=true->W.heap.size≤bk v))))
  (hend:∀vs W,Fr No w W->(∀k,k<n->L.getD k (fun _ _=>True) (vs k) W)->(∀j k,j<n->k<n->j≠k->AL.getD j false=true->AL.getD k false=true->bk (vs j)≠bk (vs k))->wpList P l.toArray (fun e a' W'=>e=.normal∧Q .normal a' W') (l.drop n) (zad (l.take n) vs (fun _=>true) 0 a) W):(Code.region id l.toArray true).wpIn (Fence.wide.inRound r) d P Q a w:=by
 simp only[lz5,decide_eq_true_eq] at hm
 obtain⟨⟨hm,hl1⟩,hl2⟩:=hm
 refine zc4 n (fun k=>L.getD k (fun _ _=>True)) (fun k=>AL.getD k false) (fun k=>EL.getD k false) (fun k v W hk h=>?_) hf hm hsz (fun k v W W' h hf=>?_) hop (fun a' W'=>Q .normal a' W') hend (fun _ _ h=>h) hdf
 ·have hk2:k<AL.length:=by
   rcases Nat.lt_or_ge k AL.length with h|h
   ·exact h
   ·simp[List.getD,List.getElem?_eq_none h] at hk
  have hk1:k<L.length:=by omega
  have e1:L.getD k (fun _ _=>True)=L[k]:=by simp[List.getD,lz8 hk1]
  have e2:AL.getD k false=AL[k]:=by simp[List.getD,lz8 hk2]
  rw[e1] at h
  rw[e2] at hk
  exact hA (L[k],AL[k]) (List.mem_iff_getElem.2 ⟨k,by simp;omega,by simp⟩) hk v W h
 ·rcases Nat.lt_or_ge k L.length with h1|h1
  ·have e1:L.getD k (fun _ _=>True)=L[k]:=by simp[List.getD,lz8 h1]
   rw[e1] at h ⊢
   exact hL _ (List.getElem_mem h1) v W W' h hf
  ·have e1:L.getD k (fun _ _=>True)=fun _ _=>True:=by simp[List.getD,List.getElem?_eq_none h1]
   rw[e1];trivial
end Go.Proofs.YtbfmeklfpackjaaGreatDoor
