/- The program's link of a method: the code of an error, the class in which a member is looked for, a method that is there. -/
import Derived.Test.YtbfmeklfpackjaaGreatDoorQHPqa2
set_option maxHeartbeats 8000000
set_option maxRecDepth 100000
namespace Go.Proofs.YtbfmeklfpackjaaGreatDoor
open Go.RowKit
def ErrV (c:Int) (v:Value) (w:World):Prop:=(c=1∧v=.nilIface)∨(c≠1∧∃b,v=.iface 108 (.pointer (some ⟨b,0,none⟩))∧Bx w b 110 #[.int .i64 c])
theorem ErrV.keep {c:Int} {v:Value} {w w':World} (h:ErrV c v w) (hf:Fr No w w'):ErrV c v w':=by
 rcases h with h | ⟨h,b,h1,h2⟩
 ·exact .inl h
 ·exact .inr ⟨h,b,h1,h2.keep hf⟩
theorem ErrV.mk {c:Int} {b:Nat} {w:World} (hc:c≠1) (h:Bx w b 110 #[.int .i64 c]):ErrV c (.iface 108 (.pointer (some ⟨b,0,none⟩))) w:=.inr ⟨hc,b,rfl,h⟩
theorem zdQ {l bl n:Nat} {p:Plan} {g:Int->Str->Option Int} {k i a:Nat} {s:Str} {w:World} (h:zgF w l bl n p g) (hh:Here p ⟨k,s⟩ k i) (hs:s.size≤maxLen) (ha:a<(zbG p ⟨k,s⟩).methods.length):
  ∃cs:List Value,MthC (fun b=>b=bl) w cs (zbG p ⟨k,s⟩).methods[a]∧∀W,Fr No w W->Calls Tryz.prog 50 #[.pointer (some ⟨l,0,none⟩),.agg #[.int .i64 k,.string s,.int .i64 a]] W (Gives (.agg cs.toArray) W):=by
 obtain⟨Af,cf,Am,cm,hR,HC⟩:=zjq h hh hs
 generalize zbG p ⟨k,s⟩=c at *
 obtain⟨vf,vm,he,_,_,_,hm⟩:=hR
 simp only[List.cons.injEq,true_and,and_true] at he
 obtain⟨rfl,rfl⟩:=he
 have hml:=hm.at_.2.2.1
 unfold maxLen at hml
 obtain⟨bm,om,Aa,ca,Ac,cc,Ax,cx,rfl,_,d0,d1,d2,d3,d4,d5,d6,d7,hr1,hr2,hr3,hr4,hr5,_,_,_,_,_,_⟩:=hm.mth ha
 refine⟨[.string c.methods[a].name,.slice Aa c.methods[a].args.length ca,.int .i64 c.methods[a].ret.kind,.string c.methods[a].ret.name,.int .i64 c.methods[a].locals,.int .i64 c.methods[a].stack,.slice Ac c.methods[a].code.length cc,.slice Ax c.methods[a].maps.length cx],⟨_,_,_,rfl,hr1,hr2,hr3,hr4,hr5⟩,fun w0 hW=>?_⟩
 clear hm hr1 hr2 hr3 hr4 hr5
 generalize c.methods[a]=m at *
 replace d0:=hW.keep0 d0
 replace d1:=hW.keep0 d1
 replace d2:=hW.keep0 d2
 replace d3:=hW.keep0 d3
 replace d4:=hW.keep0 d4
 replace d5:=hW.keep0 d5
 replace d6:=hW.keep0 d6
 replace d7:=hW.keep0 d7
 replace HC:=fun W' (h:Fr No w0 W')=>HC W' (hW.trans0 h)
 have hk0:(0:Int)≤(a:Int):=by omega
 have hka:(a:Int)<(c.methods.length:Int):=by omega
 clear hW h hh
 obtain⟨wA,hwA⟩:∃wA,wA=((w0.alloc (.cells #[.int .i64 k,.string s,.int .i64 a] 31)).alloc (.cells #[.string ⟨#[]⟩,.slice none 0 0,.int .i64 0,.string ⟨#[]⟩,.int .i64 0,.int .i64 0,.slice none 0 0,.slice none 0 0] 49)):=⟨_,rfl⟩
 have hfA:Fr No w0 wA:=hwA▸frc
 have B0:Bx wA w0.heap.size 31 #[.int .i64 k,.string s,.int .i64 a]:=hwA▸bxc
 have B1:Bx wA (w0.heap.size+1) 49 #[.string ⟨#[]⟩,.slice none 0 0,.int .i64 0,.string ⟨#[]⟩,.int .i64 0,.int .i64 0,.slice none 0 0,.slice none 0 0]:=hwA▸bxc
 replace d0:=cr (hfA.keep0 d0)
 replace d1:=cr (hfA.keep0 d1)
 replace d2:=cr (hfA.keep0 d2)
 replace d3:=cr (hfA.keep0 d3)
 replace d4:=cr (hfA.keep0 d4)
 replace d5:=cr (hfA.keep0 d5)
 replace d6:=cr (hfA.keep0 d6)
 replace d7:=cr (hfA.keep0 d7)
 have K0:=B0.r3
 go_enter Tryz.func50,Tryz.ntmps50
 go_wp2_with fail
 rw[<-hwA]
 clear hwA
 refine zn0 9 14 [mV (.pointer (some ⟨l,0,none⟩)),mV (.pointer (some ⟨w0.heap.size,0,none⟩)),mV (.agg #[.int .i64 k,.string s]),mV (.agg #[.string c.name,.string c.super,.slice Af c.fields.length cf,.slice (some ⟨bm,om,none⟩) c.methods.length cm]),mV (.slice (some ⟨bm,om,none⟩) c.methods.length cm),mV (.pointer (some ⟨w0.heap.size,2,none⟩)),mV (.int .i64 a),mV (.pointer (some ⟨bm,om+a * 8,none⟩)),mV (.agg #[.string m.name,.slice Aa m.args.length ca,.int .i64 m.ret.kind,.string m.ret.name,.int .i64 m.locals,.int .i64 m.stack,.slice Ac m.code.length cc,.slice Ax m.maps.length cx])] (by kernel_rfl) (by kernel_rfl) (by simp) ?_ ?_
 ·refine hc4 ?_ ?_ ?_ ?_ <| hc4 ?_ ?_ ?_ ?_ <| hopC ?_ <| hopZ
  all_goals (intro a' W hW hoff hdep;have hbs:=hW.size;have H0:=hoff 0 rfl;have H3:=hoff 3 rfl;refine nE rfl ?_)
  ·simp[execOp,Act.eval,H0,go_sem,zaa];exact fr1 rfl
  ·simp[execOp,Act.eval,H3,go_sem,zaa];exact fr1 rfl
  ·have D6:_=_:=hdep 1 6 rfl;clear hoff hdep;simp[execOp,Act.eval,go_sem,zaa, *];exact fr1 rfl
  ·have D5:_=_:=hdep 0 5 rfl;have D7:_=_:=hdep 2 7 rfl;simp[Act.eval,D5,D7,go_sem,zaa];exact(HC _ (hfA.trans0 hW)).mono fun e w'' h=>⟨_,h.1,h.2,rfl⟩
  ·have D8:_=_:=hdep 3 8 rfl;simp[execOp,Act.eval,D8,go_sem,zaa];exact fr1 rfl
  ·simp[execOp,Act.eval,H3,go_sem,zaa];exact fr1 rfl
  ·have D10:_=_:=hdep 5 10 rfl;clear hoff hdep;simp[execOp,Act.eval,go_sem,zaa, *];exact fr1 rfl
  ·have D9:_=_:=hdep 4 9 rfl;have D11:_=_:=hdep 6 11 rfl;clear hoff hdep;simp[execOp,Act.eval,go_sem,zaa, *];exact fr1 rfl
  ·have D12:_=_:=hdep 7 12 rfl;clear hoff hdep;simp[execOp,Act.eval,go_sem,zaa, *];exact fr1 rfl
 intro vs WR hWR hv hne
 simp only[lz6,List.drop_zero,znK,znR,Nat.zero_add,Nat.reduceAdd]
 simp only[Act.put,lz0,lz1,lz2]
 clear hv
 have q1:Fr No w0 WR:=hfA.trans0 hWR
 have B1':=B1.keep hWR
 obtain⟨z0,z1,z2,z3,z4,z5,z6,z7⟩:=B1'.c8
 have zf:=fun j=>B1'.frozen j
 have zl:=B1'.lt
 go_wp2
 refine bodyPost_ret (v:=.agg #[.string m.name,.slice Aa m.args.length ca,.int .i64 m.ret.kind,.string m.ret.name,.int .i64 m.locals,.int .i64 m.stack,.slice Ac m.code.length cc,.slice Ax m.maps.length cx]) (by simp[results,Tryz.results50,go_sem, *]) rfl ?_
 exact .mk1 rfl frc
def zdR (p:Plan) (k:Int) (s:Str):Ref×Int:=
 if (zmD p k s).2=1 then (if canB p (zmD p k s).1 then ((zmD p k s).1,1) else (zbH,4)) else (zbH,2)
def zdS (p:Plan) (k:Int) (s m:Str):Ref×Int:=if namB m then zdR p k s else (zbH,2)
theorem zdT {p:Plan} {k:Int} {s:Str} (h:zmD p k s=(zbH,2)):zdR p k s=(zbH,2):=by
 unfold zdR;rw[h];rfl
def zdU (q:Ref×Int) (p:Plan) (l bl n:Nat) (w:World) (e:Ending) (w':World):Prop:=
 ∃ev,e=.returned (.tuple #[.agg #[.int .i64 q.1.keeper,.string q.1.name],ev])∧ErrV q.2 ev w'∧Fr (fun b=>b=bl) w w'∧Lg w' l bl (n+1) p
theorem zdU.mk {q:Ref×Int} {p:Plan} {l bl n:Nat} {w w':World} {v ev:Value} {r:Ref} {c:Int} (hq:q=(r,c)) (hv:v=.tuple #[.agg #[.int .i64 r.keeper,.string r.name],ev]) (he:ErrV c ev w') (hf:Fr (fun b=>b=bl) w w') (hl:Lg w' l bl (n+1) p):zdU q p l bl n w (.returned v) w':=by
 subst hq;subst hv;exact⟨_,rfl,he,hf,hl⟩
theorem zdV {w:World} {l bl n:Nat} {p:Plan} (h:Lg w l bl n p) (k:Int):
  Calls Tryz.prog 34 #[.pointer (some ⟨l,0,none⟩),.int .i64 k] w (zgl (hasK p k) w):=by
 obtain⟨g,⟨hp,A,cap,bo,ba,hB,_⟩,_⟩:=h
 have h3:=zbM hp
 exact zgq l p.keepers.length cap A _ _ _ k w hB (by unfold maxLen;omega)
theorem zdW {k:Nat} (h:k<4):(Lit.int .i64 (k:Int)).wf=true:=by
 rcases k with _|_|_|_|k
 ·rfl
 ·rfl
 ·rfl
 ·rfl
 ·omega
theorem zdX (l bl n:Nat) (p:Plan) (k:Int) (s m:Str) (w:World) (h:Lg w l bl n p) (hs:s.size≤maxLen) (hm:m.size≤maxLen) (hn:n<1000000):
  Calls Tryz.prog 48 #[.pointer (some ⟨l,0,none⟩),.int .i64 k,.string s,.string m] w (zdU (zdS p k s m) p l bl n w):=by
 have hp:=h.ok
 have hlt:=h.lt
 have h0:=h
 have HH:=fun W (hW:Fr No w W)=>zdV (h.keep hW) k
 have HN:=fun W=>zeE s W hs
 have HM:=fun W=>zeE m W hm
 cases hk:hasK p k
 ·have HS:Hid (zdS p k s m=(zbH,2)):=by
   show zdS p k s m=_
   unfold zdS
   rw[zdT (zg9 hk)]
   cases namB m<;>rfl
  rw[hk] at HH
  clear hk h hp
  go_enter Tryz.func48,Tryz.ntmps48
  go_wp2_with (go_at_call 34;refine(HH _ frc).mono ?_;rintro e w' ⟨rfl,rfl⟩)
  refine bodyPost_ret (v:=.tuple #[.agg #[.int .i64 0,.string ⟨#[]⟩],.iface 108 (.pointer (some ⟨w.heap.size+1,0,none⟩))]) (by simp[results,Tryz.results48,go_sem, *]) rfl ?_
  exact .mk HS.out rfl (.mk (by decide) bxc) frc ((h0.keep frc).mono (by omega))
 rw[hk] at HH
 cases hns:namB s
 ·have HS:Hid (zdS p k s m=(zbH,2)):=by
   show zdS p k s m=_
   unfold zdS
   rw[zdT (zg8 hp hns)]
   cases namB m<;>rfl
  rw[hns] at HN
  clear hk h hp hns
  go_enter Tryz.func48,Tryz.ntmps48
  go_wp2_with (first
   | (go_at_call 34;refine(HH _ frc).mono ?_;rintro e w' ⟨rfl,rfl⟩)
   | (go_at_call 77;refine(HN _).mono ?_;rintro e w' ⟨rfl,rfl⟩))
  refine bodyPost_ret (v:=.tuple #[.agg #[.int .i64 0,.string ⟨#[]⟩],.iface 108 (.pointer (some ⟨w.heap.size+1,0,none⟩))]) (by simp[results,Tryz.results48,go_sem, *]) rfl ?_
  exact .mk HS.out rfl (.mk (by decide) bxc) frc ((h0.keep frc).mono (by omega))
 rw[hns] at HN
 cases hnm:namB m
 ·have HS:Hid (zdS p k s m=(zbH,2)):=by
   show zdS p k s m=_
   unfold zdS
   rw[hnm]
   rfl
  rw[hnm] at HM
  clear hk h hp hns hnm
  go_enter Tryz.func48,Tryz.ntmps48
  go_wp2_with (first
   | (go_at_call 34;refine(HH _ frc).mono ?_;rintro e w' ⟨rfl,rfl⟩)
   | (go_at_call 77;(first|refine(HN _).mono ?_|refine(HM _).mono ?_);rintro e w' ⟨rfl,rfl⟩))
  refine bodyPost_ret (v:=.tuple #[.agg #[.int .i64 0,.string ⟨#[]⟩],.iface 108 (.pointer (some ⟨w.heap.size+1,0,none⟩))]) (by simp[results,Tryz.results48,go_sem, *]) rfl ?_
  exact .mk HS.out rfl (.mk (by decide) bxc) frc ((h0.keep frc).mono (by omega))
 rw[hnm] at HM
 have hV:zdS p k s m=zdR p k s:=by unfold zdS;rw[hnm];rfl
 rw[hV]
 have B0:Bx (w.alloc (.cells #[.int .i64 0,.string ⟨#[]⟩] 29)) w.heap.size 29 #[.int .i64 0,.string ⟨#[]⟩]:=bxc
 obtain⟨g,hLo,hg⟩:=h
 have HF:=fun W (hW:Fr No w W)=>find_ok l bl n p g k s W (hLo.keep hW) hs
 clear hV hk hns hnm
 by_cases hc:(zmD p k s).2=1
 ·obtain⟨kc,i,pre,hq,hh,_⟩:=zmH hp hc
  have h3:=zbM hp
  have hkl:=hh.2.1
  have wk:=zdW (show kc<4 by omega)
  have HC:=fun W (hW:Lg W l bl n p)=>zjo l bl n p ⟨(kc:Int),s⟩ W hW hs wk hn
  have hV:zdR p k s=if canB p ⟨kc,s⟩ then (⟨kc,s⟩,1) else (zbH,4):=by
   unfold zdR
   rw[if_pos hc,hq]
  rw[hq] at HF
  unfold refV at HF
  unfold zjn at HC
  replace hV:=Lib.hid hV
  generalize zdR p k s=V at *
  clear hc hq hh hp h3 hkl wk
  dsimp only at HF HC
  generalize canB p ⟨kc,s⟩=cb at *
  go_enter Tryz.func48,Tryz.ntmps48
  go_wp2_with (first
   | (go_at_call 34;refine(HH _ frc).mono ?_;rintro e w' ⟨rfl,rfl⟩)
   | (go_at_call 77;(first|refine(HN _).mono ?_|refine(HM _).mono ?_);rintro e w' ⟨rfl,rfl⟩)
   | (go_at_call 32;refine(HF _ frc).mono ?_;rintro e w1 ⟨rfl,hf1⟩;have q1:Fr No w w1:=frc;have B1:=B0.keep hf1;have l1:=B1.lt))
  refine zdP (fun W=>Bx W w.heap.size 29 #[.int .i64 0,.string ⟨#[]⟩]∧Bx W w1.heap.size 29 #[.int .i64 kc,.string s]∧Fr No w W) ⟨bxc,bxc,frc⟩ ?_
  rintro Wz ⟨hB,hR,hwz⟩
  refine(HC Wz (h0.keep hwz)).mono ?_
  rintro e w2 ⟨rfl,hf2,hL2⟩
  have hw2:Fr (fun b=>b=bl) w w2:=hwz.of0.same hf2
  obtain⟨z0,z1⟩:=(hB.keepX hf2 (by omega)).c2
  have zf:=fun j=>(hB.keepX hf2 (by omega)).frozen j
  have zl:=(hB.keepX hf2 (by omega)).lt
  obtain⟨y0,y1⟩:=(hR.keepX hf2 (by omega)).c2
  have yl:=(hR.keepX hf2 (by omega)).lt
  clear hf1 q1 B0 B1 HH HN HM HF HC hf2 hB hR hwz
  cases cb
  ·go_wp2
   refine bodyPost_ret (v:=.tuple #[.agg #[.int .i64 0,.string ⟨#[]⟩],.iface 108 (.pointer (some ⟨w2.heap.size,0,none⟩))]) (by simp[results,Tryz.results48,go_sem, *]) rfl ?_
   exact .mk hV.out rfl (.mk (by decide) bxc) frc (h0.over hL2 hw2 frx)
  ·go_wp2
   refine bodyPost_ret (v:=.tuple #[.agg #[.int .i64 kc,.string s],.nilIface]) (by simp[results,Tryz.results48,go_sem, *]) rfl ?_
   exact .mk hV.out rfl (.inl ⟨rfl,rfl⟩) frc (h0.over hL2 hw2 frx)
 ·have HS:Hid (zdR p k s=(zbH,2)):=by
   show zdR p k s=_
   unfold zdR
   rw[if_neg hc]
  unfold refV at HF
  have hc':((zmD p k s).2 != 1)=true:=by simpa using hc
  generalize zmD p k s=q at *
  obtain⟨⟨kc,nm⟩,c⟩:=q
  dsimp only at *
  clear hc
  go_enter Tryz.func48,Tryz.ntmps48
  go_wp2_with (first
   | (go_at_call 34;refine(HH _ frc).mono ?_;rintro e w' ⟨rfl,rfl⟩)
   | (go_at_call 77;(first|refine(HN _).mono ?_|refine(HM _).mono ?_);rintro e w' ⟨rfl,rfl⟩)
   | (go_at_call 32;refine(HF _ frc).mono ?_;rintro e w1 ⟨rfl,hf1⟩;have q1:Fr No w w1:=frc;have B1:=B0.keep hf1;have l1:=B1.lt;have ⟨z0,z1⟩:=B1.c2;have zf:=(fun j=>B1.frozen j)))
  refine bodyPost_ret (v:=.tuple #[.agg #[.int .i64 0,.string ⟨#[]⟩],.iface 108 (.pointer (some ⟨w1.heap.size+1,0,none⟩))]) (by simp[results,Tryz.results48,go_sem, *]) rfl ?_
  exact .mk HS.out rfl (.mk (by decide) bxc) frc ((h0.keep frc).mono (by omega))
theorem ErrV.nil {v:Value} {w:World} (h:ErrV 1 v w):v=.nilIface:=by
 rcases h with ⟨_,h⟩ | ⟨h,_⟩
 ·exact h
 ·exact absurd rfl h
theorem ErrV.some {c:Int} {v:Value} {w:World} (hc:¬c=1) (h:ErrV c v w):∃b,v=.iface 108 (.pointer (some ⟨b,0,none⟩))∧Bx w b 110 #[.int .i64 c]:=by
 rcases h with ⟨h,_⟩ | ⟨_,h⟩
 ·exact absurd h hc
 ·exact h
theorem zdY {p:Plan} {s:Str}:∀(rs:List Ref) {q:Ref} {i:Int},zho p s rs=some (q,i)->q∈rs∧∃a:Nat,i=a∧a<(zbG p q).methods.length
 | [],_,_,h=>by cases h
 | r :: rs,q,i,h=>by
  unfold zho at h
  by_cases hx:ixOf (zeU s) (zbG p r).methods<0
  ·rw[if_pos hx] at h
   obtain⟨h1,h2⟩:=zdY rs h
   exact⟨List.mem_cons_of_mem _ h1,h2⟩
  ·rw[if_neg hx] at h
   have hr:=zeS (zeU s) (zbG p r).methods
   cases h
   exact⟨List.mem_cons_self ..,(ixOf (zeU s) (zbG p r).methods).toNat,by omega,by omega⟩
theorem zdZ {p:Plan} (hp:lodB p=true) {r q:Ref} {s:Str} {i:Int} (h:zhp p r s=some (q,i)):q.name.size≤maxLen∧∃k ix a:Nat,Here p q k ix∧i=a∧a<(zbG p q).methods.length:=by
 unfold zhp at h
 split at h
 ·obtain⟨h1,a,h2,h3⟩:=zdY _ h
  obtain⟨h4,k,ix,h5⟩:=zhj hp r q h1
  exact⟨h4,k,ix,a,h5,h2,h3⟩
 ·cases h
theorem zd0 {p:Plan} (hp:lodB p=true) {k:Int} {s:Str} {r:Ref} (h:zdR p k s=(r,1)):∃kc i:Nat,r=⟨kc,s⟩∧Here p ⟨kc,s⟩ kc i∧canB p ⟨kc,s⟩=true∧zmD p k s=(⟨kc,s⟩,1):=by
 unfold zdR at h
 by_cases hc:(zmD p k s).2=1
 ·obtain⟨kc,i,pre,hq,hh,_⟩:=zmH hp hc
  rw[if_pos hc,hq] at h
  cases hcb:canB p ⟨kc,s⟩
  ·dsimp only at h
   rw[hcb] at h
   cases h
  ·dsimp only at h
   rw[hcb] at h
   cases h
   exact⟨kc,i,rfl,hh,hcb,hq⟩
 ·rw[if_neg hc] at h
  cases h
theorem zd1 {p:Plan} (hp:lodB p=true) {k:Int} {s m:Str} {r:Ref} (h:zdS p k s m=(r,1)):∃kc i:Nat,r=⟨kc,s⟩∧Here p ⟨kc,s⟩ kc i:=by
 unfold zdS at h
 split at h
 ·obtain⟨kc,i,h1,h2,_⟩:=zd0 hp h
  exact⟨kc,i,h1,h2⟩
 ·cases h
def zd2:Mth:=⟨⟨#[]⟩,[],⟨0,⟨#[]⟩⟩,0,0,[],[]⟩
def zd3 (p:Plan) (k:Int) (m:Str) (rc:Ref×Int):(Ref×Int)×Int:=
 if rc.2=1 then
  match zhp p rc.1 m with
  | none=>((zbH,0),3)
  | some (q,a)=>if zgM p k q.keeper ((zbG p q).methods.getD a.toNat zd2) then ((q,a),1) else ((zbH,0),4)
 else ((zbH,0),rc.2)
def zd4 (p:Plan) (k:Int) (s m:Str):(Ref×Int)×Int:=zd3 p k m (zdS p k s m)
def zu3 (p:Plan) (k:Int) (s m:Str):(Ref×Int)×Int:=if lodB p then zd4 p k s m else ((zbH,0),2)
def zd5 (q:(Ref×Int)×Int):Value:=.tuple #[.agg #[.int .i64 q.1.1.keeper,.string q.1.1.name,.int .i64 q.1.2],.int .i64 q.2]
def zd6 (q:(Ref×Int)×Int) (p:Plan) (l bl n:Nat) (w:World) (e:Ending) (w':World):Prop:=
 ∃ev,e=.returned (.tuple #[.agg #[.int .i64 q.1.1.keeper,.string q.1.1.name,.int .i64 q.1.2],ev])∧ErrV q.2 ev w'∧Fr (fun b=>b=bl) w w'∧Lg w' l bl (n+2) p
theorem zd6.mk {q:(Ref×Int)×Int} {p:Plan} {l bl n:Nat} {w w':World} {v ev:Value} {r:Ref} {i c:Int} (hq:q=((r,i),c)) (hv:v=.tuple #[.agg #[.int .i64 r.keeper,.string r.name,.int .i64 i],ev]) (he:ErrV c ev w') (hf:Fr (fun b=>b=bl) w w') (hl:Lg w' l bl (n+2) p):zd6 q p l bl n w (.returned v) w':=by
 subst hq;subst hv;exact⟨_,rfl,he,hf,hl⟩
theorem zd7 (l bl n:Nat) (p:Plan) (k:Int) (s m:Str) (w:World) (h:Lg w l bl n p) (hs:s.size≤maxLen) (hm:m.size≤maxLen) (hn:n<999999):
  Calls Tryz.prog 26 #[.pointer (some ⟨l,0,none⟩),.int .i64 k,.string s,.string m] w (zd6 (zd4 p k s m) p l bl n w):=by
 have hp:=h.ok
 have hlt:=h.lt
 have h0:=h
 have B0:Bx (w.alloc (.cells #[.int .i64 0,.string ⟨#[]⟩,.int .i64 0] 31)) w.heap.size 31 #[.int .i64 0,.string ⟨#[]⟩,.int .i64 0]:=bxc
 have HK:=fun W (hW:Fr No w W)=>zdX l bl n p k s m W (h.keep hW) hs hm (by omega)
 obtain⟨q,hq⟩:∃q,q=zdS p k s m:=⟨_,rfl⟩
 have hV:zd4 p k s m=zd3 p k m q:=by unfold zd4;rw[hq]
 rw[<-hq] at HK
 generalize zd4 p k s m=V at *
 obtain⟨⟨rk,rn⟩,c⟩:=q
 unfold zdU at HK
 dsimp only at HK
 clear h
 by_cases hc:c=1
 ·subst hc
  obtain⟨kc,i,hr,hh⟩:=zd1 hp hq.symm
  obtain⟨rfl,rfl⟩:=Ref.mk.inj hr
  have h3:=zbM hp
  have hkl:=hh.2.1
  have wk:=zdW (show kc<4 by omega)
  have HP:=fun W (hW:Lg W l bl (n+1) p)=>zjs l bl (n+1) p ⟨(kc:Int),rn⟩ m W hW hs hm wk (by omega)
  unfold zjr at HP
  clear hq hr hh h3 hkl wk
  unfold zd3 at hV
  dsimp only at hV
  rw[if_pos rfl] at hV
  cases ho:zhp p ⟨(kc:Int),rn⟩ m with
  | none=>
   rw[ho] at HP hV
   dsimp only at hV
   replace hV:=Lib.hid hV
   unfold zku at HP
   clear ho
   go_enter Tryz.func26,Tryz.ntmps26
   go_wp2_with (go_at_call 48;refine(HK _ frc).mono ?_;rintro e w1 ⟨ev,rfl,he,hf1,hL1⟩;obtain rfl:=he.nil;clear he)
   have hw1:Fr (fun b=>b=bl) w w1:=(show Fr No w (w.alloc (.cells #[.int .i64 0,.string ⟨#[]⟩,.int .i64 0] 31)) from frc).of0.same hf1
   have B1:=B0.keepX hf1 (by omega)
   have l1:=B1.lt
   clear HK B0
   go_wp2_with fail
   refine zdP (fun W=>Bx W w.heap.size 31 #[.int .i64 0,.string ⟨#[]⟩,.int .i64 0]∧Bx W w1.heap.size 29 #[.int .i64 kc,.string rn]∧Fr No w1 W) ⟨bxc,bxc,frc⟩ ?_
   rintro Wz ⟨hB,hR,hwz⟩
   refine(HP Wz (hL1.keep hwz)).mono ?_
   rintro e w2 ⟨rfl,hf2,hL2⟩
   have hw2:Fr (fun b=>b=bl) w w2:=(hw1.trans0 hwz).same hf2
   obtain⟨z0,z1,z2⟩:=(hB.keepX hf2 (by omega)).c3
   have zf:=fun j=>(hB.keepX hf2 (by omega)).frozen j
   have zl:=(hB.keepX hf2 (by omega)).lt
   clear hf1 B1 l1 hB hR hwz hf2 HP
   go_wp2
   refine bodyPost_ret (v:=.tuple #[.agg #[.int .i64 0,.string ⟨#[]⟩,.int .i64 0],.iface 108 (.pointer (some ⟨w2.heap.size+1,0,none⟩))]) (by simp[results,Tryz.results26,go_sem, *]) rfl ?_
   exact .mk hV.out rfl (.mk (by decide) bxc) frc (h0.over hL2 hw2 frx)
  | some qa=>
   obtain⟨⟨qk,qn⟩,a'⟩:=qa
   obtain⟨hqs,kq,ix,a,hh,rfl,ha⟩:=zdZ hp ho
   obtain rfl:qk=(kq:Int):=hh.1
   dsimp only at hqs
   rw[ho] at HP hV
   unfold zku at HP
   dsimp only at HP hV
   have hmt:(zbG p ⟨(kq:Int),qn⟩).methods.getD ((a:Int)).toNat zd2=(zbG p ⟨(kq:Int),qn⟩).methods[a]:=by simp[List.getD,lz8 ha]
   rw[hmt] at hV
   clear ho hmt
   have HMV:=fun W (g:Int->Str->Option Int) (hW:zgF W l bl (n+2) p g)=>zdQ hW hh hqs ha
   clear hh
   generalize(zbG p ⟨(kq:Int),qn⟩).methods[a]=mt at *
   clear ha
   replace hV:=Lib.hid hV
   go_enter Tryz.func26,Tryz.ntmps26
   go_wp2_with (go_at_call 48;refine(HK _ frc).mono ?_;rintro e w1 ⟨ev,rfl,he,hf1,hL1⟩;obtain rfl:=he.nil;clear he)
   have hw1:Fr (fun b=>b=bl) w w1:=(show Fr No w (w.alloc (.cells #[.int .i64 0,.string ⟨#[]⟩,.int .i64 0] 31)) from frc).of0.same hf1
   have B1:=B0.keepX hf1 (by omega)
   have l1:=B1.lt
   clear HK B0
   go_wp2_with fail
   refine zdP (fun W=>Bx W w.heap.size 31 #[.int .i64 0,.string ⟨#[]⟩,.int .i64 0]∧Bx W w1.heap.size 29 #[.int .i64 kc,.string rn]∧Fr No w1 W) ⟨bxc,bxc,frc⟩ ?_
   rintro Wz ⟨hB,hR,hwz⟩
   refine(HP Wz (hL1.keep hwz)).mono ?_
   rintro e w2 ⟨rfl,hf2,hL2⟩
   have hw2:Fr (fun b=>b=bl) w w2:=(hw1.trans0 hwz).same hf2
   have hB2:=hB.keepX hf2 (by omega)
   have l2:=hB2.lt
   clear hf1 B1 l1 hB hR hwz hf2 HP
   go_wp2_with fail
   refine zaE (fun W=>Bx W w.heap.size 31 #[.int .i64 0,.string ⟨#[]⟩,.int .i64 0]∧Bx W w2.heap.size 31 #[.int .i64 kq,.string qn,.int .i64 a]∧Fr No w2 W) ⟨bxc,bxc,frc⟩ ?_
   rintro wA ⟨hB,hR,hwz⟩
   obtain⟨g2,hLo2,hg2⟩:=hL2
   obtain⟨cs,hM,HMe⟩:=HMV wA g2 (hLo2.keep hwz)
   have HA:=fun W (hW:Fr No wA W)=>zgN _ l bl (n+2) p g2 k kq mt cs W ((hLo2.keep hwz).keep hW) (hM.keep hW zN)
   have K0:=hR.r3
   clear hM HMV hB2
   generalize zgM p k kq mt=ag at *
   refine zn0 9 48 [mV (.pointer (some ⟨l,0,none⟩)),mV (.int .i64 k),mV (.pointer (some ⟨w2.heap.size,0,none⟩)),mV (.pointer (some ⟨w2.heap.size,0,none⟩)),mV (.int .i64 kq),mV (.pointer (some ⟨l,0,none⟩)),mV (.agg #[.int .i64 kq,.string qn,.int .i64 a]),mV (.agg cs.toArray),mV (.bool ag)] (by kernel_rfl) (by kernel_rfl) (by simp) ?_ ?_
   ·refine hc4 ?_ ?_ ?_ ?_ <| hc4 ?_ ?_ ?_ ?_ <| hopC ?_ <| hopZ
    all_goals (intro a' W hW hoff hdep;have hbs:=hW.size;have H0:=hoff 0 rfl;have H1:=hoff 1 rfl;have H12:=hoff 12 rfl;refine nE rfl ?_)
    ·simp[execOp,Act.eval,H0,go_sem,zaa];exact fr1 rfl
    ·simp[execOp,Act.eval,H1,go_sem,zaa];exact fr1 rfl
    ·simp[execOp,Act.eval,H12,go_sem,zaa];exact fr1 rfl
    ·have D41:_=_:=hdep 2 41 rfl;simp[execOp,Act.eval,D41,go_sem,zaa];exact fr1 rfl
    ·have D42:_=_:=hdep 3 42 rfl;clear hoff hdep;simp[execOp,Act.eval,go_sem,zaa, *];exact fr1 rfl
    ·simp[execOp,Act.eval,H0,go_sem,zaa];exact fr1 rfl
    ·exact gx0
    ·have D44:_=_:=hdep 5 44 rfl;have D45:_=_:=hdep 6 45 rfl;simp[Act.eval,D44,D45,go_sem,zaa];exact(HMe _ hW).mono fun e w'' h=>⟨_,h.1,h.2,rfl⟩
    ·have D39:_=_:=hdep 0 39 rfl;have D40:_=_:=hdep 1 40 rfl;have D43:_=_:=hdep 4 43 rfl;have D46:_=_:=hdep 7 46 rfl;simp[Act.eval,D39,D40,D43,D46,go_sem,zaa];exact(HA _ hW).mono fun e w'' h=>⟨_,h.1,h.2,rfl⟩
   intro vs WR hWR hv hne
   simp only[lz6,List.drop_zero,znK,znR,Nat.zero_add,Nat.reduceAdd]
   simp only[Act.put,lz0,lz1,lz2]
   clear hv
   have hL3:Lg WR l bl (n+2) p:=⟨g2,(hLo2.keep hwz).keep hWR,hg2⟩
   have hw3:Fr (fun b=>b=bl) w WR:=(hw2.trans0 hwz).trans0 hWR
   have BZ:=hB.keep hWR
   have BR:=hR.keep hWR
   obtain⟨z0,z1,z2⟩:=BZ.c3
   have zf:=fun j=>BZ.frozen j
   have zl:=BZ.lt
   obtain⟨y0,y1,y2⟩:=BR.c3
   have yl:=BR.lt
   clear hB hR hwz K0 HA HMe hLo2 hg2
   cases ag
   ·go_wp2
    refine bodyPost_ret (v:=.tuple #[.agg #[.int .i64 0,.string ⟨#[]⟩,.int .i64 0],.iface 108 (.pointer (some ⟨WR.heap.size,0,none⟩))]) (by simp[results,Tryz.results26,go_sem, *]) rfl ?_
    exact .mk hV.out rfl (.mk (by decide) bxc) frc (h0.over hL3 hw3 frx)
   ·go_wp2
    refine bodyPost_ret (v:=.tuple #[.agg #[.int .i64 kq,.string qn,.int .i64 a],.nilIface]) (by simp[results,Tryz.results26,go_sem, *]) rfl ?_
    exact .mk hV.out rfl (.inl ⟨rfl,rfl⟩) frc (h0.over hL3 hw3 frx)
 ·unfold zd3 at hV
  dsimp only at hV
  rw[if_neg hc] at hV
  replace hV:=Lib.hid hV
  go_enter Tryz.func26,Tryz.ntmps26
  go_wp2_with (go_at_call 48;refine(HK _ frc).mono ?_;rintro e w1 ⟨ev,rfl,he,hf1,hL1⟩;obtain⟨eb,rfl,heb⟩:=he.some hc;clear he;have hw1:Fr (fun b=>b=bl) w w1:=(show Fr No w (w.alloc (.cells #[.int .i64 0,.string ⟨#[]⟩,.int .i64 0] 31)) from frc).of0.same hf1;have B1:=B0.keepX hf1 (by omega);have ⟨z0,z1,z2⟩:=B1.c3;have zf:=(fun j=>B1.frozen j);have zl:=B1.lt)
  have hne:eb≠w.heap.size:=by
   intro h9
   rw[h9] at heb
   unfold Bx at heb B1
   rw[heb] at B1
   simp at B1
  clear HK B0
  refine bodyPost_ret (v:=.tuple #[.agg #[.int .i64 0,.string ⟨#[]⟩,.int .i64 0],.iface 108 (.pointer (some ⟨eb,0,none⟩))]) (by simp[results,Tryz.results26,go_sem, *]) rfl ?_
  exact .mk hV.out rfl (.inr ⟨hc,eb,rfl,bxc⟩) frc ((h0.over hL1 hw1 frx).mono (by omega))
end Go.Proofs.YtbfmeklfpackjaaGreatDoor
