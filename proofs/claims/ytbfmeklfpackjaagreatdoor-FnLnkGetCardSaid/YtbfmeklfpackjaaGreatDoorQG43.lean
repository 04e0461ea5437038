/- The draws: keepers, one in so many with something wrong (l20PlanOr). -/
import Derived.Test.YtbfmeklfpackjaaGreatDoorQG42
set_option maxHeartbeats 8000000
set_option maxRecDepth 100000
namespace Go.Proofs.YtbfmeklfpackjaaGreatDoor
open Go.RowKit
def zuH (rb q:Nat) (w:World) (e:Ending) (w':World):Prop:=∃(v:Value) (ks:List Kpr),e=.returned (.agg #[v])∧Sl (fun b=>b<w.heap.size) w' 2 (KprC (fun b=>b<w.heap.size) w') v ks∧RdB w' rb (q+120)∧Fr (fun b=>b=rb) w w'
def JP (rb q b5:Nat) (w wx:World):Prop:=∃(A:Option Addr) (m c:Nat) (ks:List Kpr),Bx wx b5 zuG #[.slice A m c]∧Sl (fun b=>b<w.heap.size+1) wx 2 (KprC (fun b=>b<w.heap.size+1) wx) (.slice A m c) ks∧RdB wx rb q∧Fr (fun b=>b=rb) w wx∧Bx wx w.heap.size zuG #[.slice none 0 0]
def ix2V (base:Nat):Value->World->Prop:=fun v W=>∃b k:Nat,k<2∧v=.pointer (some ⟨b,k,none⟩)∧Bx W b 3 #[.int .i64 (-1),.int .i64 3]∧base≤b
theorem zuI (base:Nat):MonP (ix2V base):=fun _ _ _ ⟨b,k,h1,h2,h3,h4⟩ hf=>⟨b,k,h1,h2,h3.keep hf,h4⟩
def iiV:Value->World->Prop:=fun v _=>∃y:Int,v=.int .i64 y
theorem zuJ:MonP iiV:=fun _ _ _ h _=>h
def xaV:Value->World->Prop:=fun v _=>∃y:Int,v=.agg #[.string ⟨#[120]⟩,.int .i64 y]
theorem zuK:MonP xaV:=fun _ _ _ h _=>h
def xsV (base:Nat):Value->World->Prop:=fun v W=>∃(b:Nat) (y:Int),v=.slice (some ⟨b,0,none⟩) 1 1∧Bx W b 101 #[.string ⟨#[120]⟩,.int .i64 y]∧base≤b
theorem zuL (base:Nat):MonP (xsV base):=fun _ _ _ ⟨b,y,h1,h2,h3⟩ hf=>⟨b,y,h1,h2.keep hf,h3⟩
def zuM:Value->World->Prop:=fun v _=>∃s:Str,v=.agg #[.string s,.string ⟨#[]⟩,.slice none 0 0,.slice none 0 0]∧s.size≤20
theorem zuN:MonP zuM:=fun _ _ _ h _=>h
def zuO (base:Nat):Value->World->Prop:=fun v W=>∃(b:Nat) (s:Str),v=.slice (some ⟨b,0,none⟩) 1 1∧Bx W b 41 #[.string s,.string ⟨#[]⟩,.slice none 0 0,.slice none 0 0]∧s.size≤20∧base≤b
theorem zuP (base:Nat):MonP (zuO base):=fun _ _ _ ⟨b,y,h1,h2,h3⟩ hf=>⟨b,y,h1,h2.keep hf,h3⟩
def st20 (m:Nat):Value->World->Prop:=fun v _=>∃s:Str,v=.string s∧s.size≤m
theorem zuQ (m:Nat):MonP (st20 m):=fun _ _ _ h _=>h
theorem zuR (rb q n:Nat) (w:World) (h:RdB w rb q) (hn:1≤n) (hn2:n≤1000000) (hq:q≤70000):
  Calls Tryz.prog 22 #[.pointer (some ⟨rb,0,none⟩),.int .i64 n] w (zuH rb q w):=by
 have hrl:=h.lt
 have H1:=fun W (hW:Fr No w W)=>zup rb q 3 W (h.keep hW) (by omega) (by omega) (by omega)
 have hB:=Bx.new w 25 #[.slice none 0 0]
 have hfA:=(Fr.refl No w).alloc (.cells #[.slice none 0 0] 25)
 clear h
 go_enter Tryz.func22,Tryz.ntmps22
 go_wp2_with (go_at_call 44;refine(H1 _ (by exact frc)).mono ?_;rintro e w1 ⟨v1,ks,rfl,hok,hk1,hr1,hf1⟩;refine Hid.out ?_)
 refine Lib.hid ?_
 rw[World.size_alloc] at hk1
 have B41:=hB.keepX hf1 (by omega)
 have hw1:Fr (fun b=>b=rb) w w1:=(Fr.of0 hfA).same hf1
 have hl0:0<ks.length∧ks.length≤3:=by
  unfold lodB at hok
  simp only[lz5,decide_eq_true_eq] at hok
  exact hok.1
 obtain⟨g0,c0,_,_,_,_,_,rfl,hc0,hc1,_⟩:=hk1.pick9 hl0.1
 have hc2:=hc1
 unfold maxLen at hc2
 obtain⟨w2,hw2⟩:∃w2,w2=w1.alloc (.cells #[.slice (some ⟨g0,0,none⟩) ks.length c0] 25):=⟨_,rfl⟩
 have hf12:Fr No w1 w2:=hw2▸frc
 have B5:Bx w2 w1.heap.size 25 #[.slice (some ⟨g0,0,none⟩) ks.length c0]:=hw2▸bxc
 have H2:=fun W (hW:Fr No w2 W)=>zr8 rb (q+20) n W ((hr1.keep hf12).keep hW) hn hn2 (by omega)
 have hs1:=hw1.size
 have hs11:=B41.lt
 replace hok:=Lib.hid hok
 clear H1 hB hfA hf1
 go_upto_if 12 with (go_at_call 45;rw[<-hw2];refine(H2 _ (Fr.refl _ _)).mono ?_;rintro e w3 ⟨od,rfl,hr3,hf3⟩)
 replace hw2:=Lib.hid hw2
 have hf13:Fr (fun b=>b=rb) w1 w3:=(Fr.of0 hf12).same hf3
 have B53:=B5.keepX hf3 (by have:=hr1.lt;omega)
 have B43:=B41.keepX hf13 (by omega)
 have hw3:=hw1.same hf13
 clear H2 hf12 B5 B41 hf3
 go_cut [] (fun wx=>JP rb (q+118) w1.heap.size w wx)
 case first=>
  cases od
  ·go_wp2_with fail
   go_meet
   exact⟨some ⟨g0,0,none⟩,_,c0,ks,B53,hk1.sl.keep hf13 (fun b (e:b=rb)=>by show b<w.heap.size+1;omega) (fun _ _ _ h=>h.keep hf13 (fun b (e:b=rb)=>by show b<w.heap.size+1;omega)),hr3.up (by omega),hw3,B43⟩
  ·have H3:=fun W (hW:Fr No w3 W)=>zrd rb (q+21) ks.length W (hr3.keep hW) (by omega) (by omega) (by omega)
   have b50:=B53.c1
   have b5l:=B53.lt
   go_wp2_with (go_at_call 23;refine(H3 _ (by exact frc)).mono ?_;rintro e w4 ⟨k,hk,rfl,hr4,hf4⟩;refine Hid.out ?_)
   refine Lib.hid ?_
   obtain⟨g,c,Ao,Aa,co,ca,TK,e9,_,_,y0,y1,hOS⟩:=hk1.pick9 hk
   cases e9
   have hf14:=hf13.same hf4
   have B54:=B53.keepX hf4 (by have:=hr1.lt;omega)
   have B44:=B43.keepX hf4 (by omega)
   have hw4:=hw3.same hf4
   obtain⟨_,hlg,_⟩:=id hOS
   have z0:w4.cell? ⟨g0,k * 2,none⟩=some (.slice Ao ks[k].owns.length co):=hf14.keep (fun _ h=>h) (show ¬g0=rb by omega) y0
   have z1:w4.cell? ⟨g0,k * 2+1,none⟩=some (.slice Aa ks[k].asks.length ca):=hf14.keep (fun _ h=>h) (show ¬g0=rb by omega) y1
   have b50:=B54.c1
   have b5l:=B54.lt
   have hgl:=lt_of_cell z0
   have hk9:(k:Int)<(ks.length:Int):=by omega
   obtain⟨w5,hw5⟩:∃w5,w5=w4.alloc (.cells #[.slice Ao ks[k].owns.length co,.slice Aa ks[k].asks.length ca] 87):=⟨_,rfl⟩
   have hf45:Fr No w4 w5:=hw5▸frc
   have B7:Bx w5 w4.heap.size 87 #[.slice Ao ks[k].owns.length co,.slice Aa ks[k].asks.length ca]:=hw5▸bxc
   have hs14:=hf14.size
   have hOT:OT rb (q+22) (w.heap.size+1) w1.heap.size w4.heap.size k g0 ks.length c0 w w5 ks ks[k] Ao Aa co ca TK:=
    hOS.start hk (hf14.trans0 hf45) (B54.keep hf45) B7 (Nat.le_refl _) hs14 (hr4.keep hf45) (hw4.trans0 hf45) (B44.keep hf45) ⟨hrl,by omega,by omega,by omega,by omega⟩
   have hsm:=Lib.hid (zuy hok.out (List.getElem_mem hk))
   generalize ks[k]=x at *
   have H5:=fun W (hW:Fr No w5 W)=>zrd rb (q+22) 7 W ((hr4.keep hf45).keep hW) (by omega) (by omega) (by omega)
   clear H3 hf4 hf14 hOS B54 B44 hr4 hf13 B53 B43 hw3 hr3 y0 y1 hk1 hw4
   go_upto_block 0 with (go_at_call 23;rw[<-hw5];refine(H5 _ (Fr.refl _ _)).mono ?_;rintro e w6 ⟨k6,hk6,rfl,hr6,hf6⟩)
   have hO6:=hOT.step hf6 hr6
   replace hw5:=Lib.hid hw5
   clear H5 hOT B7 z0 z1 b50 b5l hf45 hr6 hf6
   go_cut [] (fun wx=>JT rb (q+116) (w.heap.size+1) w1.heap.size w4.heap.size k w wx)
   case first=>
    have P5:=hO6.p5
    have P7:=hO6.p7
    obtain⟨m0,m1⟩:=P7.c2
    have ml:=P7.lt
    have mf:=fun i=>P7.frozen i
    have hdb:=hO6.hl
    obtain⟨hsm1,hsm2,hsm3⟩:=hsm.out
    have hk6':k6=0∨k6=1∨k6=2∨k6=3∨k6=4∨k6=5∨k6=6:=by omega
    rcases hk6' with rfl|rfl|rfl|rfl|rfl|rfl|rfl
    ·have z0:=hO6.z.c1
     have zl:=hO6.z.lt
     have zf:=fun i=>hO6.z.frozen i
     have hfin:=Lib.hid (fun u:Value=>(show zuH rb q w (.returned (.agg #[.slice none 0 0])) (w6.setCell ⟨w.heap.size,0,none⟩ u) from⟨_,[],rfl,Sl.nil _ _ _ _,(hO6.r.far (Fr.put1 _ _ _ _) (fun b e=>by omega)).up (by omega),hO6.f.trans (Fr.put1 _ _ _ _) (fun b hb e=>by omega)⟩))
     replace hO6:=Lib.hid hO6
     clear P5 P7 m0 m1 ml mf
     go_wp2_with fail
     refine bodyPost_ret (v:=.agg #[.slice none 0 0]) (by simp[results,Tryz.results22,go_sem, *]) rfl ?_
     exact hfin.out _
    ·obtain⟨js,j1,j2,j3,j4⟩:=hO6.ha
     have hjl:js.length=x.asks.length:=j1
     have hrl6:=hO6.r.lt
     have hlo6:w.heap.size+1≤w6.heap.size:=by have:=hO6.p5.lt;omega
     have hTn:=Lib.hid (fun b h9=>(hO6.tn b (hO6.tops.2 b h9)).1)
     have hT7:=Lib.hid (fun b h9=>(hO6.tn b (hO6.tops.2 b h9)).2.2.2)
     have K7:=fun W (hW:Fr (fun b=>b=rb) w6 W)=>(P7.keepX hW (by omega)).c2
     have K7f:=fun W (hW:Fr (fun b=>b=rb) w6 W) i=>(P7.keepX hW (by omega)).frozen i
     have K7l:=fun W (hW:Fr (fun b=>b=rb) w6 W)=>(P7.keepX hW (by omega)).lt
     have HP:=fun W (hW:Fr No w6 W)=>zrd rb (q+23) 2 W (hO6.r.keep hW) (by omega) (by omega) (by omega)
     have hG:∀W,(Fr No w6 W∨(RdB W rb (q+24)∧Fr (fun b=>b=rb) w6 W))->Fr (fun b=>b=rb) w6 W:=fun W h=>h.elim (fun h=>h.of0) (fun h=>h.2)
     have hGs:∀W:World,Fr (fun b=>b=rb) w6 W->w6.heap.size≤W.heap.size:=fun W h=>h.size
     replace hO6:=Lib.hid hO6
     replace j4:=Lib.hid j4
     replace j1:=Lib.hid j1
     clear P5
     go_upto_region 11 with (fail)
     replace hjl:=Lib.hid hjl
     refine zn2 9 49 [mV (.pointer (some ⟨w4.heap.size,1,none⟩)),mV (.slice Aa x.asks.length ca),mS 3 (#[.int .i64 (-1),.int .i64 3]) 2 w6.heap.size,mV (.pointer (some ⟨rb,0,none⟩)),mC (pkV 2) (zuq _),mC (ix2V w6.heap.size) (zuI _),mC (iiV) (zuJ),mC (xaV) (zuK),mC (xsV w6.heap.size) (zuL _)] 4 (fun _ _=>False) ((fun W=>RdB W rb (q+24)∧Fr (fun b=>b=rb) w6 W)) (Fr (fun b=>b=rb)) (by kernel_rfl) (by kernel_rfl) (by simp) (fun W W' h hf=>⟨h.1.keep hf,h.2.trans0 hf⟩) ?_ ?_ ?_ ?_ ?_
     ·exact fun v W W' hs=>hSV <| hSV <| hopC (fun _ h=>by first|exact h|(obtain⟨b,g1,g2,g3⟩:=h;exact⟨b,g1,g2.keepX hs (by omega),g3⟩)|(obtain⟨b,k,g0,g1,g2,g3⟩:=h;exact⟨b,k,g0,g1,g2.keepX hs (by omega),g3⟩)|(obtain⟨b,y,g1,g2,g3⟩:=h;exact⟨b,y,g1,g2.keepX hs (by omega),g3⟩)) <| hSV <| hopC (fun _ h=>by first|exact h|(obtain⟨b,g1,g2,g3⟩:=h;exact⟨b,g1,g2.keepX hs (by omega),g3⟩)|(obtain⟨b,k,g0,g1,g2,g3⟩:=h;exact⟨b,k,g0,g1,g2.keepX hs (by omega),g3⟩)|(obtain⟨b,y,g1,g2,g3⟩:=h;exact⟨b,y,g1,g2.keepX hs (by omega),g3⟩)) <| hopC (fun _ h=>by first|exact h|(obtain⟨b,g1,g2,g3⟩:=h;exact⟨b,g1,g2.keepX hs (by omega),g3⟩)|(obtain⟨b,k,g0,g1,g2,g3⟩:=h;exact⟨b,k,g0,g1,g2.keepX hs (by omega),g3⟩)|(obtain⟨b,y,g1,g2,g3⟩:=h;exact⟨b,y,g1,g2.keepX hs (by omega),g3⟩)) <| hopC (fun _ h=>by first|exact h|(obtain⟨b,g1,g2,g3⟩:=h;exact⟨b,g1,g2.keepX hs (by omega),g3⟩)|(obtain⟨b,k,g0,g1,g2,g3⟩:=h;exact⟨b,k,g0,g1,g2.keepX hs (by omega),g3⟩)|(obtain⟨b,y,g1,g2,g3⟩:=h;exact⟨b,y,g1,g2.keepX hs (by omega),g3⟩)) <| hopC (fun _ h=>by first|exact h|(obtain⟨b,g1,g2,g3⟩:=h;exact⟨b,g1,g2.keepX hs (by omega),g3⟩)|(obtain⟨b,k,g0,g1,g2,g3⟩:=h;exact⟨b,k,g0,g1,g2.keepX hs (by omega),g3⟩)|(obtain⟨b,y,g1,g2,g3⟩:=h;exact⟨b,y,g1,g2.keepX hs (by omega),g3⟩)) <| hopZ
     ·refine hc4 ?_ ?_ ?_ ?_ <| hc4 ?_ ?_ ?_ ?_ <| hopZ
      all_goals (intro a' W hW hoff hdep;replace hW:=hG _ hW;have hbs:=hGs _ hW;have H7:=hoff 7 rfl;have H0:=hoff 0 rfl;refine nE rfl ?_)
      ·simp[execOp,Act.eval,H7,go_sem,zaa];exact fr1 rfl
      ·have D40:_=_:=hdep 0 40 rfl;clear hoff hdep;simp[execOp,Act.eval,go_sem,zaa, *];exact fr1 rfl
      ·simp[execOp,go_sem,zaa];exact⟨(Fr.refl _ _).alloc _,⟨_,rfl,Bx.new_ rfl,hbs⟩,Nat.le_refl _⟩
      ·simp[execOp,Act.eval,H0,go_sem,zaa];exact fr1 rfl
      ·obtain⟨b,D42,hb,hl⟩:(slB 3 #[.int .i64 (-1),.int .i64 3] 2 w6.heap.size) _ W:=hdep 2 42 rfl;obtain⟨k,hk,D44⟩:(pkV 2) _ W:=hdep 4 44 rfl;clear hoff hdep;simp[execOp,Act.eval,go_sem,zaa,↓IntWalk.iteOmega, *];exact⟨Fr.refl _ _,b,k,hk,rfl,hb,hl⟩
      ·obtain⟨b,k,hk,D45,hB,hb⟩:(ix2V w6.heap.size) _ W:=hdep 5 45 rfl;clear hoff hdep;simp[execOp,Act.eval,go_sem,zaa, *];obtain⟨y,hv,_,_⟩:=zsf (l:=(#[.int .i64 (-1),.int .i64 3]:Array Value).toList) (by decide) hk rfl;have cy:W.cell? ⟨b,k,none⟩=some (.int .i64 y):=(by rw[hB.cell,<-hv];simp);rw[cy];exact⟨Fr.refl _ _,y,rfl⟩
      ·obtain⟨y,D46⟩:(iiV) _ W:=hdep 6 46 rfl;simp at D46;simp[execOp,Act.eval,D46,go_sem,zaa];exact⟨Fr.refl _ _,y,rfl⟩
      ·obtain⟨y,D47⟩:(xaV) _ W:=hdep 7 47 rfl;simp at D47;simp[execOp,Act.eval,D47,go_sem,zaa];exact⟨(Fr.refl _ _).alloc _,_,y,rfl,Bx.new_ rfl,hbs⟩
     ·intro o r ho hr a' W hW hoff hdep
      have hbs:=hW.size
      cases ho;cases hr
      have D43:_=_:=hdep 3 43 rfl
      simp[Act.eval,D43,go_sem,zlP]
      exact(HP _ hW).mono (fun e w' h=>by obtain⟨k,g1,g2,g3,g4⟩:=h;exact⟨_,g2,⟨g3,hW.of0.same g4⟩,g4,k,g1,rfl⟩)
     ·exact fun _ _ _ _ h=>h.elim
     intro vs WR hWR hv hne
     replace hWR:=hWR.resolve_left (fun h=>absurd h.1 (by decide))
     obtain⟨b2,e2,hb2,hl2⟩:=hv 2 (by omega)
     obtain⟨kR4,hkR4,e4⟩:=hv 4 (by omega)
     obtain⟨bR5,kR5,hkR5,e5,hBR5,hbR5⟩:=hv 5 (by omega)
     obtain⟨yR6,e6⟩:=hv 6 (by omega)
     obtain⟨yR7,e7⟩:=hv 7 (by omega)
     obtain⟨bR8,yR8,e8,hBR8,hbR8⟩:=hv 8 (by omega)
     simp only[lz6,List.drop_zero,znM,znQ,znK,znR,Nat.zero_add,Nat.reduceAdd,e2,e4,e5,e6,e7,e8]
     simp only[Act.put,lz0,lz1,lz2]
     clear e2 e4 e5 e6 e7 e8 hv
     obtain⟨hC1,hC2⟩:=hWR
     have hjl:=hjl.out
     have hgR:=hC2.size
     refine zqH zr4 rfl _ _ rfl (.slice Aa x.asks.length ca) x.asks.length js rfl hjl.symm (j2.keep hC2 (fun b hb e=>by have:=hTn.out b hb;omega)) (by omega) bR8 101 [.string ⟨#[120]⟩,.int .i64 yR8] rfl hBR8 rfl (by simp[Value.oneCell']) ?_
     intro g8 c8 w8 hrow8 hcap8 hgf8 hor8
     have hgb:zcP (.slice Aa x.asks.length ca)=some g8∨w6.heap.size≤g8:=hor8.imp id (fun e=>by omega)
     have hf68:Fr (fun b=>b=rb∨zcP (.slice Aa x.asks.length ca)=some b∨w6.heap.size≤b) w6 w8:=(hC2.mono (fun _ _ e=>.inl e)).trans hgf8 (fun b _ e=>.inr (.inl e))
     have hr8:RdB w8 rb (q+116):=(hC1.far hgf8 (fun b e=>by have:=hTn.out b e;omega)).up (by omega)
     have P78:=P7.keepX hf68 (by rintro(e|e|e);omega;exact(hT7.out _ e) rfl;omega)
     have hfin:=Lib.hid (hO6.out.asksSnoc (a:=⟨⟨#[120]⟩,yR8⟩) j1.out j4.out ⟨rfl,by show(1:Nat)≤maxLen;unfold maxLen;omega⟩ hf68 hr8 (by rw[hjl];exact hrow8) (by rw[hjl];exact hcap8) hgb hlo6)
     obtain⟨n0,n1⟩:=P78.c2
     have nl:=P78.lt
     have nf:=fun i=>P78.frozen i
     simp only[Act.put,lz0,lz1,lz2]
     replace hjl:=Lib.hid hjl
     clear hne HP hG hGs K7 K7f K7l hrow8 hgf8 hor8 m0 m1 ml mf
     go_wp2_with fail
     go_meet
     exact hfin.out _ (by rw[hjl.out])
    ·obtain⟨js,j1,j2,j3,j4⟩:=hO6.ha
     have hjs:Sl (fun b=>b<w.heap.size+1) w6 2 RawC (.slice Aa x.asks.length ca) js:=by
      rw[<-j1] at j2 ⊢
      exact j2.rawSl rfl (fun i _ _=>rfl) (fun q hq e=>by have:=j3 q (by rw[<-j1];exact hq);omega)
     have honj:=zrJ zrQ j1 j4
     have hjl:js.length=x.asks.length:=j1
     replace hO6:=Lib.hid hO6
     replace j4:=Lib.hid j4
     replace j1:=Lib.hid j1
     clear j2 j3 P5
     go_wp2_with (at_builtin;refine Hid.out ?_)
     refine Lib.hid ?_
     rw[<-hjl]
     refine zqF zr4 rfl _ _ rfl _ rfl (fun b=>b<w.heap.size+1) (.slice Aa js.length ca) js rfl (by rw[hjl];exact hjs.rawKeep (show Fr No w6 _ from frc) zN) (by omega) honj ?_
     intro A7 c7 w7 hrow7 hq7 hf7
     have hf67:Fr No w6 w7:=((Fr.refl No w6).alloc _).trans0 hf7
     have ha8:=(Fr.refl No w7).alloc (.cells #[.string ⟨#[65]⟩,.int .i64 0] 101)
     have hs67:=hf67.size
     have hq7':∀q,zcP (.slice A7 js.length c7)=some q->w6.heap.size<q:=fun q hq=>by rw[hq7 q hq,World.size_alloc];omega
     simp only[Act.put,lz0,lz1,lz2]
     replace hrow7:=Lib.hid hrow7
     go_wp2_with (at_builtin;refine Hid.out ?_)
     refine Lib.hid ?_
     refine zqH zr4 rfl _ _ rfl (.slice A7 js.length c7) js.length js rfl rfl (hrow7.out.keep0 ha8) (by omega) w7.heap.size 101 [.string ⟨#[65]⟩,.int .i64 0] rfl (Bx.new w7 _ _) rfl (by simp[Value.oneCell']) ?_
     intro g8 c8 w8 hrow8 hcap8 hgf8 hor8
     have hgb:w6.heap.size<g8:=by
      rcases hor8 with h9|h9
      ·exact hq7' _ h9
      ·rw[World.size_alloc] at h9;omega
     have hf68:Fr (fun b=>b=rb∨zcP (.slice Aa x.asks.length ca)=some b∨w6.heap.size≤b) w6 w8:=((Fr.of0 hf67).trans0 ha8).trans hgf8 (fun b _ e=>.inr (.inr (Nat.le_of_lt (hq7' b e))))
     have hrl6:=hO6.out.r.lt
     have hr8:RdB w8 rb (q+116):=(((hO6.out.r.keep hf67).keep ha8).far hgf8 (fun b e=>by have:=hq7' b e;omega)).up (by omega)
     have P78:=P7.keepX hf68 (by have:=hO6.out.tn;have h9:=hO6.out.tops.2;rintro(e|e|e);omega;exact(this _ (h9 _ e)).2.2.2 rfl;omega)
     have hfin:=Lib.hid (hO6.out.asksSnoc (a:=⟨⟨#[65]⟩,0⟩) j1.out j4.out ⟨rfl,by show(1:Nat)≤maxLen;unfold maxLen;omega⟩ hf68 hr8 hrow8 hcap8 (.inr (by omega)) (by omega))
     obtain⟨n0,n1⟩:=P78.c2
     have nl:=P78.lt
     have nf:=fun i=>P78.frozen i
     simp only[Act.put,lz0,lz1,lz2]
     clear hrow8 hgf8 hor8 m0 m1 ml mf
     go_wp2_with fail
     go_meet
     exact hfin.out _ (by rw[hjl])
    ·obtain⟨js,j1,j2,j3,j4⟩:=hO6.ho
     have hjs:Sl (fun b=>b<w.heap.size+1) w6 4 RawC (.slice Ao x.owns.length co) js:=by
      rw[<-j1] at j2 ⊢
      exact j2.rawSl rfl (fun i _ _=>rfl) (fun q hq e=>by have:=j3 q (by rw[<-j1];exact hq);omega)
     have honj:=zrJ zrK j1 j4
     have hjl:js.length=x.owns.length:=j1
     have hrl6:=hO6.r.lt
     have hlo6:w.heap.size+1≤w6.heap.size:=by have:=hO6.p5.lt;omega
     replace hO6:=Lib.hid hO6
     replace j4:=Lib.hid j4
     replace j1:=Lib.hid j1
     clear j2 j3 P5
     go_wp2_with (at_builtin;refine Hid.out ?_)
     refine Lib.hid ?_
     rw[<-hjl]
     refine zqF zrS rfl _ _ rfl _ rfl (fun b=>b<w.heap.size+1) (.slice Ao js.length co) js rfl (by rw[hjl];exact hjs.rawKeep (show Fr No w6 _ from frc) zN) (by omega) honj ?_
     intro A7 c7 w7 hrow7 hq7 hf7
     replace hjl:=Lib.hid hjl
     have hf67:Fr No w6 w7:=((Fr.refl No w6).alloc _).trans0 hf7
     have hs67:=hf67.size
     have hl9:js.length≤100000:=by have:=hjl.out;omega
     have hq7':∀q,zcP (.slice A7 js.length c7)=some q->w6.heap.size<q∧q<w7.heap.size:=fun q hq=>⟨by rw[hq7 q hq,World.size_alloc];omega,hrow7.lt hq⟩
     have hr7:=hO6.out.r.keep hf67
     simp only[Act.put,lz0,lz1,lz2]
     replace hrow7:=Lib.hid hrow7
     replace hq7':=Lib.hid hq7'
     have hF7:Fr (fun b=>b=rb) w7 w7:=Fr.refl _ _
     clear hq7 hf7 hjs m0 m1 ml mf
     have H9:=fun W (hW:Fr No w7 W)=>zrd rb (q+23) 3 W (hr7.keep hW) (by omega) (by omega) (by omega)
     have ha7:=(Fr.refl No w7).alloc (.cells #[.string ⟨#[]⟩,.string ⟨#[116,111,112]⟩,.string ⟨#[65]⟩] 9)
     go_wp2_with (go_at_call 23;refine(H9 _ (by exact frc)).mono ?_;rintro e w9 ⟨k9,hk9,rfl,hr9,hf9⟩;refine Hid.out ?_)
     refine Lib.hid ?_
     have N9:=(Bx.new w7 9 #[.string ⟨#[]⟩,.string ⟨#[116,111,112]⟩,.string ⟨#[65]⟩]).keepX hf9 (by omega)
     obtain⟨s9,hv,hz9⟩:=zse (l:=(#[.string ⟨#[]⟩,.string ⟨#[116,111,112]⟩,.string ⟨#[65]⟩]:Array Value).toList) (by decide) hk9 rfl
     have cy:w9.cell? ⟨w7.heap.size,k9,none⟩=some (.string s9):=by
      have:=N9.cell k9
      rw[<-hv]
      simpa using this
     have nl9:=N9.lt
     have hk99:(k9:Int)<3:=by omega
     have hF9:=(hF7.trans0 ha7).same hf9
     have hrow9:=Lib.hid ((hrow7.out.keep0 ha7).keep hf9 (fun q9 h9 e9=>by have:=hq7'.out q9 h9;omega))
     have hs79:=hF9.size
     clear H9 hv N9 hf9 hr7
     replace hrow7:=Lib.hid hrow7
     have ha8:=(Fr.refl No w9).alloc (.cells #[.string s9,.string ⟨#[]⟩,.slice none 0 0,.slice none 0 0] 41)
     go_wp2_with (at_builtin;refine Hid.out ?_)
     refine Lib.hid ?_
     refine zqH zrS rfl _ _ rfl (.slice A7 js.length c7) js.length js rfl rfl (hrow9.out.keep0 ha8) hl9 w9.heap.size 41 [.string s9,.string ⟨#[]⟩,.slice none 0 0,.slice none 0 0] rfl (Bx.new w9 _ _) rfl (by simp[Value.oneCell']) ?_
     intro g8 c8 w8 hrow8 hcap8 hgf8 hor8
     have hgb:w6.heap.size<g8∧(g8<w7.heap.size∨w9.heap.size<g8):=by
      rcases hor8 with h9|h9
      ·exact⟨(hq7'.out _ h9).1,.inl (hq7'.out _ h9).2⟩
      ·rw[World.size_alloc] at h9;omega
     have hfL8:Fr (fun b=>zcP (.slice A7 js.length c7)=some b) w9 w8:=(Fr.of0 ha8).trans hgf8 (fun b _ e=>e)
     have hf68:Fr (fun b=>b=rb∨zcP (.slice Ao x.owns.length co)=some b∨w6.heap.size≤b) w6 w8:=((Fr.of0 hf67).trans hF9 (fun b _ e=>.inl e)).trans hfL8 (fun b _ e=>.inr (.inr (Nat.le_of_lt (hq7'.out b e).1)))
     have hr8:RdB w8 rb (q+116):=(hr9.far hfL8 (fun b e=>by have:=(hq7'.out b e).1;omega)).up (by omega)
     have P78:=P7.keepX hf68 (by have:=hO6.out.tn;have h9:=hO6.out.tops.1;rintro(e|e|e);omega;exact(this _ (h9 _ e)).2.2.2 rfl;have:=P7.lt;omega)
     have hcls:ClsC (fun b=>ZO (w.heap.size+1) w1.heap.size w4.heap.size g0 TK b∨b=g8) w8 [.string s9,.string ⟨#[]⟩,.slice none 0 0,.slice none 0 0] ⟨s9,⟨#[]⟩,[],[]⟩:=by
      exact⟨_,_,rfl,by show s9.size≤maxLen;unfold maxLen;omega,Nat.zero_le _,Sl.nil _ _ _ _,Sl.nil _ _ _ _⟩
     have hfin:=Lib.hid (hO6.out.ownsSnoc (a:=⟨s9,⟨#[]⟩,[],[]⟩) j1.out j4.out hcls hf68 hr8 hrow8 hcap8 (.inr (by omega)) hlo6)
     obtain⟨n0,n1⟩:=P78.c2
     have nl:=P78.lt
     have nf:=fun i=>P78.frozen i
     simp only[Act.put,lz0,lz1,lz2]
     replace hcls:=Lib.hid hcls
     clear hrow8 hgf8 hor8
     go_wp2_with fail
     go_meet
     obtain⟨TK',hO8⟩:=hfin.out _ rfl
     exact⟨_,_,_,_,_,_,_,_,_,_,hO8⟩
    ·have hrlw:=hO6.r.lt
     replace hO6:=Lib.hid hO6
     clear P5 P7 m0 m1 ml mf
     go_wp2_with fail
     go_loopg [] (6-x.owns.length) (fun j wr=>∃(x':Kpr) (Ao':Option Addr) (co':Nat) (TK':Nat->Prop),x'.owns.length+j=6∧Hid (OT rb (q+23) (w.heap.size+1) w1.heap.size w4.heap.size k g0 ks.length c0 w wr ks x' Ao' Aa co' ca TK'))
     case atStart=>exact⟨_,_,_,_,by omega,hO6⟩
     case round=>
      clear hO6
      obtain⟨y,Ay,cy,TY,hmj,hO⟩:=hrel
      have Q7:=hO.out.p7
      obtain⟨p0,p1⟩:=Q7.c2
      have pl:=Q7.lt
      have pf:=fun i=>Q7.frozen i
      replace hmj:=Lib.hid hmj
      by_cases hm3:y.owns.length≤5
      ·have hm9:(y.owns.length:Int)≤5:=by omega
       obtain⟨js,j1,j2,j3,j4⟩:=hO.out.ho
       have K7:=Q7.r2
       have hadd:IntKind.i64.wrap ((y.owns.length:Int)+1)=((y.owns.length+1:Nat):Int):=by rw[IntWalk.i64_in _ (by omega)];simp
       replace j4:=Lib.hid j4
       replace j1:=Lib.hid j1
       go_upto_region 18 with (fail)
       refine zn0 13 95 [mV (.pointer (some ⟨w4.heap.size,0,none⟩)),mV (.slice Ay y.owns.length cy),mV (.pointer (some ⟨w4.heap.size,0,none⟩)),mV (.slice Ay y.owns.length cy),mV (.int .i64 (y.owns.length:Int)),mV (.pointer (some ⟨w4.heap.size,0,none⟩)),mV (.slice Ay y.owns.length cy),mV (.int .i64 (y.owns.length:Int)),mV (.int .i64 ((y.owns.length+1:Nat):Int)),mC (st20 10) (zuQ _),mC (st20 20) (zuQ _),mC (zuM) (zuN),mC (zuO wr.heap.size) (zuP _)] (by kernel_rfl) (by kernel_rfl) (by simp) ?_ ?_
       ·refine hc4 ?_ ?_ ?_ ?_ <| hc4 ?_ ?_ ?_ ?_ <| hc4 ?_ ?_ ?_ ?_ <| hopC ?_ <| hopZ
        all_goals (intro a' W hW hoff hdep;have hbs:=hW.size;have H7:=hoff 7 rfl;refine nE rfl ?_)
        ·simp[execOp,Act.eval,H7,go_sem,zaa];exact fr1 rfl
        ·have D82:_=_:=hdep 0 82 rfl;clear hoff hdep;simp[execOp,Act.eval,go_sem,zaa, *];exact fr1 rfl
        ·simp[execOp,Act.eval,H7,go_sem,zaa];exact fr1 rfl
        ·have D84:_=_:=hdep 2 84 rfl;clear hoff hdep;simp[execOp,Act.eval,go_sem,zaa, *];exact fr1 rfl
        ·have D85:_=_:=hdep 3 85 rfl;simp[Act.eval,D85,go_sem,zaa];exact fr1 rfl
        ·simp[execOp,Act.eval,H7,go_sem,zaa];exact fr1 rfl
        ·have D87:_=_:=hdep 5 87 rfl;clear hoff hdep;simp[execOp,Act.eval,go_sem,zaa, *];exact fr1 rfl
        ·have D88:_=_:=hdep 6 88 rfl;simp[Act.eval,D88,go_sem,zaa];exact fr1 rfl
        ·have D89:_=_:=hdep 7 89 rfl;simp[execOp,Act.eval,D89,go_sem,zaa];rw[hadd];exact fr1 rfl
        ·have D86:_=_:=hdep 4 86 rfl;have D90:_=_:=hdep 8 90 rfl;clear hoff hdep;simp[execOp,Act.eval,go_sem,zaa,↓IntWalk.iteOmega, *];exact⟨Fr.refl _ _,_,rfl,by rw[ByteArray.size_extract];omega⟩
        ·obtain⟨s,D91,hz⟩:(st20 10) _ W:=hdep 9 91 rfl;simp[execOp,Act.eval,D91,go_sem,zaa];rw[if_neg (by omega)];dsimp only;exact⟨Fr.refl _ _,_,rfl,by rw[ByteArray.size_append];show 1+s.size≤20;omega⟩
        ·obtain⟨s,D92,hz⟩:(st20 20) _ W:=hdep 10 92 rfl;simp at D92;simp[execOp,Act.eval,D92,go_sem,zaa];exact⟨Fr.refl _ _,s,rfl,hz⟩
        ·obtain⟨s,D93,hz⟩:(zuM) _ W:=hdep 11 93 rfl;simp at D93;simp[execOp,Act.eval,D93,go_sem,zaa];exact⟨(Fr.refl _ _).alloc _,_,s,rfl,Bx.new_ rfl,hz,hbs⟩
       intro vs WR hWR hv hne
       obtain⟨sR9,e9,hzR9⟩:=hv 9 (by omega)
       obtain⟨sR10,e10,hzR10⟩:=hv 10 (by omega)
       obtain⟨sR11,e11,hzR11⟩:=hv 11 (by omega)
       obtain⟨bR12,sR12,e12,hBR12,hzR12,hbR12⟩:=hv 12 (by omega)
       simp only[lz6,List.drop_zero,znM,znK,znR,Nat.zero_add,Nat.reduceAdd,e9,e10,e11,e12]
       simp only[Act.put,lz0,lz1,lz2]
       clear e9 e10 e11 e12 hv
       have hjl:js.length=y.owns.length:=j1.out
       refine zqH zrS rfl _ _ rfl (.slice Ay y.owns.length cy) y.owns.length js rfl hjl.symm (j2.keep hWR (fun _ _ h=>h.elim)) (by omega) bR12 41 [.string sR12,.string ⟨#[]⟩,.slice none 0 0,.slice none 0 0] rfl hBR12 rfl (by simp[Value.oneCell']) ?_
       intro g8 c8 w8 hrow8 hcap8 hgf8 hor8
       have hgR:=hWR.size
       have hgb:zcP (.slice Ay y.owns.length cy)=some g8∨wr.heap.size≤g8:=hor8.imp id (fun e=>by omega)
       have hTn:=Lib.hid (fun b h9=>(hO.out.tn b (hO.out.tops.1 b h9)).1)
       have hT7:=Lib.hid (fun b h9=>(hO.out.tn b (hO.out.tops.1 b h9)).2.2.2)
       have hf68:Fr (fun b=>b=rb∨zcP (.slice Ay y.owns.length cy)=some b∨wr.heap.size≤b) wr w8:=(Fr.of0 hWR).trans hgf8 (fun b _ e=>.inr (.inl e))
       have hr8:RdB w8 rb (q+23):=(hO.out.r.keep hWR).far hgf8 (fun b e=>by have:=hTn.out b e;omega)
       have hrl8:=hO.out.r.lt
       have hlo8:w.heap.size+1≤wr.heap.size:=by have:=hO.out.p5.lt;omega
       have P78:=Q7.keepX hf68 (by rintro(e|e|e);omega;exact(hT7.out _ e) rfl;omega)
       have hcls:ClsC (fun b=>ZO (w.heap.size+1) w1.heap.size w4.heap.size g0 TY b∨b=g8) w8 [.string sR12,.string ⟨#[]⟩,.slice none 0 0,.slice none 0 0] ⟨sR12,⟨#[]⟩,[],[]⟩:=by
        exact⟨_,_,rfl,by show sR12.size≤maxLen;unfold maxLen;omega,Nat.zero_le _,Sl.nil _ _ _ _,Sl.nil _ _ _ _⟩
       have hfin:=Lib.hid (hO.out.ownsSnoc (a:=⟨sR12,⟨#[]⟩,[],[]⟩) j1.out j4.out hcls hf68 hr8 (by rw[hjl];exact hrow8) (by rw[hjl];exact hcap8) hgb hlo8)
       obtain⟨n0,n1⟩:=P78.c2
       have nl:=P78.lt
       have nf:=fun i=>P78.frozen i
       simp only[Act.put,lz0,lz1,lz2]
       replace hjl:=Lib.hid hjl
       replace hcls:=Lib.hid hcls
       clear hne K7 hrow8 hgf8 hor8 p0 p1 pl pf
       go_wp2_with fail
       go_roundg (5-y.owns.length)
       case measure=>have:=hmj.out;omega
       case rel=>
        obtain⟨TK',hO8⟩:=hfin.out _ (by rw[hjl.out])
        exact⟨_,_,_,_,by rw[List.length_append];simp;omega,Lib.hid hO8⟩
      ·have hm9:¬(y.owns.length:Int)≤5:=by omega
       go_wp2_with fail
       go_meet
       exact⟨_,_,_,_,_,_,_,_,_,_,hO.out.up (show q+23≤q+116 by omega)⟩
    ·obtain⟨js,j1,j2,j3,j4⟩:=hO6.ho
     have hjs:Sl (fun b=>b<w.heap.size+1) w6 4 RawC (.slice Ao x.owns.length co) js:=by
      rw[<-j1] at j2 ⊢
      exact j2.rawSl rfl (fun i _ _=>rfl) (fun q hq e=>by have:=j3 q (by rw[<-j1];exact hq);omega)
     have honj:=zrJ zrK j1 j4
     have hjl:js.length=x.owns.length:=j1
     have hrl6:=hO6.r.lt
     have hlo6:w.heap.size+1≤w6.heap.size:=by have:=hO6.p5.lt;omega
     replace hO6:=Lib.hid hO6
     replace j4:=Lib.hid j4
     replace j1:=Lib.hid j1
     clear j2 j3 P5
     go_wp2_with (at_builtin;refine Hid.out ?_)
     refine Lib.hid ?_
     rw[<-hjl]
     refine zqF zrS rfl _ _ rfl _ rfl (fun b=>b<w.heap.size+1) (.slice Ao js.length co) js rfl (by rw[hjl];exact hjs.rawKeep (show Fr No w6 _ from frc) zN) (by omega) honj ?_
     intro A7 c7 w7 hrow7 hq7 hf7
     replace hjl:=Lib.hid hjl
     have hf67:Fr No w6 w7:=((Fr.refl No w6).alloc _).trans0 hf7
     have hs67:=hf67.size
     have hl9:js.length≤100000:=by have:=hjl.out;omega
     have hq7':∀q,zcP (.slice A7 js.length c7)=some q->w6.heap.size<q∧q<w7.heap.size:=fun q hq=>⟨by rw[hq7 q hq,World.size_alloc];omega,hrow7.lt hq⟩
     have hr7:=hO6.out.r.keep hf67
     simp only[Act.put,lz0,lz1,lz2]
     replace hrow7:=Lib.hid hrow7
     replace hq7':=Lib.hid hq7'
     have hF7:Fr (fun b=>b=rb) w7 w7:=Fr.refl _ _
     clear hq7 hf7 hjs m0 m1 ml mf
     have H9:=fun W (hW:Fr No w7 W)=>zuC rb (q+23) 1 W (hr7.keep hW) (by omega) (by omega) (by omega)
     go_wp2_with (go_at_call 46;refine(H9 _ (by exact frc)).mono ?_;rintro e w9 ⟨m9,Aa9,Ac9,Am9,ca9,cc9,cm9,rfl,hm9,hr9,hf9⟩;refine Hid.out ?_)
     refine Lib.hid ?_
     have hF9:=hF7.same hf9
     have hs79:=hF9.size
     have hm99:=hm9.wid (Y:=fun b=>b<w7.heap.size∨w9.heap.size≤b) (fun b h1 h2=>h1.resolve_right (by omega))
     obtain⟨w10,hw10⟩:∃w10,w10=w9.alloc (.cells #[.string m9.name,.slice Aa9 m9.args.length ca9,.int .i64 m9.ret.kind,.string m9.ret.name,.int .i64 m9.locals,.int .i64 m9.stack,.slice Ac9 m9.code.length cc9,.slice Am9 m9.maps.length cm9] 49):=⟨_,rfl⟩
     have hf10:Fr No w9 w10:=hw10▸frc
     have hs10:w10.heap.size=w9.heap.size+1:=by rw[hw10,World.size_alloc]
     have BM10:Bx w10 w9.heap.size 49 #[.string m9.name,.slice Aa9 m9.args.length ca9,.int .i64 m9.ret.kind,.string m9.ret.name,.int .i64 m9.locals,.int .i64 m9.stack,.slice Ac9 m9.code.length cc9,.slice Am9 m9.maps.length cm9]:=hw10▸bxc
     have hF10:=hF9.trans0 hf10
     have hr10:=hr9.keep hf10
     have hrow10:=Lib.hid ((hrow7.out.keep hf9 (fun q9 h9 e9=>by have:=hq7'.out q9 h9;omega)).keep0 hf10)
     clear H9 hr7 hf9 hm9
     replace hrow7:=Lib.hid hrow7
     replace hs10:=Lib.hid hs10
     have hs109:=hf10.size
     go_step
     unfold zuu
     go_step
     go_step
     go_step
     rw[<-hw10]
     replace hw10:=Lib.hid hw10
     have ha8:=(Fr.refl No w10).alloc (.cells #[.string ⟨#[121]⟩,.string ⟨#[]⟩,.slice none 0 0,.slice (some ⟨w9.heap.size,0,none⟩) 1 1] 41)
     go_wp2_with (at_builtin;refine Hid.out ?_)
     refine Lib.hid ?_
     refine zqH zrS rfl _ _ rfl (.slice A7 js.length c7) js.length js rfl rfl (hrow10.out.keep0 ha8) hl9 w10.heap.size 41 [.string ⟨#[121]⟩,.string ⟨#[]⟩,.slice none 0 0,.slice (some ⟨w9.heap.size,0,none⟩) 1 1] rfl (Bx.new w10 _ _) rfl (by simp[Value.oneCell']) ?_
     intro g8 c8 w8 hrow8 hcap8 hgf8 hor8
     have hgb:w6.heap.size<g8∧(g8<w7.heap.size∨w10.heap.size<g8):=by
      rcases hor8 with h9|h9
      ·exact⟨(hq7'.out _ h9).1,.inl (hq7'.out _ h9).2⟩
      ·rw[World.size_alloc] at h9;omega
     have hfL8:Fr (fun b=>zcP (.slice A7 js.length c7)=some b) w10 w8:=(Fr.of0 ha8).trans hgf8 (fun b _ e=>e)
     have hf68:Fr (fun b=>b=rb∨zcP (.slice Ao x.owns.length co)=some b∨w6.heap.size≤b) w6 w8:=((Fr.of0 hf67).trans hF10 (fun b _ e=>.inl e)).trans hfL8 (fun b _ e=>.inr (.inr (Nat.le_of_lt (hq7'.out b e).1)))
     have hr8:RdB w8 rb (q+116):=(hr10.far hfL8 (fun b e=>by have:=(hq7'.out b e).1;omega)).up (by omega)
     have P78:=P7.keepX hf68 (by have:=hO6.out.tn;have h9:=hO6.out.tops.1;rintro(e|e|e);omega;exact(this _ (h9 _ e)).2.2.2 rfl;have:=P7.lt;omega)
     have hcls:ClsC (fun b=>ZO (w.heap.size+1) w1.heap.size w4.heap.size g0 TK b∨b=g8) w8 [.string ⟨#[121]⟩,.string ⟨#[]⟩,.slice none 0 0,.slice (some ⟨w9.heap.size,0,none⟩) 1 1] ⟨⟨#[121]⟩,⟨#[]⟩,[],[m9]⟩:=by
      have hs109:=hs10.out
      have hf98:Fr (fun b=>zcP (.slice A7 js.length c7)=some b) w9 w8:=(Fr.of0 hf10).trans hfL8 (fun b _ e=>e)
      have hZ:∀b,ZO (w.heap.size+1) w1.heap.size w4.heap.size g0 TK b∨b=g8->b<w7.heap.size∨w9.heap.size<b:=by
       have h51:=hO6.out.p5.lt
       have h71:=hO6.out.p7.lt
       have htl:=hO6.out.tl
       have hg0:=lt_of_cell (hO6.out.fin.choose_spec.1.cell 0 |>.trans (Array.getElem?_eq_getElem (by have:=hO6.out.fin.choose_spec.2.1;omega)))
       rintro b ((e|e|e|e|e)|e)
       ·omega
       ·omega
       ·omega
       ·omega
       ·have:=htl b e;omega
       ·omega
      have hmr:=hm99.keep hf98 (fun b e=>.inl (hq7'.out b e).2)
      have BM8:=BM10.keepX hfL8 (fun e=>by have:=(hq7'.out _ e).2;omega)
      refine⟨_,_,rfl,by show(1:Nat)≤maxLen;unfold maxLen;omega,Nat.zero_le _,Sl.nil _ _ _ _,⟨_,_,rfl,Nat.le_refl _,by show(1:Nat)≤maxLen;unfold maxLen;omega,fun _=>⟨w9.heap.size,0,rfl,fun h=>by have:=hZ _ h;omega,fun k9 hk9=>?_⟩⟩⟩
      have hk90:k9=0:=by simpa using hk9
      subst hk90
      refine⟨_,hmr.weaken (fun b e=>(hZ b e).imp id Nat.le_of_lt),rfl,fun j hj=>?_⟩
      rw[BM8.cell]
      simp[zuu]
     have hfin:=Lib.hid (hO6.out.ownsSnoc (a:=⟨⟨#[121]⟩,⟨#[]⟩,[],[m9]⟩) j1.out j4.out hcls hf68 hr8 hrow8 hcap8 (.inr (by omega)) hlo6)
     obtain⟨n0,n1⟩:=P78.c2
     have nl:=P78.lt
     have nf:=fun i=>P78.frozen i
     simp only[Act.put,lz0,lz1,lz2]
     replace hcls:=Lib.hid hcls
     clear hrow8 hgf8 hor8
     go_wp2_with fail
     go_meet
     obtain⟨TK',hO8⟩:=hfin.out _ rfl
     exact⟨_,_,_,_,_,_,_,_,_,_,hO8⟩
    ·have hdl0:=hO6.hn
     have hrlw:=hO6.r.lt
     replace hO6:=Lib.hid hO6
     clear P5 P7 m0 m1 ml mf
     go_wp2_with fail
     go_loopg [] (5-ks.length) (fun j wr=>∃(g m c:Nat) (ks':List Kpr),m+j=5∧Hid (OT rb (q+23) (w.heap.size+1) w1.heap.size w4.heap.size k g m c w wr ks' x Ao Aa co ca TK))
     case atStart=>exact⟨_,_,_,_,by omega,hO6⟩
     case round=>
      clear hO6 hdl0
      obtain⟨g,m,c,ks',hmj,hO⟩:=hrel
      have Q5:=hO.out.p5
      have p0:=Q5.c1
      have pl:=Q5.lt
      have pf:=fun i=>Q5.frozen i
      replace hmj:=Lib.hid hmj
      by_cases hm3:m≤3
      ·have hm9:(m:Int)≤3:=by omega
       obtain⟨rows,r1,r2,r3⟩:=hO.out.rows
       obtain⟨gl1,gl2,gl3⟩:=hO.out.hg
       have hnm:=Lib.hid hO.out.hn
       have ha8:=(Fr.refl No wr).alloc (.cells #[.slice none 0 0,.slice none 0 0] 87)
       replace r1:=Lib.hid r1
       replace r3:=Lib.hid r3
       go_wp2_with (at_builtin;refine Hid.out ?_)
       refine Lib.hid ?_
       refine zqH zr2 rfl _ _ rfl (.slice (some ⟨g,0,none⟩) m c) m rows rfl r1.out.symm (r2.keep0 ha8) (by omega) wr.heap.size 87 [.slice none 0 0,.slice none 0 0] rfl (Bx.new wr _ _) rfl (by simp[Value.oneCell']) ?_
       intro g8 c8 w8 hrow8 hcap8 hgf8 hor8
       have hbl:∀b,zcP (.slice (some ⟨g,0,none⟩) m c)=some b->b=g:=fun b hb=>by
        rw[zcQ] at hb
        split at hb
        ·cases hb
        ·cases hb;rfl
       have hgb:g8=g∨wr.heap.size≤g8:=by
        rcases hor8 with h9|h9
        ·exact .inl (hbl _ h9)
        ·rw[World.size_alloc] at h9;omega
       have hf8:Fr (fun b=>b=g∨wr.heap.size≤b) wr w8:=(Fr.of0 ha8).trans hgf8 (fun b _ e=>.inl (hbl b e))
       have P58:=Q5.keepX hf8 (by rintro(e|e)<;>omega)
       have hfin:=Lib.hid (fun(u:Value) (hu:u=.slice (some ⟨g8,0,none⟩) (m+1) c8)=>(show Hid (OT rb (q+23) (w.heap.size+1) w1.heap.size w4.heap.size k g8 (m+1) c8 w (w8.setCell ⟨w1.heap.size,0,none⟩ u) (ks' ++ [⟨[],[]⟩]) x Ao Aa co ca TK) from Lib.hid (by
        subst hu
        exact hO.out.more r1.out r3.out hf8 hrow8 hgb)))
       have n0:=P58.c1
       have nl:=P58.lt
       have nf:=fun i=>P58.frozen i
       simp only[Act.put,lz0,lz1,lz2]
       clear hrow8 hgf8 hor8 p0 pl pf r2
       go_wp2_with fail
       go_roundg (4-m)
       case measure=>have:=hmj.out;omega
       case rel=>exact⟨_,_,_,_,by omega,hfin.out _ rfl⟩
      ·have hm9:¬(m:Int)≤3:=by omega
       go_wp2_with fail
       go_meet
       exact⟨_,_,_,_,_,_,_,_,_,_,hO.out.up (show q+23≤q+116 by omega)⟩
   case rest=>
    obtain⟨g,m,c,ks',x,Ao,Aa,co,ca,TK,hO⟩:=hcut
    obtain⟨cur,BG,hkc,hmc,hcm,hfinS⟩:=hO.fin
    obtain⟨hnm,hkm⟩:=hO.hn
    have p0:=hO.p5.c1
    have pl:=hO.p5.lt
    obtain⟨x0,x1⟩:=hO.p7.c2
    have xl:=hO.p7.lt
    have g0':wc.cell? ⟨g,k * 2,none⟩=some cur[k * 2]:=by rw[BG.cell];exact Array.getElem?_eq_getElem (by omega)
    have g1':wc.cell? ⟨g,k * 2+1,none⟩=some cur[k * 2+1]:=by rw[BG.cell];exact Array.getElem?_eq_getElem (by omega)
    have gl:=BG.lt
    have gf:=fun i=>BG.frozen i
    have hkm9:(k:Int)<(m:Int):=by omega
    obtain⟨hgl,hg5,hg7⟩:=hO.hg
    have hdl:=hO.hl
    have hfin:=Lib.hid (fun(W:World) (hW:W=(wc.setCell ⟨g,k * 2,none⟩ (.slice Ao x.owns.length co)).setCell ⟨g,k * 2+1,none⟩ (.slice Aa x.asks.length ca))=>(show JP rb (q+118) w1.heap.size w W from by
     obtain⟨hs9,hf9⟩:=hfinS _ _ rfl rfl
     rw[hW]
     exact⟨some ⟨g,0,none⟩,m,c,ks'.set k x,hO.p5.keepX hf9 (by omega),hs9,(hO.r.far hf9 (fun b e=>by omega)).up (by omega),hO.f.trans hf9 (fun b hb e=>by omega),hO.z.keepX hf9 (by omega)⟩))
    clear hfinS BG hnm
    replace hO:=Lib.hid hO
    unfold maxLen at hcm
    go_wp2_with fail
    go_meet
    exact hfin.out _ rfl
 case rest=>
  obtain⟨A,m,c,ks',P5,hS,hr9,hf9,PZ⟩:=hcut
  obtain⟨A',c',e9,_,_⟩:=hS.form
  cases e9
  have p0:=P5.c1
  have pl:=P5.lt
  have z0:=PZ.c1
  have zl:=PZ.lt
  have zf:=fun i=>PZ.frozen i
  have hfin:=Lib.hid (fun u:Value=>(show zuH rb q w (.returned (.agg #[.slice A ks'.length c])) (wc.setCell ⟨w.heap.size,0,none⟩ u) from⟨_,ks',rfl,(hS.keep (Fr.put1 _ _ _ _) (fun b e=>by omega) (fun _ _ _ h=>h.keep (Fr.put1 _ _ _ _) (fun b e=>by omega))).weaken (fun b e=>by have:b<w.heap.size:=e;show b<w.heap.size+1;omega) (fun _ _ _ h=>h.weaken (fun b e=>by have:b<w.heap.size:=e;show b<w.heap.size+1;omega)),(hr9.far (Fr.put1 _ _ _ _) (fun b e=>by omega)).up (by omega),hf9.trans (Fr.put1 _ _ _ _) (fun b hb e=>by omega)⟩))
  clear P5 PZ hS
  go_wp2_with fail
  refine bodyPost_ret (v:=.agg #[.slice A ks'.length c]) (by simp[results,Tryz.results22,go_sem, *]) rfl ?_
  exact hfin.out _
end Go.Proofs.YtbfmeklfpackjaaGreatDoor
