/- Texts of kinds, tags and instructions, as the program writes them. -/
import Derived.Test.YtmeaibjmnjcdfaaGreatDoorZG7
import Derived.Test.YtmeaibjmnjcdfaaGreatDoorZG17
set_option maxHeartbeats 4000000
set_option maxRecDepth 100000
namespace Go.Proofs.YtmeaibjmnjcdfaaGreatDoor
open Go.RowKit
theorem strE {V:Bs} {s:Str} {w w':World} (h:zbl V=s) (hf:Fr No w w'):Gives (.string (zbl V)) w (.returned (.string s)) w':=⟨by rw[h],hf⟩
theorem zyj (t:Tag) (w:World) (hs:t.name.size≤maxLen):
  Calls Tryz.prog 100 #[.agg #[.int .i64 t.kind,.string t.name]] w (Gives (.string (zbl (tagT t))) w):=by
 have HO:=fun W=>zfo t W hs
 obtain⟨k,s⟩:=t
 have hB:=Bx.new w 146 #[.int .i64 k,.string s]
 obtain⟨V,hV⟩:∃V,V=tagT ⟨k,s⟩:=⟨_,rfl⟩
 rw[<-hV]
 unfold tagT at hV
 dsimp only at *
 cases hb:tagB ⟨k,s⟩
 ·rw[hb] at HO hV
  rw[if_neg (by decide)] at hV
  replace hV:=Lib.hid hV
  go_enter Tryz.func100,Tryz.ntmps100
  go_wp2_with (go_at_call 143;refine(HO _).mono ?_;rintro e w1 ⟨rfl,hf1⟩)
  go_ret
  exact strE (by rw[hV.out];rfl) (by exact frc)
 ·rw[hb] at HO hV
  rw[if_pos rfl] at hV
  clear hb
  have hc:k=0∨k=1∨k=3∨(¬k=0∧¬k=1∧¬k=3):=by omega
  rcases hc with rfl|rfl|rfl | ⟨h0,h1,h3⟩
  ·simp only[if_true] at hV
   replace hV:=Lib.hid hV
   go_enter Tryz.func100,Tryz.ntmps100
   go_wp2_with (go_at_call 143;refine(HO _).mono ?_;rintro e w1 ⟨rfl,hf1⟩;obtain⟨b0,b1⟩:=(hB.keep hf1).c2;have bl:=(hB.keep hf1).lt)
   go_ret
   exact strE (by rw[hV.out];rfl) (by exact frc)
  ·simp only[Int.reduceEq,if_true,if_false] at hV
   replace hV:=Lib.hid hV
   go_enter Tryz.func100,Tryz.ntmps100
   go_wp2_with (go_at_call 143;refine(HO _).mono ?_;rintro e w1 ⟨rfl,hf1⟩;obtain⟨b0,b1⟩:=(hB.keep hf1).c2;have bl:=(hB.keep hf1).lt)
   go_ret
   exact strE (by rw[hV.out];rfl) (by exact frc)
  ·simp only[Int.reduceEq,if_true,if_false] at hV
   replace hV:=Lib.hid hV
   go_enter Tryz.func100,Tryz.ntmps100
   go_wp2_with (go_at_call 143;refine(HO _).mono ?_;rintro e w1 ⟨rfl,hf1⟩;obtain⟨b0,b1⟩:=(hB.keep hf1).c2;have bl:=(hB.keep hf1).lt)
   go_ret
   exact strE (by rw[hV.out];rfl) (by exact frc)
  ·rw[if_neg h0,if_neg h1,if_neg h3] at hV
   replace hV:=Lib.hid hV
   go_enter Tryz.func100,Tryz.ntmps100
   go_wp2_with (go_at_call 143;refine(HO _).mono ?_;rintro e w1 ⟨rfl,hf1⟩;obtain⟨b0,b1⟩:=(hB.keep hf1).c2;have bl:=(hB.keep hf1).lt)
   go_ret
   exact strE (by rw[hV.out];rfl) (by exact frc)
theorem zyk (k:Nat) (hk:k≤15) (w:World):Calls Tryz.prog 145 #[.int .i64 (k:Int)] w (Gives (.string (zbl (insW k))) w):=by
 have h:k=0∨k=1∨k=2∨k=3∨k=4∨k=5∨k=6∨k=7∨k=8∨k=9∨k=10∨k=11∨k=12∨k=13∨k=14∨k=15:=by omega
 rcases h with rfl|rfl|rfl|rfl|rfl|rfl|rfl|rfl|rfl|rfl|rfl|rfl|rfl|rfl|rfl|rfl
 all_goals
  go_enter Tryz.func145,Tryz.ntmps145
  go_wp2
  go_ret
  exact .mk rfl (by exact frc)
theorem zyl (op:Int) (w:World) (h0:0≤op) (h1:op≤15):Calls Tryz.prog 145 #[.int .i64 op] w (Gives (.string (zbl (insW op.toNat))) w):=by
 obtain⟨k,rfl⟩:=Int.eq_ofNat_of_zero_le h0
 exact zyk k (by omega) w
theorem zym {P:Program} {f:FuncId} (h:(P.funcs[f]?).map (fun fn=>(fn.name == "runtime.NumGoroutine",fn.body.isNone))=some (false,false)) (args:Array Value) (W:World):(callFunc f args).run P W=.ok (.enter f args) W:=by
 cases hf:P.funcs[f]? with
 | none=>rw[hf] at h;cases h
 | some fn=>
  rw[hf] at h
  simp only[Option.map_some,Option.some.injEq,Prod.mk.injEq] at h
  have h1:¬fn.name="runtime.NumGoroutine":=by simpa using h.1
  have h2:¬fn.body=none:=fun e=>by rw[e] at h;exact absurd h.2 (by decide)
  simp[callFunc,go_sem,hf,h1,h2]
def shpV (k:Knd):Value:=if k.kind=1∧k.name.toList.isEmpty=true then .iface 200 (.agg #[]) else if k.kind=2∧namB k.name=true then .iface 202 (.agg #[.string k.name]) else .nilIface
theorem zyn (k:Knd) (w:World) (hs:k.name.size≤maxLen):
  Calls Tryz.prog 99 #[.agg #[.int .i64 k.kind,.string k.name]] w (Gives (shpV k) w):=by
 obtain⟨k,s⟩:=k
 go_enter Tryz.func99,Tryz.ntmps99
 go_wp2_with (go_at_call 85;refine(zfm _ _ hs).mono ?_;rintro e w' ⟨rfl,rfl⟩)
 all_goals go_ret
 all_goals exact .mk (by simp[shpV, *]) (by exact frc)
theorem zyo (w:World):Calls Tryz.prog 270 #[.agg #[]] w (Gives (.string ⟨#[35]⟩) w):=by
 go_enter Tryz.func270,Tryz.ntmps270
 go_wp2
 go_ret
 exact .mk rfl (by exact frc)
theorem zyp (s:Str) (w:World):Calls Tryz.prog 271 #[.agg #[.string s]] w (Gives (.string s) w):=by
 go_enter Tryz.func271,Tryz.ntmps271
 go_wp2
 go_ret
 exact .mk rfl (by exact frc)
theorem zyq (n:Nat) (w:World):(Go.method (n+1) 200 (.agg #[]) "loop.example/lodgekeeper/impl.text").run Tryz.prog w=.ok (270,.agg #[]) w:=by kernel_rfl
theorem zyr (n:Nat) (s:Str) (w:World):(Go.method (n+1) 202 (.agg #[.string s]) "loop.example/lodgekeeper/impl.text").run Tryz.prog w=.ok (271,.agg #[.string s]) w:=by kernel_rfl
theorem zys (k:Knd) (w:World) (hs:k.name.size≤maxLen):
  Calls Tryz.prog 57 #[.agg #[.int .i64 k.kind,.string k.name]] w (Gives (.string (zbl (kndT k))) w):=by
 have HS:=fun W=>zyn k W hs
 obtain⟨V,hV⟩:∃V,V=kndT k:=⟨_,rfl⟩
 rw[<-hV]
 unfold kndT kndB at hV
 unfold shpV at HS
 obtain⟨k,s⟩:=k
 dsimp only at *
 by_cases h1:k=1∧s.toList.isEmpty=true
 ·rw[if_pos h1] at HS
  have e:V=[35]:=by rw[hV];simp[h1.1,h1.2]
  clear hV h1
  replace e:=Lib.hid e
  go_enter Tryz.func57,Tryz.ntmps57
  go_wp2_with (go_at_call 99;refine(HS _).mono ?_;rintro e w1 ⟨rfl,hf1⟩)
  simp only[zyq,Result.andThen_ok]
  rw[zym (by kernel_rfl),Oper.upon_enter]
  refine(zyo _).mono ?_
  rintro e w2 ⟨rfl,hf2⟩
  go_wp2_with fail
  go_ret
  exact strE (by rw[e.out];rfl) (by exact frc)
 ·rw[if_neg h1] at HS
  by_cases h2:k=2∧namB s=true
  ·rw[if_pos h2] at HS
   have e:V=Str.l s:=by rw[hV];simp[h2.1,h2.2]
   clear hV h1 h2
   replace e:=Lib.hid e
   go_enter Tryz.func57,Tryz.ntmps57
   go_wp2_with (go_at_call 99;refine(HS _).mono ?_;rintro e w1 ⟨rfl,hf1⟩)
   simp only[zyr,Result.andThen_ok]
   rw[zym (by kernel_rfl),Oper.upon_enter]
   refine(zyp _ _).mono ?_
   rintro e w2 ⟨rfl,hf2⟩
   go_wp2_with fail
   go_ret
   exact strE (by rw[e.out];rfl) (by exact frc)
  ·rw[if_neg h2] at HS
   have e:V=[]:=by
    rw[hV,if_neg]
    intro h9
    simp only[Bool.or_eq_true,lz5,beq_iff_eq] at h9
    exact h9.elim (fun h=>h1 h) (fun h=>h2 h)
   clear hV h1 h2
   replace e:=Lib.hid e
   go_enter Tryz.func57,Tryz.ntmps57
   go_wp2_with (go_at_call 99;refine(HS _).mono ?_;rintro e w1 ⟨rfl,hf1⟩)
   go_ret
   exact strE (by rw[e.out];rfl) (by exact frc)
end Go.Proofs.YtmeaibjmnjcdfaaGreatDoor
