/- errors.As(err, &e) with e a *linkError: not at all for a nil error, and a hit for a *linkError. Turned from the worked example of errors.As to this program's numbers. -/
import Derived.Test.YtbfmeklfpackjaaGreatDoorQHPqbE
import Derived.Test.YtbfmeklfpackjaaGreatDoorChecked
import Derived.Test.YtbfmeklfpackjaaGreatDoorQG33
import Derived.LaidEql
import Derived.Stop.Asserts
import Derived.RowKitTokens
import Derived.Deep.RegionHeld3
set_option maxHeartbeats 8000000
set_option maxRecDepth 100000
namespace Go.Proofs.YtbfmeklfpackjaaGreatDoor
open Go.RowKit Go.Extern.Stop Go.Stop Go.Extern
theorem zu0 (t:Value) (w:World):
  Calls Tryz.prog 51 #[.nilIface,t] w fun e w'=>e=.returned (.bool false)∧w'=w:=by
 go_enter Tryz.func51,Tryz.ntmps51
 go_wp2
 go_ret
 exact⟨rfl,rfl⟩
/-! Closed facts on the entries of internal/reflectlite,at this program's types. -/
theorem As.valueOf27 (t:Addr) (w:World):(ReflectliteValue.unpack (.iface 114 (.pointer (some t)))).run Tryz.prog w
  = .ok (.agg #[.pointer (some ⟨1,114,none⟩),.pointer (some ⟨w.heap.size,0,none⟩),.int .u64 150]) (w.alloc (.cells #[.pointer (some t)] 114)):=by kernel_rfl
theorem As.type27 (a:Addr) (w:World):(ReflectliteValue.methodAny (ReflectliteValue.valueError "reflectlite.Value.Type" 0) (fun t _ _ _=>ReflectliteType.toType t) #[.agg #[.pointer (some ⟨1,114,none⟩),.pointer (some a),.int .u64 150]]).run Tryz.prog w
  = .ok (.iface 187 (.agg #[.pointer (some ⟨1,114,none⟩)])) w:=by kernel_rfl
theorem As.methodKind (n:Nat) (h:Value) (w:World):(Go.method (n+1) 187 (.agg #[h]) "Kind").run Tryz.prog w=.ok (158,h) w:=by kernel_rfl
theorem As.kind27 (w:World):((ReflectliteType.abiMethod fun t=>(fun a:Nat=>Value.int IntKind.u8 (a:Int)) <$> Rtype.kind t) #[.pointer (some ⟨1,114,none⟩)]).run Tryz.prog w=.ok (.int .u8 22) w:=by kernel_rfl
theorem As.kind25 (w:World):((ReflectliteType.abiMethod fun t=>(fun a:Nat=>Value.int IntKind.u8 (a:Int)) <$> Rtype.kind t) #[.pointer (some ⟨1,108,none⟩)]).run Tryz.prog w=.ok (.int .u8 22) w:=by kernel_rfl
/-! The entries that read or write memory. -/
theorem rlm (z:Sem Value) (f:TypeId->Addr->Nat->Nat->Sem Value) (v:Value):
  ReflectliteValue.method z f #[v]=(do match ← ReflectliteValue.parts v with|none=>z|some (t,a,fl)=>f t a fl (fl % 32)):=rfl
theorem As.parts27 (a:Addr) (w:World):(ReflectliteValue.parts (.agg #[.pointer (some ⟨1,114,none⟩),.pointer (some a),.int .u64 150])).run Tryz.prog w=.ok (some (114,a,150)) w:=by kernel_rfl
theorem As.isNil27 (a p:Addr) (W:World) (ha:W.cell? a=some (.pointer (some p))):
  (ReflectliteValue.method (ReflectliteValue.valueError "reflectlite.Value.IsNil" 0) ReflectliteValue.isNil #[.agg #[.pointer (some ⟨1,114,none⟩),.pointer (some a),.int .u64 150]]).run Tryz.prog W=.ok (.bool false) W:=by
 rw[rlm]
 simp only[Sem.run_bind,As.parts27,Result.andThen]
 simp[ReflectliteValue.isNil,loadVar,isAgg,underlying,Tryz.underlying114,ha,Result.andThen]
theorem As.methodElem (n:Nat) (h:Value) (w:World):(Go.method (n+1) 187 (.agg #[h]) "Elem").run Tryz.prog w=.ok (172,.agg #[h]) w:=by kernel_rfl
theorem As.methodImplements (n:Nat) (h:Value) (w:World):(Go.method (n+1) 187 (.agg #[h]) "Implements").run Tryz.prog w=.ok (173,.agg #[h]) w:=by kernel_rfl
theorem As.methodAssignableTo (n:Nat) (h:Value) (w:World):(Go.method (n+1) 187 (.agg #[h]) "AssignableTo").run Tryz.prog w=.ok (170,.agg #[h]) w:=by kernel_rfl
theorem As.elem27 (w:World):(ReflectliteType.method ReflectliteType.elem #[.agg #[.pointer (some ⟨1,114,none⟩)]]).run Tryz.prog w=.ok (.iface 187 (.agg #[.pointer (some ⟨1,108,none⟩)])) w:=by kernel_rfl
theorem As.implements25 (w:World):(ReflectliteType.relation "Implements" ReflectliteType.implements_ #[.agg #[.pointer (some ⟨1,108,none⟩)],.iface 187 (.agg #[.pointer (some ⟨1,75,none⟩)])]).run Tryz.prog w=.ok (.bool true) w:=by kernel_rfl
theorem As.typeOf25 (v:Value) (w:World):(ReflectliteType.typeOf #[.iface 108 v]).run Tryz.prog w=.ok (.iface 187 (.agg #[.pointer (some ⟨1,108,none⟩)])) w:=by kernel_rfl
theorem As.assignable25 (w:World):(ReflectliteType.relation "AssignableTo" ReflectliteType.assignableTo #[.agg #[.pointer (some ⟨1,108,none⟩)],.iface 187 (.agg #[.pointer (some ⟨1,108,none⟩)])]).run Tryz.prog w=.ok (.bool true) w:=by kernel_rfl
theorem As.valueOf25 (e:Addr) (w:World):(ReflectliteValue.unpack (.iface 108 (.pointer (some e)))).run Tryz.prog w
  = .ok (.agg #[.pointer (some ⟨1,108,none⟩),.pointer (some ⟨w.heap.size,0,none⟩),.int .u64 150]) (w.alloc (.cells #[.pointer (some e)] 108)):=by kernel_rfl
theorem As.elemOf27 (w:World):(Rtype.elem? 114).run Tryz.prog w=.ok (some 108) w:=by kernel_rfl
theorem As.mk25 (p:Addr) (w:World):(ReflectliteValue.mk 108 p ReflectliteValue.flagAddr).run Tryz.prog w=.ok (.agg #[.pointer (some ⟨1,108,none⟩),.pointer (some p),.int .u64 406]) w:=by kernel_rfl
theorem As.elemV27 (a p:Addr) (W:World) (ha:W.cell? a=some (.pointer (some p))):
  (ReflectliteValue.method (ReflectliteValue.valueError "reflectlite.Value.Elem" 0) ReflectliteValue.elem #[.agg #[.pointer (some ⟨1,114,none⟩),.pointer (some a),.int .u64 150]]).run Tryz.prog W
   = .ok (.agg #[.pointer (some ⟨1,108,none⟩),.pointer (some p),.int .u64 406]) W:=by
 rw[rlm]
 simp only[Sem.run_bind,As.parts27,Result.andThen]
 simp[ReflectliteValue.elem,loadVar,isAgg,underlying,Tryz.underlying114,ha,Result.andThen,As.elemOf27,As.mk25]
theorem rls (v x:Value):ReflectliteValue.set #[v,x]=(do
  let (some (dst,a,fl),some (src,b,_)):=(← ReflectliteValue.parts v,<-ReflectliteValue.parts x)
   | unsupported (.noEntry "extern/(internal/reflectlite.Value).Set.zeroValue")
  if fl / ReflectliteValue.flagAddr % 2 == 0 then unsupported (.noEntry "extern/(internal/reflectlite.Value).Set.unaddressable")
  let val ← loadVar src b
  if ← Rtype.directlyAssignable dst src then storeVar dst a val
  else if ← Rtype.implements dst src then
   if (← Rtype.kind src) == 20 then
    match val with
    | .nilIface=>unsupported (.noEntry "extern/reflectlite: a nil value of one interface type handed on as a value of another")
    | _=>storeVar dst a val
   else storeVar dst a (.iface src val)
  else panicString ("reflectlite.Set: value of type " ++ (← Rtype.spelt src) ++ " is not assignable to type " ++ (← Rtype.spelt dst))
  pure (.tuple #[])):=rfl
theorem As.parts25a (a:Addr) (w:World):(ReflectliteValue.parts (.agg #[.pointer (some ⟨1,108,none⟩),.pointer (some a),.int .u64 406])).run Tryz.prog w=.ok (some (108,a,406)) w:=by kernel_rfl
theorem As.parts25 (a:Addr) (w:World):(ReflectliteValue.parts (.agg #[.pointer (some ⟨1,108,none⟩),.pointer (some a),.int .u64 150])).run Tryz.prog w=.ok (some (108,a,150)) w:=by kernel_rfl
theorem As.direct25 (w:World):(Rtype.directlyAssignable 108 108).run Tryz.prog w=.ok true w:=by kernel_rfl
theorem As.set25 (ta b e:Addr) (old:Value) (W:World) (hb:W.cell? b=some (.pointer (some e))) (ht:W.cell? ta=some old) (hf:W.frozen? ta=false):
  (ReflectliteValue.set #[.agg #[.pointer (some ⟨1,108,none⟩),.pointer (some ta),.int .u64 406],.agg #[.pointer (some ⟨1,108,none⟩),.pointer (some b),.int .u64 150]]).run Tryz.prog W
   = .ok (.tuple #[]) (W.setCell ta (.pointer (some e))):=by
 rw[rls]
 simp only[Sem.run_bind,As.parts25a,As.parts25,Result.andThen]
 simp[ReflectliteValue.flagAddr,loadVar,isAgg,underlying,Tryz.underlying108,hb,Result.andThen,As.direct25,storeVar,Value.cells,storeCells,Addr.add]
 rw[run_store Tryz.prog W ta _ _ (by rfl)]
 simp[ht,hf]
theorem zu1 (e t:Addr) (old:Value) (w:World) (hg:w.cell? ⟨0,0,none⟩=some (.iface 187 (.agg #[.pointer (some ⟨1,75,none⟩)]))) (ht0:w.cell? t=some old) (hf0:w.frozen? t=false):
  Calls Tryz.prog 51 #[.iface 108 (.pointer (some e)),.iface 114 (.pointer (some t))] w fun ev w'=>ev=.returned (.bool true)∧w'=((((w.alloc (.cells #[.pointer (some t)] 114)).alloc (.cells #[.pointer (some ⟨1,114,none⟩),.pointer (some ⟨w.heap.size,0,none⟩),.int .u64 150] 154)).alloc (.cells #[.pointer (some ⟨1,114,none⟩),.pointer (some ⟨w.heap.size,0,none⟩),.int .u64 150] 154)).alloc (.cells #[.pointer (some e)] 108)).setCell t (.pointer (some e)):=by
 have h6:=@run_callFunc_extern Tryz.prog 78 _ (fun args=>ReflectliteValue.unpack (args.getD 0 (.tuple #[]))) Tryz.func78 (by kernel_rfl) (by kernel_rfl) (by kernel_rfl) (by kernel_rfl)
 have h7:=@run_callFunc_extern Tryz.prog 79 _ (ReflectliteValue.methodAny (ReflectliteValue.valueError "reflectlite.Value.Type" 0) (fun t _ _ _=>ReflectliteType.toType t)) Tryz.func79 (by kernel_rfl) (by kernel_rfl) (by kernel_rfl) (by kernel_rfl)
 have h8:=@run_callFunc_extern Tryz.prog 80 _ (ReflectliteValue.method (ReflectliteValue.valueError "reflectlite.Value.IsNil" 0) ReflectliteValue.isNil) Tryz.func80 (by kernel_rfl) (by kernel_rfl) (by kernel_rfl) (by kernel_rfl)
 have h27:=@run_callFunc_extern Tryz.prog 158 _ (ReflectliteType.abiMethod fun t=>do pure (.int .u8 (← Rtype.kind t))) Tryz.func158 (by kernel_rfl) (by kernel_rfl) (by kernel_rfl) (by kernel_rfl)
 have h37:=@run_callFunc_extern Tryz.prog 172 _ (ReflectliteType.method ReflectliteType.elem) Tryz.func172 (by kernel_rfl) (by kernel_rfl) (by kernel_rfl) (by kernel_rfl)
 have h38:=@run_callFunc_extern Tryz.prog 173 _ (ReflectliteType.relation "Implements" ReflectliteType.implements_) Tryz.func173 (by kernel_rfl) (by kernel_rfl) (by kernel_rfl) (by kernel_rfl)
 have h10:=@run_callFunc_extern Tryz.prog 102 _ ReflectliteType.typeOf Tryz.func102 (by kernel_rfl) (by kernel_rfl) (by kernel_rfl) (by kernel_rfl)
 have h35:=@run_callFunc_extern Tryz.prog 170 _ (ReflectliteType.relation "AssignableTo" ReflectliteType.assignableTo) Tryz.func170 (by kernel_rfl) (by kernel_rfl) (by kernel_rfl) (by kernel_rfl)
 have h11:=@run_callFunc_extern Tryz.prog 103 _ (ReflectliteValue.method (ReflectliteValue.valueError "reflectlite.Value.Elem" 0) ReflectliteValue.elem) Tryz.func103 (by kernel_rfl) (by kernel_rfl) (by kernel_rfl) (by kernel_rfl)
 have h12:=@run_callFunc_extern Tryz.prog 104 _ ReflectliteValue.set Tryz.func104 (by kernel_rfl) (by kernel_rfl) (by kernel_rfl) (by kernel_rfl)
 have tO:=As.typeOf25
 have mA:=As.methodAssignableTo 373
 have a25:=As.assignable25
 have v25:=As.valueOf25
 have f6:=As.valueOf27
 have f7:=As.type27
 have mK:=As.methodKind 373
 have mE:=As.methodElem 373
 have mI:=As.methodImplements 373
 have k27:=As.kind27
 have k25:=As.kind25
 have e27:=As.elem27
 have i25:=As.implements25
 have n8:=As.isNil27 ⟨w.heap.size,0,none⟩ t ((w.alloc (.cells #[.pointer (some t)] 114)).alloc (.cells #[.pointer (some ⟨1,114,none⟩),.pointer (some ⟨w.heap.size,0,none⟩),.int .u64 150] 154)) (by simp)
 have hlt:0<w.heap.size:=by
  rcases Nat.eq_zero_or_pos w.heap.size with h0|h
  ·simp[World.cell?,h0] at hg
  ·exact h
 have hg2:((w.alloc (.cells #[.pointer (some t)] 114)).alloc (.cells #[.pointer (some ⟨1,114,none⟩),.pointer (some ⟨w.heap.size,0,none⟩),.int .u64 150] 154)).cell? ⟨0,0,none⟩=some (.iface 187 (.agg #[.pointer (some ⟨1,75,none⟩)])):=by
  rw[World.cell?_alloc_lt _ _ ⟨0,0,none⟩ (by simp),World.cell?_alloc_lt _ _ ⟨0,0,none⟩ hlt];exact hg
 have htl:t.block<w.heap.size:=by
  rcases Nat.lt_or_ge t.block w.heap.size with h|h
  ·exact h
  ·simp[World.cell?,Array.getElem?_eq_none h] at ht0
 have el:=As.elemV27 ⟨w.heap.size,0,none⟩ t (((w.alloc (.cells #[.pointer (some t)] 114)).alloc (.cells #[.pointer (some ⟨1,114,none⟩),.pointer (some ⟨w.heap.size,0,none⟩),.int .u64 150] 154)).alloc (.cells #[.pointer (some ⟨1,114,none⟩),.pointer (some ⟨w.heap.size,0,none⟩),.int .u64 150] 154)) (by rw[World.cell?_alloc_lt _ _ ⟨w.heap.size,0,none⟩ (by simp;omega)];simp)
 have st:=As.set25 t ⟨w.heap.size+1+1+1,0,none⟩ e old ((((w.alloc (.cells #[.pointer (some t)] 114)).alloc (.cells #[.pointer (some ⟨1,114,none⟩),.pointer (some ⟨w.heap.size,0,none⟩),.int .u64 150] 154)).alloc (.cells #[.pointer (some ⟨1,114,none⟩),.pointer (some ⟨w.heap.size,0,none⟩),.int .u64 150] 154)).alloc (.cells #[.pointer (some e)] 108))
  (by rw[World.cell?_alloc_at _ _ _ _ (by simp)];rfl)
  (by rw[World.cell?_alloc_lt _ _ t (by simp;omega),World.cell?_alloc_lt _ _ t (by simp;omega),World.cell?_alloc_lt _ _ t (by simp;omega),World.cell?_alloc_lt _ _ t htl];exact ht0)
  (by rw[World.frozen?_alloc_old _ _ t (by simp;omega),World.frozen?_alloc_old _ _ t (by simp;omega),World.frozen?_alloc_old _ _ t (by simp;omega),World.frozen?_alloc_old _ _ t (Nat.ne_of_lt htl)];exact hf0)
 go_enter Tryz.func51,Tryz.ntmps51
 go_wp2
 refine wp_loop_rounds 1 ?_
 rw[rounds_succ]
 go_wp2
 go_ret
 exact⟨rfl,rfl⟩
def zlt (c1 c2:Cls) (o:Mth->Bool):Bool:=c1.fields.all (fun f=>decide (ixOf (zeT f.name) c2.fields<0))&&c1.methods.all o
theorem zlu (l bl n:Nat) (p:Plan) (g:Int->Str->Option Int) (k1 i1 k2 i2:Nat) (s1 s2:Str) (w:World) (h:zgF w l bl n p g) (hh1:Here p ⟨k1,s1⟩ k1 i1) (hh2:Here p ⟨k2,s2⟩ k2 i2) (hs1:s1.size≤maxLen) (hs2:s2.size≤maxLen):
  Calls Tryz.prog 96 #[.pointer (some ⟨l,0,none⟩),.agg #[.int .i64 k1,.string s1],.agg #[.int .i64 k2,.string s2]] w (zgm (zhm p ⟨k1,s1⟩ ⟨k2,s2⟩) w):=by
 obtain⟨Af1,cf1,Am1,cm1,hR1,HC1⟩:=zbd l bl n p g k1 s1 i1 w h hh1.2.1 hs1 (zbC p k1) rfl hh1.2.2.1 hh1.2.2.2
 obtain⟨Af2,cf2,Am2,cm2,hR2,HC2⟩:=zbd l bl n p g k2 s2 i2 w h hh2.2.1 hs2 (zbC p k2) rfl hh2.2.2.1 hh2.2.2.2
 rw[<-hh1.cls] at hR1 HC1
 rw[<-hh2.cls] at hR2 HC2
 show Calls _ _ _ _ (zgm (zlt (zbG p ⟨k1,s1⟩) (zbG p ⟨k2,s2⟩) (zhl p k1 k2 (zbG p ⟨k2,s2⟩))) w)
 generalize zbG p ⟨k1,s1⟩=c1 at *
 generalize zbG p ⟨k2,s2⟩=c2 at *
 have hK1:Bx ((w.alloc (.cells #[.int .i64 k1,.string s1] 29)).alloc (.cells #[.int .i64 k2,.string s2] 29)) w.heap.size 29 #[.int .i64 k1,.string s1]:=by exact bxc
 have hK2:Bx ((w.alloc (.cells #[.int .i64 k1,.string s1] 29)).alloc (.cells #[.int .i64 k2,.string s2] 29)) (w.heap.size+1) 29 #[.int .i64 k2,.string s2]:=by exact bxc
 have hwA:Fr No w ((w.alloc (.cells #[.int .i64 k1,.string s1] 29)).alloc (.cells #[.int .i64 k2,.string s2] 29)):=((Fr.refl No w).alloc _).alloc _
 go_enter Tryz.func96,Tryz.ntmps96
 go_wp2_with fail
 generalize((w.alloc (.cells #[.int .i64 k1,.string s1] 29)).alloc (.cells #[.int .i64 k2,.string s2] 29))=wA at *
 obtain⟨a0,a1⟩:=hK1.c2
 obtain⟨b0,b1⟩:=hK2.c2
 have la:=hK1.lt
 have lb:=hK2.lt
 have mr0:¬(wA.heap.size=w.heap.size):=(by omega)
 have mr1:¬(w.heap.size=wA.heap.size):=(by omega)
 have mr2:¬(wA.heap.size=w.heap.size+1):=(by omega)
 have mr3:¬(w.heap.size+1=wA.heap.size):=(by omega)
 have mr4:¬(wA.heap.size+1=w.heap.size):=(by omega)
 have mr5:¬(w.heap.size=wA.heap.size+1):=(by omega)
 have mr6:¬(wA.heap.size+1=w.heap.size+1):=(by omega)
 have mr7:¬(w.heap.size+1=wA.heap.size+1):=(by omega)
 refine zn0 8 21 [mV (.pointer (some ⟨l,0,none⟩)),mV (.agg #[.int .i64 k1,.string s1]),mV (.agg #[.string c1.name,.string c1.super,.slice Af1 c1.fields.length cf1,.slice Am1 c1.methods.length cm1]),mV (.pointer (some ⟨l,0,none⟩)),mV (.agg #[.int .i64 k2,.string s2]),mV (.agg #[.string c2.name,.string c2.super,.slice Af2 c2.fields.length cf2,.slice Am2 c2.methods.length cm2]),mB 41 (#[.string ⟨#[]⟩,.string ⟨#[]⟩,.slice none 0 0,.slice none 0 0]) wA.heap.size,mB 41 (#[.string ⟨#[]⟩,.string ⟨#[]⟩,.slice none 0 0,.slice none 0 0]) wA.heap.size] (by kernel_rfl) (by kernel_rfl) (by simp) ?_ ?_
 ·refine hc4 ?_ ?_ ?_ ?_ <| hc4 ?_ ?_ ?_ ?_ <| hopZ
  all_goals (intro a' W hW hoff hdep;have hbs:=hW.size;have A0:=cr a0;have A1:=cr a1;have B0:=cr b0;have B1:=cr b1;have H0:=hoff 0 rfl;have H4:=hoff 4 rfl;have H5:=hoff 5 rfl;refine nE rfl ?_)
  ·simp[execOp,Act.eval,H0,go_sem,zaa];exact fr1 rfl
  ·exact gx0
  ·have D15:_=_:=hdep 0 15 rfl;have D16:_=_:=hdep 1 16 rfl;simp[Act.eval,D15,D16,go_sem,zaa];exact(HC1 _ (hwA.trans0 hW)).mono fun e w'' h=>⟨_,h.1,h.2,rfl⟩
  ·simp[execOp,Act.eval,H0,go_sem,zaa];exact fr1 rfl
  ·exact gx0
  ·have D18:_=_:=hdep 3 18 rfl;have D19:_=_:=hdep 4 19 rfl;simp[Act.eval,D18,D19,go_sem,zaa];exact(HC2 _ (hwA.trans0 hW)).mono fun e w'' h=>⟨_,h.1,h.2,rfl⟩
  ·simp[execOp,go_sem,zaa];exact⟨(Fr.refl _ _).alloc _,⟨_,rfl,Bx.new_ rfl,hbs⟩,Nat.le_refl _⟩
  ·simp[execOp,go_sem,zaa];exact⟨(Fr.refl _ _).alloc _,⟨_,rfl,Bx.new_ rfl,hbs⟩,Nat.le_refl _⟩
 intro vs W7 hW hv hne
 obtain⟨b6,e6,hb6,hl6⟩:=hv 6 (by omega)
 obtain⟨b7,e7,hb7,hl7⟩:=hv 7 (by omega)
 have hne2:=hne 6 7 (by omega) (by omega) (by omega) rfl rfl;rw[e6,e7] at hne2;clear hne;have hne:b6≠b7:=hne2;clear hne2
 simp only[lz6,List.drop_zero,znP,znK,znR,Nat.zero_add,Nat.reduceAdd,e6,e7]
 simp only[Act.put,lz0,lz1,lz2]
 clear e6 e7 hv
 have hw7:Fr No w W7:=hwA.trans0 hW
 clear a0 a1 b0 b1 la mr0 mr1 mr2 mr3 mr4 mr5 mr6 mr7
 replace hK1:=hK1.keep hW
 replace hK2:=hK2.keep hW
 obtain⟨z0,z1,z2,z3⟩:=hb6.c4
 obtain⟨y0,y1,y2,y3⟩:=hb7.c4
 have zf:=fun j=>hb6.frozen j
 have yf:=fun j=>hb7.frozen j
 have hne':¬b7=b6:=fun h=>hne h.symm
 have X7:=hb6.lt
 have X8:=hb7.lt
 have hsw:=hwA.size
 go_wp2
 refine zaE (fun W=>Bx W b6 41 #[.string c1.name,.string c1.super,.slice Af1 c1.fields.length cf1,.slice Am1 c1.methods.length cm1]∧Bx W b7 41 #[.string c2.name,.string c2.super,.slice Af2 c2.fields.length cf2,.slice Am2 c2.methods.length cm2] ∧
  Bx W w.heap.size 29 #[.int .i64 k1,.string s1]∧Bx W (w.heap.size+1) 29 #[.int .i64 k2,.string s2]∧Fr No w W) ⟨Bx.far4 hne (Bx.fillZ hb6),Bx.fillZ (Bx.far4 (Ne.symm hne) hb7),Bx.far4 (by omega) (Bx.far4 (by omega) hK1),Bx.far4 (by omega) (Bx.far4 (by omega) hK2),frc⟩ ?_
 rintro Wz ⟨hc7,hc8,hc5,hc6,hwz⟩
 clear z0 z1 z2 z3 y0 y1 y2 y3 zf yf hne hne' hb6 hb7 hK1 hK2 hw7 hW X7 X8 hwA
 obtain⟨vf1,vm1,he,hz01,hz11,hf1,hm1⟩:=hR1
 simp only[List.cons.injEq,true_and,and_true] at he
 obtain⟨rfl,rfl⟩:=he
 have hC2:=hR2
 obtain⟨vf2,vm2,he,hz02,hz12,hf2,hm2⟩:=hR2
 simp only[List.cons.injEq,true_and,and_true] at he
 obtain⟨rfl,rfl⟩:=he
 have hlens:c1.methods.length≤maxLen∧c2.methods.length≤maxLen∧c1.fields.length≤maxLen∧c2.fields.length≤maxLen:=⟨hm1.at_.2.2.1,hm2.at_.2.2.1,hf1.at_.2.2.1,hf2.at_.2.2.1⟩
 unfold maxLen at hlens
 obtain⟨hl1,hl2,hl3,hl4⟩:=hlens
 have K7:=hc7.r4
 have K8:=hc8.r4
 have K5:=hc5.r2
 have K6:=hc6.r2
 clear HC1 HC2 hc7 hc8 hc5 hc6
 clear lb hl6 hl7 hsw
 clear wA
 have hd0:Hid (zlt c1 c2 (zhl p k1 k2 c2)=(c1.fields.all (fun f=>decide (ixOf (zeT f.name) c2.fields<0))&&c1.methods.all (zhl p k1 k2 c2))):=rfl
 have HF:=fun s W (hW:Fr No w W)=>zgT _ c2 _ s W (hC2.keep hW zN)
 have HM:=fun s W (hW:Fr No w W)=>zgQ _ c2 _ s W (hC2.keep hW zN)
 have HA:=fun cs m W (hW:Fr No w W) hm=>zgN (fun b=>b=bl) l bl n p g k1 k2 m cs W (h.keep hW) hm
 replace hd0:Hid (zlt c1 c2 (zhl p k1 k2 c2)=((c1.fields.drop 0).all (fun f=>decide (ixOf (zeT f.name) c2.fields<0))&&c1.methods.all (zhl p k1 k2 c2))):=hd0
 clear hC2 h
 go_loopw [24,6] (fun i r wr=>∃k:Nat,k≤c1.fields.length∧i=.int .i64 k∧r=.bool false∧Hid (zlt c1 c2 (zhl p k1 k2 c2)=((c1.fields.drop k).all (fun f=>decide (ixOf (zeT f.name) c2.fields<0))&&c1.methods.all (zhl p k1 k2 c2)))∧Fr No Wz wr) (fun i _ _=>c1.fields.length-(intOf i).toNat)
 case atStart=>exact⟨0,Nat.zero_le _,rfl,rfl,hd0,Fr.refl _ _⟩
 case round=>
  clear hd0
  obtain⟨k,hk,rfl,rfl,hd,hf⟩:=hrel
  by_cases hlt:k<c1.fields.length
  ·obtain⟨b9,off,rfl,hX,q0,q1,q2,hz1,hz2⟩:=(hf1.keep (R':=FldC) (hwz.trans0 hf) zN (fun _ _ _ h=>h)).fld hlt
   have hbl:=lt_of_cell q0
   have HF:=fun W (hW:Fr No w W)=>HF c1.fields[k].name W hW
   rw[List.drop_eq_getElem_cons hlt,List.all_cons] at hd
   have hd:=Lib.hid hd
   have hrg:=zeS (zeT c1.fields[k].name) c2.fields
   clear hf1 hf2 hm1 hm2 HM HA
   generalize c1.fields[k]=f at *
   generalize ixOf (zeT f.name) c2.fields=ix at *
   by_cases h0:ix<0
   ·have HS:Hid (zlt c1 c2 (zhl p k1 k2 c2)=((c1.fields.drop (k+1)).all (fun f=>decide (ixOf (zeT f.name) c2.fields<0))&&c1.methods.all (zhl p k1 k2 c2))):=hd.out.out.trans (by rw[decide_eq_true h0];simp)
    clear hd
    go_wp2_with (go_at_call 110;refine(HF _ frc).mono ?_;rintro e w2 ⟨rfl,hf2⟩)
    go_roundw
    case rel=>exact⟨k+1,by omega,by go_num,rfl,HS,frc⟩
    case measure=>simp[intOf];omega
   ·have HS:Hid (zlt c1 c2 (zhl p k1 k2 c2)=false):=hd.out.out.trans (by rw[decide_eq_false h0];simp)
    clear hd
    go_wp2_with (go_at_call 110;refine(HF _ frc).mono ?_;rintro e w2 ⟨rfl,hf2⟩)
    go_ret
    exact .mk HS.out.symm frc
  ·have HS0:Hid (zlt c1 c2 (zhl p k1 k2 c2)=(c1.methods.drop 0).all (zhl p k1 k2 c2)):=hd.out.trans (by rw[List.drop_eq_nil_of_le (by omega)];rfl)
   clear hd hf1 hf2 HF
   have hwr:Fr No w wr:=hwz.trans0 hf
   go_wp2
   obtain⟨wy,rfl⟩:∃wy:World,wy=wr:=⟨_,rfl⟩
   go_loopw [37,6] (fun i r wq=>∃j:Nat,j≤c1.methods.length∧i=.int .i64 j∧r=.bool false∧Hid (zlt c1 c2 (zhl p k1 k2 c2)=(c1.methods.drop j).all (zhl p k1 k2 c2))∧Fr No Wz wq) (fun i _ _=>c1.methods.length-(intOf i).toNat)
   case atStart=>exact⟨0,Nat.zero_le _,rfl,rfl,HS0,hf⟩
   case round=>
    clear HS0 hf hwr
    obtain⟨j,hj,rfl,rfl,hd,hf⟩:=hrel
    by_cases hlj:j<c1.methods.length
    ·have hwr:Fr No w wr:=hwz.trans0 hf
     obtain⟨bm,om,Aam,cam,Acm,ccm,Axm,cxm,rfl,hXm,c0,c1',c2',c3,c4,c5,c6,c7,hr1,hr2,hr3,hr4,hr5,_,_,_,_,_,_⟩:=(hm1.keep (R':=MthC (fun b=>b=bl) wr) hwr zN (fun _ _ _ h=>h.keep hwr zN)).mth hlj
     have hRm:MthC (fun b=>b=bl) wr [.string c1.methods[j].name,.slice Aam c1.methods[j].args.length cam,.int .i64 c1.methods[j].ret.kind,.string c1.methods[j].ret.name,.int .i64 c1.methods[j].locals,.int .i64 c1.methods[j].stack,.slice Acm c1.methods[j].code.length ccm,.slice Axm c1.methods[j].maps.length cxm] c1.methods[j]:=⟨_,_,_,rfl,hr1,hr2,hr3,hr4,hr5⟩
     have lm:=lt_of_cell c0
     have HM:=fun W (hW:Fr No w W)=>HM c1.methods[j].name W hW
     have HAm:=fun W (hW:Fr No wr W)=>HA _ c1.methods[j] W (hwr.trans0 hW) (hRm.keep hW zN)
     rw[List.drop_eq_getElem_cons hlj,List.all_cons] at hd
     have hd:=Lib.hid hd
     have hrg:=zeS (zeU c1.methods[j].name) c2.methods
     clear hr1 hr2 hr4 hr5 hRm HA hm1
     generalize c1.methods[j]=m at *
     have KM:=(Bx.new wr 49 #[.string m.name,.slice Aam m.args.length cam,.int .i64 m.ret.kind,.string m.ret.name,.int .i64 m.locals,.int .i64 m.stack,.slice Acm m.code.length ccm,.slice Axm m.maps.length cxm]).r8
     by_cases h0:ixOf (zeU m.name) c2.methods<0
     ·have hov:zhl p k1 k2 c2 m=true:=by unfold zhl;rw[if_pos h0]
      have HS:Hid (zlt c1 c2 (zhl p k1 k2 c2)=(c1.methods.drop (j+1)).all (zhl p k1 k2 c2)):=hd.out.out.trans (by rw[hov,Bool.true_and])
      clear hd hm2 hov hr3 HAm
      generalize ixOf (zeU m.name) c2.methods=ix at *
      go_wp2_with (go_at_call 60;refine(HM _ frc).mono ?_;rintro e w2 ⟨rfl,hf2⟩)
      go_roundw
      case rel=>exact⟨j+1,by omega,by go_num,rfl,HS,frc⟩
      case measure=>simp[intOf];omega
     ·obtain⟨i,hi,hii⟩:∃(i:Nat) (_:i<c2.methods.length),ixOf (zeU m.name) c2.methods=(i:Int):=⟨(ixOf (zeU m.name) c2.methods).toNat,by omega,by omega⟩
      have hov:zhl p k1 k2 c2 m=(kEq m.ret c2.methods[i].ret&&ksEq m.args c2.methods[i].args&&zgM p k1 k2 m):=by
       unfold zhl
       rw[if_neg h0,hii]
       simp[List.getD,lz8 hi]
      obtain⟨bn,on,Aan,can,Acn,ccn,Axn,cxn,rfl,hXn,d0,d1,d2,d3,d4,d5,d6,d7,_,_,hs3,_,_,_,_,_,_,_,_⟩:=(hm2.keep (R':=MthC (fun b=>b=bl) wr) hwr zN (fun _ _ _ h=>h.keep hwr zN)).mth hi
      have HE:=fun W (hW:Fr No wr W)=>zgV _ _ _ _ m.args c2.methods[i].args W (hr3.k0 hW) (hs3.k0 hW)
      rw[hii] at HM
      have hcm:i<c2.methods.length:=hi
      have hk0:(0:Int)≤(i:Int):=by omega
      have hki:(i:Int)<(c2.methods.length:Int):=by omega
      clear hm2 hr3 hs3 hii h0 hrg
      replace hov:=Lib.hid hov
      generalize c2.methods[i]=n2 at *
      replace d0:=cr d0
      replace d1:=cr d1
      replace d2:=cr d2
      replace d3:=cr d3
      replace d4:=cr d4
      replace d5:=cr d5
      replace d6:=cr d6
      replace d7:=cr d7
      have hcase:(m.ret.kind == n2.ret.kind)=false∨((m.ret.kind == n2.ret.kind)=true∧(m.ret.name.toList == n2.ret.name.toList)=false)∨((m.ret.kind == n2.ret.kind)=true∧(m.ret.name.toList == n2.ret.name.toList)=true∧ksEq m.args n2.args=false) ∨
        ((m.ret.kind == n2.ret.kind)=true∧(m.ret.name.toList == n2.ret.name.toList)=true∧ksEq m.args n2.args=true∧zgM p k1 k2 m=false)∨((m.ret.kind == n2.ret.kind)=true∧(m.ret.name.toList == n2.ret.name.toList)=true∧ksEq m.args n2.args=true∧zgM p k1 k2 m=true):=by
       cases(m.ret.kind == n2.ret.kind)<;>cases(m.ret.name.toList == n2.ret.name.toList)<;>cases ksEq m.args n2.args<;>cases zgM p k1 k2 m<;>simp
      rcases hcase with g1 | ⟨g1,g2⟩ | ⟨g1,g2,g3⟩ | ⟨g1,g2,g3,g4⟩ | ⟨g1,g2,g3,g4⟩
      all_goals
       have g5:Hid (zhl p k1 k2 c2 m=(kEq m.ret n2.ret&&ksEq m.args n2.args&&zgM p k1 k2 m)):=hov.out
       unfold kEq at g5
      ·have HS:Hid (zlt c1 c2 (zhl p k1 k2 c2)=false):=hd.out.out.trans (by rw[g5.out,g1];simp)
       have g6:(m.ret.kind != n2.ret.kind)=true:=by rw[bne,g1];rfl
       clear hd hov g5
       go_wp2_with (first
        | (go_at_call 60;refine(HM _ frc).mono ?_;rintro e w2 ⟨rfl,hf2⟩;obtain⟨p2,z2⟩:Fr No wr w2∧Fr No Wz w2:=⟨frc,frc⟩)
        | (go_at_call 111;refine(HE _ frc).mono ?_;rintro e w3 ⟨rfl,hf3⟩;have k3:=KM w3 frc;obtain⟨p3,z3⟩:Fr No wr w3∧Fr No Wz w3:=⟨frc,frc⟩;have sz3:=hf3.size)
        | (go_at_call 49;refine(HAm _ frc).mono ?_;rintro e w4 ⟨rfl,hf4⟩))
       go_ret
       exact .mk HS.out.symm frc
      ·have HS:Hid (zlt c1 c2 (zhl p k1 k2 c2)=false):=hd.out.out.trans (by rw[g5.out,g2];simp)
       have g6:(m.ret.kind != n2.ret.kind)=false:=by rw[bne,g1];rfl
       have g7:(m.ret.name.toList != n2.ret.name.toList)=true:=by rw[bne,g2];rfl
       clear hd hov g5
       go_wp2_with (first
        | (go_at_call 60;refine(HM _ frc).mono ?_;rintro e w2 ⟨rfl,hf2⟩;obtain⟨p2,z2⟩:Fr No wr w2∧Fr No Wz w2:=⟨frc,frc⟩)
        | (go_at_call 111;refine(HE _ frc).mono ?_;rintro e w3 ⟨rfl,hf3⟩;have k3:=KM w3 frc;obtain⟨p3,z3⟩:Fr No wr w3∧Fr No Wz w3:=⟨frc,frc⟩;have sz3:=hf3.size)
        | (go_at_call 49;refine(HAm _ frc).mono ?_;rintro e w4 ⟨rfl,hf4⟩))
       go_ret
       exact .mk HS.out.symm frc
      all_goals
       have g6:(m.ret.kind != n2.ret.kind)=false:=by rw[bne,g1];rfl
       have g7:(m.ret.name.toList != n2.ret.name.toList)=false:=by rw[bne,g2];rfl
       rw[g3] at HE
      ·have HS:Hid (zlt c1 c2 (zhl p k1 k2 c2)=false):=hd.out.out.trans (by rw[g5.out,g3];simp)
       clear hd hov g5 g3
       go_wp2_with (first
        | (go_at_call 60;refine(HM _ frc).mono ?_;rintro e w2 ⟨rfl,hf2⟩;obtain⟨p2,z2⟩:Fr No wr w2∧Fr No Wz w2:=⟨frc,frc⟩)
        | (go_at_call 111;refine(HE _ frc).mono ?_;rintro e w3 ⟨rfl,hf3⟩;have k3:=KM w3 frc;obtain⟨p3,z3⟩:Fr No wr w3∧Fr No Wz w3:=⟨frc,frc⟩;have sz3:=hf3.size)
        | (go_at_call 49;refine(HAm _ frc).mono ?_;rintro e w4 ⟨rfl,hf4⟩))
       go_ret
       exact .mk HS.out.symm frc
      ·rw[g4] at HAm
       have HS:Hid (zlt c1 c2 (zhl p k1 k2 c2)=false):=hd.out.out.trans (by rw[g5.out,g4];simp)
       clear hd hov g5 g3 g4
       go_wp2_with (first
        | (go_at_call 60;refine(HM _ frc).mono ?_;rintro e w2 ⟨rfl,hf2⟩;obtain⟨p2,z2⟩:Fr No wr w2∧Fr No Wz w2:=⟨frc,frc⟩)
        | (go_at_call 111;refine(HE _ frc).mono ?_;rintro e w3 ⟨rfl,hf3⟩;have k3:=KM w3 frc;obtain⟨p3,z3⟩:Fr No wr w3∧Fr No Wz w3:=⟨frc,frc⟩;have sz3:=hf3.size)
        | (go_at_call 49;refine(HAm _ frc).mono ?_;rintro e w4 ⟨rfl,hf4⟩))
       go_ret
       exact .mk HS.out.symm frc
      ·rw[g4] at HAm
       have HS:Hid (zlt c1 c2 (zhl p k1 k2 c2)=(c1.methods.drop (j+1)).all (zhl p k1 k2 c2)):=hd.out.out.trans (by rw[g5.out,g1,g2,g3,g4];simp)
       clear hd hov g5 g3 g4
       go_wp2_with (first
        | (go_at_call 60;refine(HM _ frc).mono ?_;rintro e w2 ⟨rfl,hf2⟩;obtain⟨p2,z2⟩:Fr No wr w2∧Fr No Wz w2:=⟨frc,frc⟩)
        | (go_at_call 111;refine(HE _ frc).mono ?_;rintro e w3 ⟨rfl,hf3⟩;have k3:=KM w3 frc;obtain⟨p3,z3⟩:Fr No wr w3∧Fr No Wz w3:=⟨frc,frc⟩;have sz3:=hf3.size)
        | (go_at_call 49;refine(HAm _ frc).mono ?_;rintro e w4 ⟨rfl,hf4⟩))
       go_roundw
       case rel=>exact⟨j+1,by omega,by go_num,rfl,HS,frc⟩
       case measure=>simp[intOf];omega
    ·have HS:Hid (zlt c1 c2 (zhl p k1 k2 c2)=true):=hd.out.trans (by rw[List.drop_eq_nil_of_le (by omega)];rfl)
     clear hd hm1 hm2 HM HA
     go_wp2
     go_ret
     exact .mk HS.out.symm frc
theorem Sl.dropc {α:Type} {X:Nat->Prop} {w:World} {sz:Nat} {R:List Value->α->Prop} {b off n cap k:Nat} {xs:List α} (h:Sl X w sz R (.slice (some ⟨b,off,none⟩) n cap) xs) (hk:k≤xs.length):
  Sl X w sz R (.slice (some ⟨b,off+k * sz,none⟩) (n-k) (cap-k)) (xs.drop k):=by
 rcases Nat.lt_or_ge k xs.length with hlt|hge
 ·exact h.drop hlt
 ·obtain⟨A',cap',he,h1,h2,h3⟩:=h
  simp only[Value.slice.injEq] at he
  obtain⟨_,rfl,rfl⟩:=he
  rw[List.drop_eq_nil_of_le hge]
  exact⟨_,_,by rw[show xs.length-k=0 by omega];rfl,by simp,by simp,fun h=>absurd h (by simp)⟩
theorem zjm (Y:Nat->Prop) (l bl n:Nat) (p:Plan) (g:Int->Str->Option Int) (u:Value) (rs:List Ref) (w:World) (h:zgF w l bl n p g) (hu:Sl Y w 2 RefC u rs) (hall:zhb p rs):
  Calls Tryz.prog 69 #[.pointer (some ⟨l,0,none⟩),u] w (zgm (zhn p rs) w):=by
 obtain⟨A,cap,rfl,hcap,hlen⟩:=hu.form
 unfold maxLen at hlen
 go_enter Tryz.func69,Tryz.ntmps69
 go_wp2
 go_loopw [11,4] (fun i r wr=>∃k:Nat,k≤rs.length∧i=.int .i64 k∧r=.bool false∧Hid (zhn p rs=zhn p (rs.drop k))∧Fr No w wr) (fun i _ _=>rs.length-(intOf i).toNat)
 case atStart=>exact⟨0,Nat.zero_le _,rfl,rfl,rfl,Fr.refl _ _⟩
 case round=>
  obtain⟨k,hk,rfl,rfl,hd,hw⟩:=hrel
  by_cases hlt:k<rs.length
  ·have huw:=hu.k0 hw
   obtain⟨b,off,rfl,_,c0,c1,hs1⟩:=huw.ref hlt
   have hbl:=lt_of_cell c0
   obtain⟨_,k1,i1,hh1⟩:=hall _ (List.getElem_mem hlt)
   rw[List.drop_eq_getElem_cons hlt,zhn] at hd
   have hd:=Lib.hid hd
   have hall2:=hall.drop (k+1)
   by_cases hc:k+1=cap
   ·have hnil:rs.drop (k+1)=[]:=List.drop_eq_nil_of_le (by omega)
    have HS:Hid (zhn p rs=zhn p (rs.drop (k+1))):=hd.out.out.trans (by rw[hnil];rfl)
    have hle:rs.length-(k+1)=0:=by omega
    clear hd hall hall2 hu huw h hnil
    generalize rs[k]=r at *
    obtain⟨rk,s1⟩:=r
    go_wp2
    obtain⟨wz,hwz⟩:∃wz:World,wz=(wr.alloc (.cells #[.int .i64 rk,.string s1] 29)):=⟨_,rfl⟩
    have hwz':Fr No w wz:=hwz▸hw.alloc _
    rw[<-hwz]
    clear hwz
    go_loopw [21,4] (fun i r wq=>i=.int .i64 0∧r=.bool false∧Fr No w wq) (fun i _ _=>0)
    case atStart=>exact⟨rfl,rfl,hwz'⟩
    case round=>
     obtain⟨rfl,rfl,hq⟩:=hrel
     go_wp2
     go_roundw
     case rel=>exact⟨k+1,by omega,by go_num,rfl,HS,hq⟩
     case measure=>simp[intOf];omega
   ·have hdr:Sl Y wr 2 RefC (.slice (some ⟨b,off+(k+1) * 2,none⟩) (rs.length-(k+1)) (cap-(k+1))) (rs.drop (k+1)):=Sl.dropc huw (by omega)
    have hlen2:(rs.drop (k+1)).length=rs.length-(k+1):=List.length_drop
    clear hu huw hall
    generalize hxs:rs.drop (k+1)=xs at *
    replace hxs:=Lib.hid hxs
    generalize rs[k]=r at *
    obtain⟨rk,s1⟩:=r
    obtain rfl:rk=(k1:Int):=hh1.1
    have hd0:Hid (zhn p rs=(xs.all (zhm p ⟨k1,s1⟩)&&zhn p xs)):=hd.out.out
    clear hd
    dsimp only at hs1
    go_wp2
    rw[<-hlen2]
    have hlx:xs.length≤9223372036854775807:=by omega
    replace hlen2:=Lib.hid hlen2
    obtain⟨wz,hwz⟩:∃wz:World,wz=(wr.alloc (.cells #[.int .i64 k1,.string s1] 29)):=⟨_,rfl⟩
    have hwz':Fr No wr wz:=hwz▸(Fr.refl No wr).alloc _
    have hK:Bx wz wr.heap.size 29 #[.int .i64 k1,.string s1]:=hwz▸Bx.new_ rfl
    rw[<-hwz]
    clear hwz
    have K:=hK.r2
    have hdrz:=hdr.k0 hwz'
    clear hdr c0 c1 hbl
    go_loopw [21,4] (fun i r wq=>∃j:Nat,j≤xs.length∧i=.int .i64 j∧r=.bool false∧Hid (zhn p rs=((xs.drop j).all (zhm p ⟨k1,s1⟩)&&zhn p xs))∧Fr No wz wq) (fun i _ _=>xs.length-(intOf i).toNat)
    case atStart=>exact⟨0,Nat.zero_le _,rfl,rfl,hd0,Fr.refl _ _⟩
    case round=>
     clear hd0
     obtain⟨j,hj,rfl,rfl,hd,hq⟩:=hrel
     by_cases hlj:j<xs.length
     ·obtain⟨b2,off2,he,_,d0,d1,hs2⟩:=(hdrz.k0 hq).ref hlj
      simp only[Option.some.injEq,Addr.mk.injEq,and_true] at he
      obtain⟨rfl,rfl⟩:=he
      have hbl:=lt_of_cell d0
      obtain⟨_,k2,i2,hh2⟩:=hall2 _ (List.getElem_mem hlj)
      rw[List.drop_eq_getElem_cons hlj,List.all_cons] at hd
      have hd:=Lib.hid hd
      clear hdrz hall2
      generalize xs[j]=r2 at *
      obtain⟨rk2,s2⟩:=r2
      obtain rfl:rk2=(k2:Int):=hh2.1
      dsimp only at hs2
      have HP:=fun W (hW:Fr No wr W)=>zlu l bl n p g k1 i1 k2 i2 s1 s2 W (h.keep (((hw.trans0 hwz').trans0 hq).trans0 hW)) hh1 hh2 hs1 hs2
      clear h hh1 hh2
      cases hp:zhm p ⟨k1,s1⟩ ⟨k2,s2⟩
      all_goals
       rw[hp] at HP
       have hp:=Lib.hid hp
      ·have HS:Hid (zhn p rs=false):=hd.out.out.trans (by rw[hp.out];simp)
       clear hd hp
       go_wp2_with (go_at_call 96;refine(HP _ frc).mono ?_;rintro e w2 ⟨rfl,hf2⟩)
       go_ret;exact .mk HS.out.symm frc
      ·have HS:Hid (zhn p rs=((xs.drop (j+1)).all (zhm p ⟨k1,s1⟩)&&zhn p xs)):=hd.out.out.trans (by rw[hp.out];simp)
       clear hd hp
       go_wp2_with (go_at_call 96;refine(HP _ frc).mono ?_;rintro e w2 ⟨rfl,hf2⟩)
       go_roundw
       case rel=>exact⟨j+1,by omega,by go_num,rfl,HS,frc⟩
       case measure=>simp[intOf];omega
     ·have HS:Hid (zhn p rs=zhn p xs):=hd.out.trans (by rw[List.drop_eq_nil_of_le (by omega)];rfl)
      clear h hd hdrz
      go_wp2
      go_roundw
      case rel=>exact⟨k+1,by omega,by go_num,rfl,by have:=HS.out;rwa [<-hxs.out] at this,frc⟩
      case measure=>simp[intOf];omega
  ·have HS:Hid (zhn p rs=true):=by have:=hd.out;rwa [List.drop_eq_nil_of_le (by omega)] at this
   clear h hd hu
   go_wp2
   go_ret;exact .mk HS.out.symm frc
def Right (p:Plan) (g:Int->Str->Option Int):Prop:=∀k s v,g k s=some v->v=if canB p ⟨k,s⟩ then 1 else 2
def Lg (w:World) (l bl n:Nat) (p:Plan):Prop:=∃g,zgF w l bl n p g∧Right p g
theorem Lg.keep {w w':World} {l bl n:Nat} {p:Plan} (h:Lg w l bl n p) (hf:Fr No w w'):Lg w' l bl n p:=let ⟨g,h1,h2⟩:=h;⟨g,h1.keep hf,h2⟩
theorem Lg.ok {w:World} {l bl n:Nat} {p:Plan} (h:Lg w l bl n p):lodB p=true:=let ⟨_,h1,_⟩:=h;h1.1
def zjn (p:Plan) (r:Ref) (l bl n:Nat) (w:World) (e:Ending) (w':World):Prop:=
 e=.returned (.bool (canB p r))∧Fr (fun b=>b=bl) w w'∧Lg w' l bl (n+1) p
theorem zjn.mk {p:Plan} {r:Ref} {l bl n:Nat} {w w':World} {b:Bool} (hb:canB p r=b) (hf:Fr (fun b=>b=bl) w w') (hl:Lg w' l bl (n+1) p):zjn p r l bl n w (.returned (.bool b)) w':=⟨by rw[hb],hf,hl⟩
theorem Right.put {p:Plan} {g:Int->Str->Option Int} {r:Ref} {v:Int} (h:Right p g) (hv:v=if canB p r then 1 else 2):Right p (upd g r.keeper r.name v):=fun k s u hu=>by
 unfold upd at hu
 by_cases hks:k=r.keeper∧s=r.name
 ·rw[if_pos hks] at hu
  obtain⟨rfl,rfl⟩:=hks
  cases hu
  exact hv
 ·rw[if_neg hks] at hu
  exact h k s u hu
theorem zgF.mono {w:World} {l bl n m:Nat} {p:Plan} {g:Int->Str->Option Int} (h:zgF w l bl n p g) (hm:n≤m):zgF w l bl m p g:=by
 obtain⟨h0,A,cap,bo,ba,h1,h2,h3,h4,h5,h6,h7,h8⟩:=h
 exact⟨h0,A,cap,bo,ba,h1,h2,h3,h4,h5,h6,h7,h8.mono hm⟩
theorem zgF.put {w w':World} {l bl n m:Nat} {p:Plan} {g g':Int->Str->Option Int} (h:zgF w l bl n p g) (hf:Fr (fun b=>b=bl) w w') (hM:MapF w' bl m g'):zgF w' l bl m p g':=by
 obtain⟨h0,A,cap,bo,ba,h1,h2,h3,h4,h5,h6,h7,h8⟩:=h
 exact⟨h0,A,cap,bo,ba,h1.keepX hf h2,h2,h3,h4,h5.keep hf (fun _ h=>h) (fun _ _ _ h=>h.keep hf (fun _ h=>h)),h6.keepX hf h3,h7.keepX hf h4,hM⟩
theorem zjo (l bl n:Nat) (p:Plan) (r:Ref) (w:World) (h:Lg w l bl n p) (hs:r.name.size≤maxLen) (wk:(Lit.int .i64 r.keeper).wf=true) (hn:n<1000000):
  Calls Tryz.prog 42 #[.pointer (some ⟨l,0,none⟩),.agg #[.int .i64 r.keeper,.string r.name]] w (zjn p r l bl n w):=by
 obtain⟨g,h,hg⟩:=h
 obtain⟨rk,rn⟩:=r
 dsimp only at hs wk
 obtain⟨wA,hwA⟩:∃wA,wA=(w.alloc (.cells #[.int .i64 rk,.string rn] 29)):=⟨_,rfl⟩
 have hfA:Fr No w wA:=hwA▸(Fr.refl No w).alloc _
 have K0:=(hwA▸Bx.new w 29 #[.int .i64 rk,.string rn]:Bx wA w.heap.size _ _).r2
 have HC:=fun W (hW:Fr No wA W)=>zmI l bl n p g ⟨rk,rn⟩ W ((h.keep hfA).keep hW) hs
 have HL:=fun u W (hW:Fr No wA W) hu=>zjm No l bl n p g u (zmF p ⟨rk,rn⟩) W ((h.keep hfA).keep hW) hu (zhj h.1 _)
 have hcan:canB p ⟨rk,rn⟩=(!(zmF p ⟨rk,rn⟩).isEmpty&&zhn p (zmF p ⟨rk,rn⟩)):=rfl
 have hL:=h.keep hfA
 have hL0:=h
 have h':=hL
 obtain⟨_,A,cap,bo,ba,hB,hne1,hne2,hne3,hP,hO,hA,hM⟩:=h'
 have KB:=hB.r4
 have hlook:=fun W (hW:Fr No wA W)=>(hM.keep hW).look wk hs
 clear hB hP hO hA h
 cases hgk:g rk rn with
 | some v=>
  have hv:=hg rk rn v hgk
  rw[hgk] at hlook
  dsimp only[Option.getD_some] at hlook
  clear HC HL hcan hM hgk
  cases hc:canB p ⟨rk,rn⟩
  all_goals
   rw[hc] at hv
   simp only[Bool.false_eq_true,if_true,if_false] at hv
   subst hv
   replace hc:=Lib.hid hc
   go_enter Tryz.func42,Tryz.ntmps42
   go_wp2_with fail
   rw[<-hwA]
   replace hwA:=Lib.hid hwA
   (refine zgc (X:=No) (by kernel_rfl) (by kernel_rfl) ?_)
   (repeat((first|go_big_quiet_skip|(go_big_quiet_want;(apply Exists.intro;refine⟨fun W hW=>?_,?_⟩);(focus (exact fqc));go_big_quiet_on));(try simp only[Act.put,lz0,lz1,lz2])));refine wpQuiet_nil ?_
   intro w1 hf1
   clear hlook
   go_wp2
   go_ret
   exact .mk hc.out (hfA.trans0 hf1).of0 ⟨g,(hL.keep hf1).mono (by omega),hg⟩
 | none=>
  rw[hgk] at hlook
  dsimp only[Option.getD_none] at hlook
  clear hgk
  have hcase:(canB p ⟨rk,rn⟩=false∧(zmF p ⟨rk,rn⟩).length=0)∨(canB p ⟨rk,rn⟩=false∧0<(zmF p ⟨rk,rn⟩).length∧zhn p (zmF p ⟨rk,rn⟩)=false)∨(canB p ⟨rk,rn⟩=true∧0<(zmF p ⟨rk,rn⟩).length∧zhn p (zmF p ⟨rk,rn⟩)=true):=by
   rw[hcan]
   cases zmF p ⟨rk,rn⟩ with
   | nil=>exact .inl ⟨rfl,rfl⟩
   | cons a as'=>
    cases zhn p (a :: as')
    ·exact .inr (.inl ⟨rfl,by simp,rfl⟩)
    ·exact .inr (.inr ⟨rfl,by simp,rfl⟩)
  clear hcan
  generalize zmF p ⟨rk,rn⟩=xs at *
  generalize zhn p xs=ok at *
  have hput:=fun v (hv:v=if canB p ⟨rk,rn⟩ then 1 else 2)=>hg.put (r:=⟨rk,rn⟩) hv
  have hend:=fun W w3 (v:Int) (hW:Fr No wA W) (hM3:MapF w3 bl (n+1) (upd g rk rn v)) (hg3:W.grownBy w3 (some bl)) (hv:v=if canB p ⟨rk,rn⟩ then 1 else 2)=>
   (have hf3:Fr (fun b=>b=bl) wA w3:=Fr.grown (hW.of0) hg3 (fun q e=>.inr (by cases e;rfl))
   (⟨hf3,⟨_,hL.put hf3 hM3,hput v hv⟩⟩:Fr (fun b=>b=bl) wA w3∧Lg w3 l bl (n+1) p))
  clear hL hL0 hput
  rcases hcase with ⟨hc,hl0⟩ | ⟨hc,hl0,hok⟩ | ⟨hc,hl0,hok⟩
  ·rw[hc] at hend
   simp only[Bool.false_eq_true,if_false] at hend
   replace hc:=Lib.hid hc
   obtain rfl:xs=[]:=List.length_eq_zero_iff.1 hl0
   clear hl0 HL
   go_enter Tryz.func42,Tryz.ntmps42
   go_wp2_with fail
   rw[<-hwA]
   replace hwA:=Lib.hid hwA
   (refine zgc (X:=No) (by kernel_rfl) (by kernel_rfl) ?_)
   (repeat((first|go_big_quiet_skip|(go_big_quiet_want;(apply Exists.intro;refine⟨fun W hW=>?_,?_⟩);(focus (exact fqc));go_big_quiet_on));(try simp only[Act.put,lz0,lz1,lz2])));refine wpQuiet_nil ?_
   intro w1 hf1
   clear hlook
   go_wp2_with (go_at_call 43;refine(HC _ hf1).mono ?_;rintro e w2 ⟨v2,rfl,hsl,hf2⟩;obtain⟨A2,c2,rfl,_,_⟩:=hsl.form;have q2:Fr No wA w2:=frc)
   go_still_tail 5,(by kernel_rfl)
   refine zb2 rfl _ _ _ rfl rfl ((hM.keep q2).keep (Fr.drew (Fr.refl No _))) (by unfold maxLen;omega) rfl rfl wk hs (by decide) ?_
   intro w9 hM9 hg9
   obtain⟨hf9,hLg⟩:=hend _ w9 2 q2.drew hM9 hg9 rfl
   go_frame
   go_wp2
   go_ret
   exact .mk hc.out (hfA.of0.same hf9) hLg
  ·rw[hc] at hend
   simp only[Bool.false_eq_true,if_false] at hend
   subst hok
   have hl1:((xs.length:Int) == 0)=false:=by simp;intro h;subst h;simp at hl0
   replace hc:=Lib.hid hc
   go_enter Tryz.func42,Tryz.ntmps42
   go_wp2_with fail
   rw[<-hwA]
   replace hwA:=Lib.hid hwA
   (refine zgc (X:=No) (by kernel_rfl) (by kernel_rfl) ?_)
   (repeat((first|go_big_quiet_skip|(go_big_quiet_want;(apply Exists.intro;refine⟨fun W hW=>?_,?_⟩);(focus (exact fqc));go_big_quiet_on));(try simp only[Act.put,lz0,lz1,lz2])));refine wpQuiet_nil ?_
   intro w1 hf1
   clear hlook
   go_wp2_with (first
    | (go_at_call 43;refine(HC _ hf1).mono ?_;rintro e w2 ⟨v2,rfl,hsl,hf2⟩;obtain⟨A2,c2,rfl,_,hm2⟩:=hsl.form;unfold maxLen at hm2;have q2:Fr No wA w2:=frc;have HL2:=HL _ w2 q2 hsl)
    | (go_at_call 69;refine HL2.mono ?_;rintro e w3 ⟨rfl,hf3⟩;have q3:Fr No wA w3:=frc))
   go_still_tail 5,(by kernel_rfl)
   refine zb2 rfl _ _ _ rfl rfl ((hM.keep q3).keep (Fr.drew (Fr.refl No _))) (by unfold maxLen;omega) rfl rfl wk hs (by decide) ?_
   intro w9 hM9 hg9
   obtain⟨hf9,hLg⟩:=hend _ w9 2 q3.drew hM9 hg9 rfl
   go_frame
   go_wp2
   go_ret
   exact .mk hc.out (hfA.of0.same hf9) hLg
  ·rw[hc] at hend
   simp only[if_true] at hend
   subst hok
   have hl1:((xs.length:Int) == 0)=false:=by simp;intro h;subst h;simp at hl0
   replace hc:=Lib.hid hc
   go_enter Tryz.func42,Tryz.ntmps42
   go_wp2_with fail
   rw[<-hwA]
   replace hwA:=Lib.hid hwA
   (refine zgc (X:=No) (by kernel_rfl) (by kernel_rfl) ?_)
   (repeat((first|go_big_quiet_skip|(go_big_quiet_want;(apply Exists.intro;refine⟨fun W hW=>?_,?_⟩);(focus (exact fqc));go_big_quiet_on));(try simp only[Act.put,lz0,lz1,lz2])));refine wpQuiet_nil ?_
   intro w1 hf1
   clear hlook
   go_wp2_with (first
    | (go_at_call 43;refine(HC _ hf1).mono ?_;rintro e w2 ⟨v2,rfl,hsl,hf2⟩;obtain⟨A2,c2,rfl,_,hm2⟩:=hsl.form;unfold maxLen at hm2;have q2:Fr No wA w2:=frc;have HL2:=HL _ w2 q2 hsl)
    | (go_at_call 69;refine HL2.mono ?_;rintro e w3 ⟨rfl,hf3⟩;have q3:Fr No wA w3:=frc))
   go_still_tail 5,(by kernel_rfl)
   refine zb2 rfl _ _ _ rfl rfl ((hM.keep q3).keep (Fr.drew (Fr.refl No _))) (by unfold maxLen;omega) rfl rfl wk hs (by decide) ?_
   intro w9 hM9 hg9
   obtain⟨hf9,hLg⟩:=hend _ w9 1 q3.drew hM9 hg9 rfl
   go_frame
   go_wp2
   go_ret
   exact .mk hc.out (hfA.of0.same hf9) hLg
theorem Sl.oldX {α:Type} {X:Nat->Prop} {w:World} {sz:Nat} {R R':List Value->α->Prop} {v:Value} {xs:List α} (h:Sl X w sz R v xs) (hsz:0<sz) (hR:∀cs x,x∈xs->R cs x->R' cs x):Sl (fun b=>X b∨w.heap.size≤b) w sz R' v xs:=by
 obtain⟨A,cap,rfl,h1,h2,h3⟩:=h
 refine⟨A,cap,rfl,h1,h2,fun h0=>?_⟩
 obtain⟨b,off,rfl,hX,hc⟩:=h3 h0
 refine⟨b,off,rfl,?_,fun k hk=>?_⟩
 ·obtain⟨cs,_,hl,hcs⟩:=hc 0 h0
  have hv:cs[0]? =some (cs[0]'(by omega)):=lz8 (by omega)
  have:=hcs 0 hsz
  rw[hv] at this
  have:=lt_of_cell this
  rintro(h|h)
  ·exact hX h
  ·omega
 ·obtain⟨cs,hRc,hl,hcs⟩:=hc k hk
  exact⟨cs,hR cs _ (List.getElem_mem hk) hRc,hl,hcs⟩
section
variable {X:Nat->Prop} {w:World} {cs:List Value}
theorem MapC.oldX {m:Mp} (h:MapC X w cs m):MapC (fun b=>X b∨w.heap.size≤b) w cs m:=by
 obtain⟨vl,vs,rfl,h1,h2⟩:=h
 exact⟨vl,vs,rfl,h1.oldX (by decide) (fun _ _ _ h=>h),h2.oldX (by decide) (fun _ _ _ h=>h)⟩
theorem MthC.oldX {m:Mth} (h:MthC X w cs m):MthC (fun b=>X b∨w.heap.size≤b) w cs m:=by
 obtain⟨va,vc,vm,rfl,h1,h2,h3,h4,h5⟩:=h
 exact⟨va,vc,vm,rfl,h1,h2,h3.oldX (by decide) (fun _ _ _ h=>h),h4.oldX (by decide) (fun _ _ _ h=>h),h5.oldX (by decide) (fun _ _ _ h=>h.oldX)⟩
theorem ClsC.oldX {c:Cls} (h:ClsC X w cs c):ClsC (fun b=>X b∨w.heap.size≤b) w cs c:=by
 obtain⟨vf,vm,rfl,h1,h2,h3,h4⟩:=h
 exact⟨vf,vm,rfl,h1,h2,h3.oldX (by decide) (fun _ _ _ h=>h),h4.oldX (by decide) (fun _ _ _ h=>h.oldX)⟩
theorem KprC.oldX {k:Kpr} (h:KprC X w cs k):KprC (fun b=>X b∨w.heap.size≤b) w cs k:=by
 obtain⟨vo,va,rfl,h1,h2⟩:=h
 exact⟨vo,va,rfl,h1.oldX (by decide) (fun _ _ _ h=>h.oldX),h2.oldX (by decide) (fun _ _ _ h=>h)⟩
end
theorem zgF.over {w w1 w':World} {l bl n m:Nat} {p:Plan} {g g1:Int->Str->Option Int} (h:zgF w l bl n p g) (h1:zgF w1 l bl m p g1) (hf:Fr (fun b=>b=bl) w w1) (hf':Fr (fun b=>w.heap.size≤b) w1 w'):zgF w' l bl m p g1:=by
 obtain⟨h0,A,cap,bo,ba,k1,k2,k3,k4,k5,k6,k7,k8⟩:=h
 obtain⟨_,_,_,_,_,_,_,_,_,_,_,_,q8⟩:=h1
 have hb:=k8.lt
 have F:Fr (fun b=>b=bl∨w.heap.size≤b) w w':=⟨hf'.os.trans hf.os,hf'.tape.trans hf.tape,hf'.output.trans hf.output,Nat.le_trans hf.size hf'.size,fun b hb hn=>
  (hf'.block b (Nat.lt_of_lt_of_le hb hf.size) (fun h=>hn (.inr h))).trans (hf.block b hb (fun h=>hn (.inl h)))⟩
 have nb:∀b,b<w.heap.size->b≠bl->¬(b=bl∨w.heap.size≤b):=fun b h1 h2 h=>by rcases h with h|h<;>omega
 refine⟨h0,A,cap,bo,ba,k1.keepX F (nb l k1.lt k2),k2,k3,k4,?_,k6.keepX F (nb bo k6.lt k3),k7.keepX F (nb ba k7.lt k4),q8.keepX hf' (by omega)⟩
 have k5':=((k5.oldX (R':=KprC (fun b=>b=bl∨w.heap.size≤b) w) (by decide) (fun _ _ _ h=>h.oldX)).keep (R':=KprC (fun b=>b=bl∨w.heap.size≤b) w') F (fun _ h=>h) (fun _ _ _ h=>h.keep F (fun _ h=>h)))
 exact k5'.weaken (fun _ h=>.inl h) (fun _ _ _ h=>h.weaken (fun _ h=>.inl h))
theorem Lg.over {w w1 w':World} {l bl n m:Nat} {p:Plan} (h:Lg w l bl n p) (h1:Lg w1 l bl m p) (hf:Fr (fun b=>b=bl) w w1) (hf':Fr (fun b=>w.heap.size≤b) w1 w'):Lg w' l bl m p:=by
 obtain⟨g,h,_⟩:=h
 obtain⟨g1,h1,h2⟩:=h1
 exact⟨g1,h.over h1 hf hf',h2⟩
theorem Lg.mono {w:World} {l bl n m:Nat} {p:Plan} (h:Lg w l bl n p) (hm:n≤m):Lg w l bl m p:=let ⟨g,h1,h2⟩:=h;⟨g,h1.mono hm,h2⟩
theorem Lg.lt {w:World} {l bl n:Nat} {p:Plan} (h:Lg w l bl n p):bl<w.heap.size:=by
 obtain⟨g,⟨_,A,cap,bo,ba,_,_,_,_,_,_,_,hM⟩,_⟩:=h
 exact hM.lt
theorem zjq {l bl n:Nat} {p:Plan} {g:Int->Str->Option Int} {k i:Nat} {s:Str} {w:World} (h:zgF w l bl n p g) (hh:Here p ⟨k,s⟩ k i) (hs:s.size≤maxLen):
  ∃Af cf Am cm,ClsC (fun b=>b=bl) w [.string (zbG p ⟨k,s⟩).name,.string (zbG p ⟨k,s⟩).super,.slice Af (zbG p ⟨k,s⟩).fields.length cf,.slice Am (zbG p ⟨k,s⟩).methods.length cm] (zbG p ⟨k,s⟩) ∧
   ∀W,Fr No w W->Calls Tryz.prog 61 #[.pointer (some ⟨l,0,none⟩),.agg #[.int .i64 k,.string s]] W (Gives (.agg #[.string (zbG p ⟨k,s⟩).name,.string (zbG p ⟨k,s⟩).super,.slice Af (zbG p ⟨k,s⟩).fields.length cf,.slice Am (zbG p ⟨k,s⟩).methods.length cm]) W):=by
 obtain⟨Af,cf,Am,cm,hR,HC⟩:=zbd l bl n p g k s i w h hh.2.1 hs (zbC p k) rfl hh.2.2.1 hh.2.2.2
 rw[<-hh.cls] at hR HC
 exact⟨Af,cf,Am,cm,hR,HC⟩
def zjr (o:Option (Ref×Int)) (p:Plan) (l bl n:Nat) (w:World) (e:Ending) (w':World):Prop:=
 e=.returned (zku o)∧Fr (fun b=>b=bl) w w'∧Lg w' l bl n p
theorem zjr.mk {o:Option (Ref×Int)} {p:Plan} {l bl n:Nat} {w w':World} {v:Value} (hv:zku o=v) (hf:Fr (fun b=>b=bl) w w') (hl:Lg w' l bl n p):zjr o p l bl n w (.returned v) w':=⟨by rw[hv],hf,hl⟩
end Go.Proofs.YtbfmeklfpackjaaGreatDoor
