/- The program's own checks of names, kinds, tags, instructions, methods and classes return what the functions namB .. clsB say, and leave memory as it was. -/
import Derived.Test.YtpghfhjhjlmljaaGreatPG1
import Derived.Test.YtpghfhjhjlmljaaGreatRows
import Derived.WalkSpells
import Derived.WalkLawsBesides
import Derived.BigQuiet
import Derived.Deep.QuietTactic
import Derived.Deep.RegionWith
import Derived.Deep.RegionHeld3
set_option maxHeartbeats 1000000
set_option maxRecDepth 100000
namespace Go.Proofs.YtpghfhjhjlmljaaGreat
open Go.RowKit
def lower (c:UInt8):Bool:=!(decide ((c.toNat:Int)<97) || decide (122<(c.toNat:Int)))
def namB (s:Str):Bool:=!(decide ((s.size:Int)<1) || decide (6<(s.size:Int)))&&s.data.toList.all lower
def kndB (k:Knd):Bool:=(k.kind == 1&&k.name.toList.isEmpty) || (k.kind == 2&&namB k.name)
def tagB (t:Tag):Bool:=if t.kind == 0 || t.kind == 1 || t.kind == 3 then t.name.toList.isEmpty else t.kind == 2&&namB t.name
theorem zfi (s:Str) (k:Nat) (h:k<s.size):s.data.toList.take (k+1)=s.data.toList.take k ++ [s[k]]:=by
 rw[List.take_succ_eq_append_getElem (by simpa using h)];rfl
theorem zfj (s:Str) (k:Nat) (h:k<s.size) (f:UInt8->Bool):(s.data.toList.take (k+1)).all f=((s.data.toList.take k).all f&&f s[k]):=by
 rw[zfi s k h];simp
theorem zfk (s:Str) (k:Nat) (h:k<s.size) (f:UInt8->Bool) (hf:f s[k]=false):s.data.toList.all f=false:=by
 rw[<-Bool.not_eq_true,List.all_eq_true]
 intro hall
 have:=hall s[k] (by exact Array.getElem_mem_toList h)
 rw[hf] at this;cases this
theorem zfl (s:Str) (k:Nat) (h:s.size≤k):s.data.toList.take k=s.data.toList:=List.take_of_length_le (by simpa using h)
theorem zfm (s:Str) (w:World) (hs:s.size≤maxLen):
  Calls Tryz.prog 76 #[.string s] w (zgl (namB s) w):=by
 unfold maxLen at hs
 by_cases hr:1≤s.size∧s.size≤6
 ·obtain⟨h1,h6⟩:=hr
  have d1:decide ((s.size:Int)<1)=false:=by simp;omega
  have d2:decide (6<(s.size:Int))=false:=by simp;omega
  have hb:Hid (namB s=s.data.toList.all lower):=by unfold Hid namB;rw[d1,d2];rfl
  go_enter Tryz.func76,Tryz.ntmps76
  go_wp2
  go_loop [3] (fun i=>∃k:Nat,k≤s.size∧i=.int .i64 k∧Hid ((s.data.toList.take k).all lower=true)) (fun i=>s.size-(intOf i).toNat)
  case atStart=>exact⟨0,Nat.zero_le _,rfl,by simp[Hid]⟩
  case round=>
   obtain⟨k,hk,rfl,HA⟩:=hrel
   by_cases hlt:k<s.size
   ·have hst:=zfj s k hlt lower
    by_cases hl:lower s[k]=true
    ·have HS:Hid ((s.data.toList.take (k+1)).all lower=true):=by rw[hst,HA.out,hl];rfl
     clear hst HA
     have g1:(97:Int)≤(s[k].toNat:Int):=by simp[lower] at hl;omega
     have g2:(s[k].toNat:Int)≤122:=by simp[lower] at hl;omega
     clear hl
     go_wp2
     go_round
     case rel=>exact⟨k+1,by omega,by go_num,HS⟩
     case measure=>simp[intOf];omega
    ·have HF:Hid (s.data.toList.all lower=false):=zfk s k hlt lower (by simpa using hl)
     clear hst HA
     have g1:(s[k].toNat:Int)<97∨122<(s[k].toNat:Int):=by simp[lower] at hl;omega
     clear hl
     go_wp2
     all_goals (go_ret;exact .mk (by rw[hb.out,HF.out]))
   ·have HS:Hid (s.data.toList.all lower=true):=by have:=HA.out;rwa [zfl s k (by omega)] at this
    clear HA
    go_wp2
    go_ret
    exact .mk (by rw[hb.out,HS.out])
 ·have hb:Hid (namB s=false):=by simp[namB,Hid];omega
  have hr':s.size<1∨6<s.size:=by omega
  clear hr
  rcases hr' with h1|h1
  all_goals
   go_enter Tryz.func76,Tryz.ntmps76
   go_wp2
   go_ret
   exact .mk (by rw[hb.out])
theorem zfn (k:Knd) (w:World) (hs:k.name.size≤maxLen):
  Calls Tryz.prog 77 #[.agg #[.int .i64 k.kind,.string k.name]] w (zgm (kndB k) w):=by
 obtain⟨k,s⟩:=k
 go_enter Tryz.func77,Tryz.ntmps77
 go_wp2_with (first|(go_at_call 76;refine(zfm _ _ hs).mono ?_;rintro e w' ⟨rfl,rfl⟩)|go_in)
 all_goals (go_ret;exact .mk (by simp[kndB, *]) (by exact frc))
theorem zfo (t:Tag) (w:World) (hs:t.name.size≤maxLen):
  Calls Tryz.prog 148 #[.agg #[.int .i64 t.kind,.string t.name]] w (zgm (tagB t) w):=by
 obtain⟨k,s⟩:=t
 go_enter Tryz.func148,Tryz.ntmps148
 go_wp2_with (first|(go_at_call 76;refine(zfm _ _ hs).mono ?_;rintro e w' ⟨rfl,rfl⟩)|go_in)
 all_goals go_ret
 all_goals exact .mk (by simp[tagB, *]) (by exact frc)
theorem zfp {α:Type} (f:α->Bool) (xs:List α) (k:Nat) (h:k<xs.length):(xs.take (k+1)).all f=((xs.take k).all f&&f xs[k]):=by
 rw[List.take_succ_eq_append_getElem h,List.all_append];simp only[List.all_cons,List.all_nil,Bool.and_true]
theorem zfq {α:Type} (f:α->Bool) (xs:List α) (k:Nat) (h:k<xs.length) (hf:f xs[k]=false):xs.all f=false:=by
 rw[<-Bool.not_eq_true,List.all_eq_true]
 intro hall
 have:=hall xs[k] (List.getElem_mem h)
 rw[hf] at this;cases this
theorem zfr {α:Type} (f:α->Bool) (xs:List α) (k:Nat) (h:xs.length≤k) (hf:(xs.take k).all f=true):xs.all f=true:=by
 rwa [List.take_of_length_le h] at hf
theorem zfs (X:Nat->Prop) (v:Value) (ts:List Tag) (w:World) (h:Sl X w 2 TagC v ts):
  Calls Tryz.prog 137 #[v] w (zgm (ts.all tagB) w):=by
 obtain⟨A,cap,rfl,hcap,hlen⟩:=h.form
 have hlen':=hlen
 unfold maxLen at hlen'
 go_enter Tryz.func137,Tryz.ntmps137
 go_wp2
 go_loopw [7] (fun i wr=>∃k:Nat,k≤ts.length∧i=.int .i64 k∧Hid ((ts.take k).all tagB=true)∧Fr No w wr) (fun i _=>ts.length-(intOf i).toNat)
 case atStart=>exact⟨0,Nat.zero_le _,rfl,by simp[Hid],Fr.refl _ _⟩
 case round=>
  obtain⟨k,hk,rfl,ha,hf⟩:=hrel
  by_cases hlt:k<ts.length
  ·obtain⟨b,off,rfl,hX,c0,c1,hs⟩:=(h.k0 hf).tag hlt
   clear h
   have H:=fun W=>zfo ts[k] W hs
   have ha1:=zfp tagB ts k hlt
   rw[ha.out,Bool.true_and] at ha1
   clear ha
   cases ht:tagB ts[k] with
   | true=>
    have HS:Hid ((ts.take (k+1)).all tagB=true):=ha1.trans ht
    clear ha1
    simp only[ht] at H
    clear ht
    go_wp2_with (go_at_call 148;refine(H _).mono ?_;rintro e w1 ⟨rfl,hf1⟩)
    go_roundw
    case rel=>exact⟨k+1,by omega,by go_num,HS,by exact frc⟩
    case measure=>simp[intOf];omega
   | false=>
    have HS:Hid (ts.all tagB=false):=zfq tagB ts k hlt ht
    clear ha1
    simp only[ht] at H
    clear ht
    go_wp2_with (go_at_call 148;refine(H _).mono ?_;rintro e w1 ⟨rfl,hf1⟩)
    go_ret
    exact .mk HS.out.symm (by exact frc)
  ·have HS:Hid (ts.all tagB=true):=zfr tagB ts k (by omega) ha.out
   clear h ha
   go_wp2
   go_ret
   exact .mk HS.out.symm (by exact frc)
def zft (o:Int):Bool:=o == 1 || o == 2 || o == 3 || o == 11 || o == 12 || o == 13
def zfu (o:Int):Bool:=o == 6 || o == 15
def zfv (o:Int):Bool:=o == 7 || o == 8 || o == 9
def zfw (o:Int):Bool:=o == 4 || o == 5 || o == 10 || o == 14
def zfx (o:Int):Int:=if o == 1 then -9999 else 0
def zfy (o:Int):Int:=if o == 1 then 9999 else if o == 2 || o == 3 then 5 else 15
def insB (i:Ins):Bool:=
 if zft i.op then decide (zfx i.op≤i.a)&&decide (i.a≤zfy i.op)&&i.name.toList.isEmpty&&i.member.toList.isEmpty
 else if zfu i.op then i.a == 0&&namB i.name&&i.member.toList.isEmpty
 else if zfv i.op then i.a == 0&&namB i.name&&namB i.member
 else zfw i.op&&i.a == 0&&i.name.toList.isEmpty&&i.member.toList.isEmpty
def zfz (i:Ins):Value:=
 if zft i.op then .iface 219 (.agg #[.int .i64 i.op,.int .i64 i.a])
 else if zfu i.op then .iface 221 (.agg #[.int .i64 i.op,.string i.name])
 else if zfv i.op then .iface 223 (.agg #[.int .i64 i.op,.string i.name,.string i.member])
 else if zfw i.op then .iface 225 (.agg #[.int .i64 i.op])
 else .nilIface
theorem zfA (i:Ins) (w:World):
  Calls Tryz.prog 145 #[.agg #[.int .i64 i.op,.int .i64 i.a,.string i.name,.string i.member]] w (Gives (zfz i) w):=by
 obtain⟨op,a,s,m⟩:=i
 go_enter Tryz.func145,Tryz.ntmps145
 go_wp2
 all_goals go_ret
 all_goals exact .mk (by simp[zfz,zft,zfu,zfv,zfw, *]) (by exact frc)
theorem zfB {P:Program} {T x:TypeId} {v:Value} {fs:Array Field} (w:World) (hu:P.underlying T=some (.struct fs)):
  (Instr.typeAssert (.iface T v) x T true).run P w=.ok (.tuple #[v,.bool true]) w:=by
 simp[Instr.typeAssert,run_underlying hu]
theorem zfC {P:Program} {T t x:TypeId} {v z:Value} {fs:Array Field} (w:World) (hu:P.underlying T=some (.struct fs)) (hne:(t == T)=false) (hz:(zeroValue T).run P w=.ok z w):
  (Instr.typeAssert (.iface t v) x T true).run P w=.ok (.tuple #[z,.bool false]) w:=by
 have h:t≠T:=by simpa using hne
 simp[Instr.typeAssert,run_underlying hu,h,hz]
theorem zfD (w:World):(zeroValue 225).run Tryz.prog w=.ok (.agg #[.int .i64 0]) w:=by kernel_rfl
theorem zero_num (w:World):(zeroValue 219).run Tryz.prog w=.ok (.agg #[.int .i64 0,.int .i64 0]) w:=by kernel_rfl
theorem zfE (w:World):(zeroValue 221).run Tryz.prog w=.ok (.agg #[.int .i64 0,.string ⟨#[]⟩]) w:=by kernel_rfl
theorem zfF (a b:Int):(a == b)=(b == a):=by rw[Bool.eq_iff_iff,beq_iff_eq,beq_iff_eq];exact eq_comm
theorem zfG (o1 a1:Int) (s1 m1:Str) (o2 a2:Int) (s2 m2:Str) (w:World):
  (binOp .eql 178 (.agg #[.int .i64 o1,.int .i64 a1,.string s1,.string m1]) (.agg #[.int .i64 o2,.int .i64 a2,.string s2,.string m2])).run Tryz.prog w =
   .ok (.bool (o1 == o2&&(a1 == a2&&(s1.toList == s2.toList&&m1.toList == m2.toList)))) w:=by
 cases h1:(o1 == o2)<;>cases h2:(a1 == a2)<;>cases h3:(s1.toList == s2.toList)<;>cases h4:(m1.toList == m2.toList)
 all_goals simp only[run_eql_struct]
 all_goals simp[go_sem,h1,h2,h3,h4,Tryz.underlying178,Tryz.underlying3,Tryz.underlying9]
theorem zfH (op:Int) (w:World):Calls Tryz.prog 146 #[.iface 225 (.agg #[.int .i64 op])] w (Gives (.agg #[.int .i64 op,.int .i64 0,.string ⟨#[]⟩,.string ⟨#[]⟩]) w):=by
 have a0:=fun v W=>zfB (x:=20) (v:=v) W Tryz.underlying225
 go_enter Tryz.func146,Tryz.ntmps146
 go_wp2
 refine bodyPost_ret (v:=.agg #[.int .i64 op,.int .i64 0,.string ⟨#[]⟩,.string ⟨#[]⟩]) (by simp[results,Tryz.results146,go_sem]) rfl ?_
 exact .mk rfl (by exact frc)
theorem zfI (op:Int) (w:World):Calls Tryz.prog 147 #[.iface 225 (.agg #[.int .i64 op])] w (zgm (true) w):=by
 have a0:=fun v W=>zfB (x:=20) (v:=v) W Tryz.underlying225
 go_enter Tryz.func147,Tryz.ntmps147
 go_wp2
 all_goals go_ret
 all_goals exact .mk (by rfl) (by exact frc)
theorem zfJ (op a:Int) (w:World):Calls Tryz.prog 146 #[.iface 219 (.agg #[.int .i64 op,.int .i64 a])] w (Gives (.agg #[.int .i64 op,.int .i64 a,.string ⟨#[]⟩,.string ⟨#[]⟩]) w):=by
 have a0:=fun v W=>zfC (x:=20) (t:=219) (v:=v) W Tryz.underlying225 rfl (zfD W)
 have a1:=fun v W=>zfB (x:=20) (v:=v) W Tryz.underlying219
 go_enter Tryz.func146,Tryz.ntmps146
 go_wp2
 refine bodyPost_ret (v:=.agg #[.int .i64 op,.int .i64 a,.string ⟨#[]⟩,.string ⟨#[]⟩]) (by simp[results,Tryz.results146,go_sem]) rfl ?_
 exact .mk rfl (by exact frc)
theorem zfK (op a:Int) (w:World):Calls Tryz.prog 147 #[.iface 219 (.agg #[.int .i64 op,.int .i64 a])] w (zgm (decide (zfx op≤a)&&decide (a≤zfy op)) w):=by
 have a0:=fun v W=>zfC (x:=20) (t:=219) (v:=v) W Tryz.underlying225 rfl (zfD W)
 have a1:=fun v W=>zfB (x:=20) (v:=v) W Tryz.underlying219
 go_enter Tryz.func147,Tryz.ntmps147
 go_wp2
 all_goals go_ret
 all_goals exact .mk (by simp[zfx,zfy, *]<;>omega) (by exact frc)
theorem zfL (op:Int) (s:Str) (w:World):Calls Tryz.prog 146 #[.iface 221 (.agg #[.int .i64 op,.string s])] w (Gives (.agg #[.int .i64 op,.int .i64 0,.string s,.string ⟨#[]⟩]) w):=by
 have a0:=fun v W=>zfC (x:=20) (t:=221) (v:=v) W Tryz.underlying225 rfl (zfD W)
 have a1:=fun v W=>zfC (x:=20) (t:=221) (v:=v) W Tryz.underlying219 rfl (zero_num W)
 have a2:=fun v W=>zfB (x:=20) (v:=v) W Tryz.underlying221
 go_enter Tryz.func146,Tryz.ntmps146
 go_wp2
 refine bodyPost_ret (v:=.agg #[.int .i64 op,.int .i64 0,.string s,.string ⟨#[]⟩]) (by simp[results,Tryz.results146,go_sem]) rfl ?_
 exact .mk rfl (by exact frc)
theorem zfM (op:Int) (s:Str) (w:World) (hs:s.size≤maxLen):Calls Tryz.prog 147 #[.iface 221 (.agg #[.int .i64 op,.string s])] w (zgm (namB s) w):=by
 have a0:=fun v W=>zfC (x:=20) (t:=221) (v:=v) W Tryz.underlying225 rfl (zfD W)
 have a1:=fun v W=>zfC (x:=20) (t:=221) (v:=v) W Tryz.underlying219 rfl (zero_num W)
 have a2:=fun v W=>zfB (x:=20) (v:=v) W Tryz.underlying221
 go_enter Tryz.func147,Tryz.ntmps147
 go_wp2_with (go_at_call 76;refine(zfm _ _ (by assumption)).mono ?_;rintro e w' ⟨rfl,rfl⟩)
 all_goals go_ret
 all_goals exact .mk (by rfl) (by exact frc)
theorem zfN (op:Int) (s m:Str) (w:World):Calls Tryz.prog 146 #[.iface 223 (.agg #[.int .i64 op,.string s,.string m])] w (Gives (.agg #[.int .i64 op,.int .i64 0,.string s,.string m]) w):=by
 have a0:=fun v W=>zfC (x:=20) (t:=223) (v:=v) W Tryz.underlying225 rfl (zfD W)
 have a1:=fun v W=>zfC (x:=20) (t:=223) (v:=v) W Tryz.underlying219 rfl (zero_num W)
 have a2:=fun v W=>zfC (x:=20) (t:=223) (v:=v) W Tryz.underlying221 rfl (zfE W)
 have a3:=fun v W=>zfB (x:=20) (v:=v) W Tryz.underlying223
 go_enter Tryz.func146,Tryz.ntmps146
 go_wp2
 refine bodyPost_ret (v:=.agg #[.int .i64 op,.int .i64 0,.string s,.string m]) (by simp[results,Tryz.results146,go_sem]) rfl ?_
 exact .mk rfl (by exact frc)
theorem zfO (op:Int) (s m:Str) (w:World) (hs:s.size≤maxLen) (hm:m.size≤maxLen):Calls Tryz.prog 147 #[.iface 223 (.agg #[.int .i64 op,.string s,.string m])] w (zgm (namB s&&namB m) w):=by
 have a0:=fun v W=>zfC (x:=20) (t:=223) (v:=v) W Tryz.underlying225 rfl (zfD W)
 have a1:=fun v W=>zfC (x:=20) (t:=223) (v:=v) W Tryz.underlying219 rfl (zero_num W)
 have a2:=fun v W=>zfC (x:=20) (t:=223) (v:=v) W Tryz.underlying221 rfl (zfE W)
 have a3:=fun v W=>zfB (x:=20) (v:=v) W Tryz.underlying223
 go_enter Tryz.func147,Tryz.ntmps147
 go_wp2_with (go_at_call 76;refine(zfm _ _ (by assumption)).mono ?_;rintro e w' ⟨rfl,rfl⟩)
 all_goals go_ret
 all_goals exact .mk (by simp[*]) (by exact frc)
theorem zfP (i:Ins) (w:World) (hs:i.name.size≤maxLen) (hm:i.member.size≤maxLen) (hv:zfz i=.iface 225 (.agg #[.int .i64 i.op])) (hI:insB i=((i.a == 0&&i.name.toList.isEmpty&&i.member.toList.isEmpty)&&(true))):
  Calls Tryz.prog 136 #[.agg #[.int .i64 i.op,.int .i64 i.a,.string i.name,.string i.member]] w (zgm (insB i) w):=by
 have H:=fun W=>zfA i W
 rw[hv] at H
 clear hv
 rw[hI]
 clear hI
 obtain⟨op,a,s,m⟩:=i
 dsimp only at *
 have hB:=Bx.new w 178 #[.int .i64 op,.int .i64 a,.string s,.string m]
 have hE:((op:Int) == op&&((0:Int) == a&&((⟨#[]⟩:Str).toList == s.toList&&(⟨#[]⟩:Str).toList == m.toList)))=(a == 0&&s.toList.isEmpty&&m.toList.isEmpty):=by
  rw[beq_self_eq_true,Bool.true_and];try rw[zfF 0 a]
  simp[Bool.and_assoc]
 cases hb:(a == 0&&s.toList.isEmpty&&m.toList.isEmpty)
 all_goals
  have hq:∀W,(binOp .eql 178 (.agg #[.int .i64 op,.int .i64 0,.string ⟨#[]⟩,.string ⟨#[]⟩]) (.agg #[.int .i64 op,.int .i64 a,.string s,.string m])).run Tryz.prog W=.ok (.bool _) W:=fun W=>(zfG _ _ _ _ _ _ _ _ W).trans (by rw[hE,hb])
  clear hE hb
  go_enter Tryz.func136,Tryz.ntmps136
  go_wp2_with (go_at_call 145;refine(H _).mono ?_;rintro e w1 ⟨rfl,hf1⟩)
  have hB1:=hB.keep hf1
  have cc:=fun(W:World) (h:Fr No w1 W)=>(hB1.keep h).c4
  have c0:=fun W h=>(cc W h).1
  have c1:=fun W h=>(cc W h).2.1
  have c2:=fun W h=>(cc W h).2.2.1
  have c3:=fun W h=>(cc W h).2.2.2
  clear cc
  clear H
  (refine zgc (X:=No) (by kernel_rfl) (by kernel_rfl) ?_);(repeat(first|(apply zgb;(focus (exact rfl));simp only[Act.put,lz0,lz1,lz2])|(apply zga;(focus (exact rfl));(focus (intro W hW;go_simp;first|done|exact rfl|(go_at_call 146;exact(zfH _ _).mono (fun _ _ h=>⟨h.1,hW.trans0 h.2⟩))|(go_at_call 147;exact(zfI _ _).mono (fun _ _ h=>⟨h.1,hW.trans0 h.2⟩))));simp only[Act.put,lz0,lz1,lz2])));refine wpQuiet_nil ?_
  intro w2 hf2
  clear c0 c1 c2 c3
  go_wp2
  go_ret
  exact .mk (by simp) (by exact frc)
theorem zfQ (i:Ins) (w:World) (hs:i.name.size≤maxLen) (hm:i.member.size≤maxLen) (hv:zfz i=.iface 219 (.agg #[.int .i64 i.op,.int .i64 i.a])) (hI:insB i=((i.name.toList.isEmpty&&i.member.toList.isEmpty)&&(decide (zfx i.op≤i.a)&&decide (i.a≤zfy i.op)))):
  Calls Tryz.prog 136 #[.agg #[.int .i64 i.op,.int .i64 i.a,.string i.name,.string i.member]] w (zgm (insB i) w):=by
 have H:=fun W=>zfA i W
 rw[hv] at H
 clear hv
 rw[hI]
 clear hI
 obtain⟨op,a,s,m⟩:=i
 dsimp only at *
 have hB:=Bx.new w 178 #[.int .i64 op,.int .i64 a,.string s,.string m]
 have hE:((op:Int) == op&&((a:Int) == a&&((⟨#[]⟩:Str).toList == s.toList&&(⟨#[]⟩:Str).toList == m.toList)))=(s.toList.isEmpty&&m.toList.isEmpty):=by
  rw[beq_self_eq_true,Bool.true_and];try rw[zfF 0 a]
  simp
 cases hb:(s.toList.isEmpty&&m.toList.isEmpty)
 all_goals
  have hq:∀W,(binOp .eql 178 (.agg #[.int .i64 op,.int .i64 a,.string ⟨#[]⟩,.string ⟨#[]⟩]) (.agg #[.int .i64 op,.int .i64 a,.string s,.string m])).run Tryz.prog W=.ok (.bool _) W:=fun W=>(zfG _ _ _ _ _ _ _ _ W).trans (by rw[hE,hb])
  clear hE hb
  go_enter Tryz.func136,Tryz.ntmps136
  go_wp2_with (go_at_call 145;refine(H _).mono ?_;rintro e w1 ⟨rfl,hf1⟩)
  have hB1:=hB.keep hf1
  have cc:=fun(W:World) (h:Fr No w1 W)=>(hB1.keep h).c4
  have c0:=fun W h=>(cc W h).1
  have c1:=fun W h=>(cc W h).2.1
  have c2:=fun W h=>(cc W h).2.2.1
  have c3:=fun W h=>(cc W h).2.2.2
  clear cc
  clear H
  (refine zgc (X:=No) (by kernel_rfl) (by kernel_rfl) ?_);(repeat(first|(apply zgb;(focus (exact rfl));simp only[Act.put,lz0,lz1,lz2])|(apply zga;(focus (exact rfl));(focus (intro W hW;go_simp;first|done|exact rfl|(go_at_call 146;exact(zfJ _ _ _).mono (fun _ _ h=>⟨h.1,hW.trans0 h.2⟩))|(go_at_call 147;exact(zfK _ _ _).mono (fun _ _ h=>⟨h.1,hW.trans0 h.2⟩))));simp only[Act.put,lz0,lz1,lz2])));refine wpQuiet_nil ?_
  intro w2 hf2
  clear c0 c1 c2 c3
  go_wp2
  go_ret
  exact .mk (by simp) (by exact frc)
theorem zfR (i:Ins) (w:World) (hs:i.name.size≤maxLen) (hm:i.member.size≤maxLen) (hv:zfz i=.iface 221 (.agg #[.int .i64 i.op,.string i.name])) (hI:insB i=((i.a == 0&&i.member.toList.isEmpty)&&(namB i.name))):
  Calls Tryz.prog 136 #[.agg #[.int .i64 i.op,.int .i64 i.a,.string i.name,.string i.member]] w (zgm (insB i) w):=by
 have H:=fun W=>zfA i W
 rw[hv] at H
 clear hv
 rw[hI]
 clear hI
 obtain⟨op,a,s,m⟩:=i
 dsimp only at *
 have hB:=Bx.new w 178 #[.int .i64 op,.int .i64 a,.string s,.string m]
 have hE:((op:Int) == op&&((0:Int) == a&&((s:Str).toList == s.toList&&(⟨#[]⟩:Str).toList == m.toList)))=(a == 0&&m.toList.isEmpty):=by
  rw[beq_self_eq_true,Bool.true_and];try rw[zfF 0 a]
  simp
 cases hb:(a == 0&&m.toList.isEmpty)
 all_goals
  have hq:∀W,(binOp .eql 178 (.agg #[.int .i64 op,.int .i64 0,.string s,.string ⟨#[]⟩]) (.agg #[.int .i64 op,.int .i64 a,.string s,.string m])).run Tryz.prog W=.ok (.bool _) W:=fun W=>(zfG _ _ _ _ _ _ _ _ W).trans (by rw[hE,hb])
  clear hE hb
  go_enter Tryz.func136,Tryz.ntmps136
  go_wp2_with (go_at_call 145;refine(H _).mono ?_;rintro e w1 ⟨rfl,hf1⟩)
  have hB1:=hB.keep hf1
  have cc:=fun(W:World) (h:Fr No w1 W)=>(hB1.keep h).c4
  have c0:=fun W h=>(cc W h).1
  have c1:=fun W h=>(cc W h).2.1
  have c2:=fun W h=>(cc W h).2.2.1
  have c3:=fun W h=>(cc W h).2.2.2
  clear cc
  clear H
  (refine zgc (X:=No) (by kernel_rfl) (by kernel_rfl) ?_);(repeat(first|(apply zgb;(focus (exact rfl));simp only[Act.put,lz0,lz1,lz2])|(apply zga;(focus (exact rfl));(focus (intro W hW;go_simp;first|done|exact rfl|(go_at_call 146;exact(zfL _ _ _).mono (fun _ _ h=>⟨h.1,hW.trans0 h.2⟩))|(go_at_call 147;exact(zfM _ _ _ hs).mono (fun _ _ h=>⟨h.1,hW.trans0 h.2⟩))));simp only[Act.put,lz0,lz1,lz2])));refine wpQuiet_nil ?_
  intro w2 hf2
  clear c0 c1 c2 c3
  go_wp2
  go_ret
  exact .mk (by simp) (by exact frc)
theorem zfS (i:Ins) (w:World) (hs:i.name.size≤maxLen) (hm:i.member.size≤maxLen) (hv:zfz i=.iface 223 (.agg #[.int .i64 i.op,.string i.name,.string i.member])) (hI:insB i=((i.a == 0)&&(namB i.name&&namB i.member))):
  Calls Tryz.prog 136 #[.agg #[.int .i64 i.op,.int .i64 i.a,.string i.name,.string i.member]] w (zgm (insB i) w):=by
 have H:=fun W=>zfA i W
 rw[hv] at H
 clear hv
 rw[hI]
 clear hI
 obtain⟨op,a,s,m⟩:=i
 dsimp only at *
 have hB:=Bx.new w 178 #[.int .i64 op,.int .i64 a,.string s,.string m]
 have hE:((op:Int) == op&&((0:Int) == a&&((s:Str).toList == s.toList&&(m:Str).toList == m.toList)))=(a == 0):=by
  rw[beq_self_eq_true,Bool.true_and];try rw[zfF 0 a]
  simp
 cases hb:(a == 0)
 all_goals
  have hq:∀W,(binOp .eql 178 (.agg #[.int .i64 op,.int .i64 0,.string s,.string m]) (.agg #[.int .i64 op,.int .i64 a,.string s,.string m])).run Tryz.prog W=.ok (.bool _) W:=fun W=>(zfG _ _ _ _ _ _ _ _ W).trans (by rw[hE,hb])
  clear hE hb
  go_enter Tryz.func136,Tryz.ntmps136
  go_wp2_with (go_at_call 145;refine(H _).mono ?_;rintro e w1 ⟨rfl,hf1⟩)
  have hB1:=hB.keep hf1
  have cc:=fun(W:World) (h:Fr No w1 W)=>(hB1.keep h).c4
  have c0:=fun W h=>(cc W h).1
  have c1:=fun W h=>(cc W h).2.1
  have c2:=fun W h=>(cc W h).2.2.1
  have c3:=fun W h=>(cc W h).2.2.2
  clear cc
  clear H
  (refine zgc (X:=No) (by kernel_rfl) (by kernel_rfl) ?_);(repeat(first|(apply zgb;(focus (exact rfl));simp only[Act.put,lz0,lz1,lz2])|(apply zga;(focus (exact rfl));(focus (intro W hW;go_simp;first|done|exact rfl|(go_at_call 146;exact(zfN _ _ _ _).mono (fun _ _ h=>⟨h.1,hW.trans0 h.2⟩))|(go_at_call 147;exact(zfO _ _ _ _ hs hm).mono (fun _ _ h=>⟨h.1,hW.trans0 h.2⟩))));simp only[Act.put,lz0,lz1,lz2])));refine wpQuiet_nil ?_
  intro w2 hf2
  clear c0 c1 c2 c3
  go_wp2
  go_ret
  exact .mk (by simp) (by exact frc)
theorem zfT (i:Ins) (w:World) (hv:zfz i=.nilIface) (hI:insB i=false):
  Calls Tryz.prog 136 #[.agg #[.int .i64 i.op,.int .i64 i.a,.string i.name,.string i.member]] w (zgm (insB i) w):=by
 have H:=fun W=>zfA i W
 rw[hv] at H
 clear hv
 rw[hI]
 clear hI
 obtain⟨op,a,s,m⟩:=i
 dsimp only at *
 go_enter Tryz.func136,Tryz.ntmps136
 go_wp2_with (go_at_call 145;refine(H _).mono ?_;rintro e w1 ⟨rfl,hf1⟩)
 clear H
 (refine zgc (X:=No) (by kernel_rfl) (by kernel_rfl) ?_);(repeat(first|(apply zgb;(focus (exact rfl));simp only[Act.put,lz0,lz1,lz2])|(apply zga;(focus (exact rfl));(focus (intro W hW;go_simp;first|done|exact rfl|fail));simp only[Act.put,lz0,lz1,lz2])));refine wpQuiet_nil ?_
 intro w2 hf2
 go_wp2
 go_ret
 exact .mk rfl (by exact frc)
theorem zfU (i:Ins) (w:World) (hs:i.name.size≤maxLen) (hm:i.member.size≤maxLen):
  Calls Tryz.prog 136 #[.agg #[.int .i64 i.op,.int .i64 i.a,.string i.name,.string i.member]] w (zgm (insB i) w):=by
 cases h1:zft i.op
 ·cases h2:zfu i.op
  ·cases h3:zfv i.op
   ·cases h4:zfw i.op
    ·exact zfT i w (by simp[zfz,h1,h2,h3,h4]) (by simp[insB,h1,h2,h3,h4])
    ·exact zfP i w hs hm (by simp[zfz,h1,h2,h3,h4]) (by simp[insB,h1,h2,h3,h4])
   ·exact zfS i w hs hm (by simp[zfz,h1,h2,h3]) (by simp[insB,h1,h2,h3,Bool.and_assoc])
  ·exact zfR i w hs hm (by simp[zfz,h1,h2]) (by simp[insB,h1,h2];cases(i.a == 0)<;>cases namB i.name<;>cases i.member.toList.isEmpty<;>rfl)
 ·exact zfQ i w hs hm (by simp[zfz,h1]) (by simp[insB,h1];cases decide (zfx i.op≤i.a)<;>cases decide (i.a≤zfy i.op)<;>cases i.name.toList.isEmpty<;>cases i.member.toList.isEmpty<;>rfl)
def zfV (locals len:Int) (i:Ins):Bool:=
 insB i&&(if i.op == 2 || i.op == 3 then decide (i.a<locals) else if i.op == 11 || i.op == 12 || i.op == 13 then decide (i.a<len) else true)
def zfW (m:Mth):Bool:=decide (1≤m.code.length)&&decide (m.code.length≤16)&&m.code.all (zfV m.locals m.code.length)
theorem zfX (X:Nat->Prop) (m:Mth) (cs:List Value) (w:World) (h:MthC X w cs m):
  Calls Tryz.prog 110 #[.agg cs.toArray] w (zgm (zfW m) w):=by
 obtain⟨va,vc,vm,rfl,_,_,ha,hc,hm⟩:=h
 obtain⟨A,cap,rfl,hcap,hlen⟩:=hc.form
 have hlen':=hlen
 unfold maxLen at hlen'
 clear ha hm
 by_cases hr:1≤m.code.length∧m.code.length≤16
 ·obtain⟨h1,h16⟩:=hr
  have d1:decide ((m.code.length:Int)<1)=false:=by simp;omega
  have d2:decide (16<(m.code.length:Int))=false:=by simp;omega
  have hb:Hid (zfW m=m.code.all (zfV m.locals m.code.length)):=by unfold Hid zfW;rw[decide_eq_true h1,decide_eq_true h16];rfl
  have hB:=Bx.new w 133 #[.string m.name,va,.int .i64 m.ret.kind,.string m.ret.name,.int .i64 m.locals,.int .i64 m.stack,.slice A m.code.length cap,vm]
  go_enter Tryz.func110,Tryz.ntmps110
  go_wp2
  go_loopw [18,2] (fun i r wr=>∃k:Nat,k≤m.code.length∧i=.int .i64 k∧r=.bool false∧Hid ((m.code.take k).all (zfV m.locals m.code.length)=true) ∧
   Fr No (w.alloc (.cells #[.string m.name,va,.int .i64 m.ret.kind,.string m.ret.name,.int .i64 m.locals,.int .i64 m.stack,.slice A m.code.length cap,vm] 133)) wr) (fun i _ _=>m.code.length-(intOf i).toNat)
  case atStart=>exact⟨0,Nat.zero_le _,rfl,rfl,by simp[Hid],Fr.refl _ _⟩
  case round=>
   obtain⟨k,hk,rfl,rfl,ha,hf⟩:=hrel
   have hw:Fr No w wr:=((Fr.refl No w).alloc _).trans0 hf
   obtain⟨b0,b1,b2,b3,b4,b5,b6,b7⟩:=(hB.keep hf).c8
   have hB':=hB.keep hf
   clear hB
   by_cases hlt:k<m.code.length
   ·obtain⟨b,off,rfl,hX,c0,c1,c2,c3,hs,hs'⟩:=(hc.k0 hw).ins hlt
    clear hc
    have H:=fun W=>zfU m.code[k] W hs hs'
    have ha1:=zfp (zfV m.locals m.code.length) m.code k hlt
    rw[ha.out,Bool.true_and] at ha1
    clear ha
    have HS:zfV m.locals m.code.length m.code[k]=true->Hid ((m.code.take (k+1)).all (zfV m.locals m.code.length)=true):=fun h=>ha1.trans h
    have HN:zfV m.locals m.code.length m.code[k]=false->Hid (m.code.all (zfV m.locals m.code.length)=false):=fun h=>zfq _ m.code k hlt h
    clear ha1
    have HS:=Lib.hid HS
    have HN:=Lib.hid HN
    generalize m.code[k]=i at *
    cases ht:insB i
    all_goals
     simp only[ht] at H
     have ht:=Lib.hid ht
     go_wp2_with (go_at_call 136;refine(H _).mono ?_;rintro e w1 ⟨rfl,hf1⟩;obtain⟨e0,e1,e2,e3,e4,e5,e6,e7⟩:=(hB'.keep (by exact((Fr.refl No wr).alloc _).trans0 hf1)).c8;obtain⟨f0,f1,f2,f3⟩:=((Bx.new wr 178 #[.int .i64 i.op,.int .i64 i.a,.string i.name,.string i.member]).keep hf1).c4)
    all_goals first
     | (go_roundw;(case rel=>exact⟨k+1,by omega,by go_num,rfl,HS.out (by simp[zfV,ht.out, *]),by exact frc⟩);(case measure=>simp[intOf];omega))
     | (go_ret;exact .mk (by rw[hb.out,HN.out (by simp[zfV,ht.out, *])]) (by exact frc))
   ·have HS:Hid (m.code.all (zfV m.locals m.code.length)=true):=zfr _ m.code k (by omega) ha.out
    clear ha hc
    go_wp2
    go_ret
    exact .mk (by rw[hb.out,HS.out]) (by exact frc)
 ·have hb:Hid (zfW m=false):=by unfold Hid zfW;rw[Bool.and_eq_false_iff,Bool.and_eq_false_iff,decide_eq_false_iff_not,decide_eq_false_iff_not];omega
  have hr':m.code.length<1∨16<m.code.length:=by omega
  clear hr hc
  rcases hr' with h1|h1
  all_goals
   go_enter Tryz.func110,Tryz.ntmps110
   go_wp2
   go_ret
   exact .mk (by rw[hb.out]) (by exact frc)
def zfY (len locals stack last:Int) (x:Mp):Bool:=
 decide (last<x.at_)&&decide (x.at_<len)&&decide ((x.locals.length:Int)=locals)&&decide ((x.stack.length:Int)≤stack)&&x.locals.all tagB&&x.stack.all tagB
theorem zfZ {len locals stack last:Int} {x:Mp} (g1:last<x.at_) (g2:x.at_<len) (g3:((x.locals.length:Int) == locals)=true) (g4:(x.stack.length:Int)≤stack)
  (h1:x.locals.all tagB=true) (h2:x.stack.all tagB=true):zfY len locals stack last x=true:=by
 have g3:(x.locals.length:Int)=locals:=by simpa using g3
 simp only[zfY,g1,g2,g3,g4,h1,h2,decide_true,Bool.and_true]
theorem zf0 {len locals stack last:Int} {x:Mp} (g:x.at_≤last∨len≤x.at_∨((x.locals.length:Int) == locals)=false∨stack<(x.stack.length:Int)∨x.locals.all tagB=false∨x.stack.all tagB=false):
  zfY len locals stack last x=false:=by
 unfold zfY
 rcases g with g|g|g|g|g|g
 ·rw[decide_eq_false (show ¬last<x.at_ by omega)];simp
 ·rw[decide_eq_false (show ¬x.at_<len by omega)];simp
 ·rw[decide_eq_false (show ¬(x.locals.length:Int)=locals by simpa using g)];simp
 ·rw[decide_eq_false (show ¬(x.stack.length:Int)≤stack by omega)];simp
 ·rw[g];simp
 ·rw[g];simp
def zf3 (len locals stack:Int):Int->List Mp->Bool
 | _,[]=>true
 | last,x :: xs=>zfY len locals stack last x&&zf3 len locals stack x.at_ xs
def zf4 (m:Mth):Bool:=decide (m.maps.length≤5)&&zf3 m.code.length m.locals m.stack 0 m.maps
theorem zf5 (X:Nat->Prop) (m:Mth) (cs:List Value) (w:World) (h:MthC X w cs m):
  Calls Tryz.prog 111 #[.agg cs.toArray] w (zgm (zf4 m) w):=by
 obtain⟨va,vc,vm,rfl,_,_,ha,hc,hm⟩:=h
 obtain⟨A,cap,rfl,hcap,hlen⟩:=hm.form
 obtain⟨Ac,cc,rfl,_,hcl⟩:=hc.form
 have hlen':=hlen
 unfold maxLen at hlen' hcl
 clear ha hc
 by_cases hr:m.maps.length≤5
 ·have d1:decide (5<(m.maps.length:Int))=false:=by simp;omega
  have hb:Hid (zf4 m=zf3 m.code.length m.locals m.stack 0 m.maps):=by unfold Hid zf4;rw[decide_eq_true hr];rfl
  have hB:=Bx.new w 133 #[.string m.name,va,.int .i64 m.ret.kind,.string m.ret.name,.int .i64 m.locals,.int .i64 m.stack,.slice Ac m.code.length cc,.slice A m.maps.length cap]
  go_enter Tryz.func111,Tryz.ntmps111
  go_wp2
  go_loopw [13,3,2] (fun i s r wr=>∃(k:Nat) (l:Int),k≤m.maps.length∧i=.int .i64 k∧s=.int .i64 l∧r=.bool false∧Hid (zf4 m=zf3 m.code.length m.locals m.stack l (m.maps.drop k)) ∧
   Fr No (w.alloc (.cells #[.string m.name,va,.int .i64 m.ret.kind,.string m.ret.name,.int .i64 m.locals,.int .i64 m.stack,.slice Ac m.code.length cc,.slice A m.maps.length cap] 133)) wr) (fun i _ _ _=>m.maps.length-(intOf i).toNat)
  case atStart=>exact⟨0,0,Nat.zero_le _,rfl,rfl,rfl,hb,Fr.refl _ _⟩
  case round=>
   obtain⟨k,l,hk,rfl,rfl,rfl,ha,hf⟩:=hrel
   have hw:Fr No w wr:=((Fr.refl No w).alloc _).trans0 hf
   have hB':=hB.keep hf
   obtain⟨b0,b1,b2,b3,b4,b5,b6,b7⟩:=hB'.c8
   have hBl:=hB'.lt
   clear hB hb
   by_cases hlt:k<m.maps.length
   ·obtain⟨b,off,Al,cl,As,cs,rfl,hX,c0,c1,c2,hl,hs,_,hll,_,hsl⟩:=(hm.keep hw zN (fun _ _ _ h=>h.keep hw zN)).map hlt
    clear hm
    have H1:=fun W (h:Fr No wr W)=>zfs X _ m.maps[k].locals W (hl.k0 h)
    have H2:=fun W (h:Fr No wr W)=>zfs X _ m.maps[k].stack W (hs.k0 h)
    clear hl hs
    unfold maxLen at hll hsl
    rw[List.drop_eq_getElem_cons hlt] at ha
    generalize m.maps[k]=x at *
    have HS:Hid (zfY m.code.length m.locals m.stack l x=true->zf4 m=zf3 m.code.length m.locals m.stack x.at_ (m.maps.drop (k+1))):=fun h=>by
     have:=ha.out
     rwa [zf3,h,Bool.true_and] at this
    have HN:Hid (zfY m.code.length m.locals m.stack l x=false->zf4 m=false):=fun h=>by
     have:=ha.out
     rwa [zf3,h,Bool.false_and] at this
    clear ha
    have hcase:x.at_≤l∨(l<x.at_∧(m.code.length:Int)≤x.at_)∨(l<x.at_∧x.at_<(m.code.length:Int)∧((x.locals.length:Int) == m.locals)=false) ∨
      (l<x.at_∧x.at_<(m.code.length:Int)∧((x.locals.length:Int) == m.locals)=true∧m.stack<(x.stack.length:Int)) ∨
      (l<x.at_∧x.at_<(m.code.length:Int)∧((x.locals.length:Int) == m.locals)=true∧(x.stack.length:Int)≤m.stack∧x.locals.all tagB=false) ∨
      (l<x.at_∧x.at_<(m.code.length:Int)∧((x.locals.length:Int) == m.locals)=true∧(x.stack.length:Int)≤m.stack∧x.locals.all tagB=true∧x.stack.all tagB=false) ∨
      (l<x.at_∧x.at_<(m.code.length:Int)∧((x.locals.length:Int) == m.locals)=true∧(x.stack.length:Int)≤m.stack∧x.locals.all tagB=true∧x.stack.all tagB=true):=by
     cases x.locals.all tagB<;>cases x.stack.all tagB<;>cases((x.locals.length:Int) == m.locals)<;>simp<;>omega
    rcases hcase with g1 | ⟨g1,g2⟩ | ⟨g1,g2,g3⟩ | ⟨g1,g2,g3,g4⟩ | ⟨g1,g2,g3,g4,h1⟩ | ⟨g1,g2,g3,g4,h1,h2⟩ | ⟨g1,g2,g3,g4,h1,h2⟩
    all_goals
     try simp only[h1] at H1
     try simp only[h2] at H2
     try have h1:=Lib.hid h1
     try have h2:=Lib.hid h2
     try have g5:((x.locals.length:Int) != m.locals)=false:=by(simp at g3 ⊢;exact g3)
     try have g5:((x.locals.length:Int) != m.locals)=true:=by(simp at g3 ⊢;exact g3)
     go_wp2_with (first
      | (go_at_call_of 137 (Value.slice Al x.locals.length cl);refine(H1 _ (by exact frc)).mono ?_;rintro e w1 ⟨rfl,hf1⟩;obtain⟨e0,e1,e2,e3,e4,e5,e6,e7⟩:=(hB'.keep (by exact((Fr.refl No wr).alloc _).trans0 hf1)).c8;obtain⟨f0,f1,f2⟩:=((Bx.new wr 165 #[.int .i64 x.at_,.slice Al x.locals.length cl,.slice As x.stack.length cs]).keep hf1).c3)
      | (go_at_call_of 137 (Value.slice As x.stack.length cs);refine(H2 _ (by exact frc)).mono ?_;rintro e w2 ⟨rfl,hf2⟩))
    all_goals first
     | (go_roundw;(case rel=>exact⟨k+1,x.at_,by omega,by go_num,rfl,rfl,HS.out (zfZ (by omega) (by omega) (by assumption) (by omega) h1.out h2.out),by exact frc⟩);(case measure=>simp[intOf];omega))
     | (go_ret;exact .mk (by rw[HN.out (zf0 (by first|(left;omega)|(right;left;omega)|(right;right;left;assumption)|(right;right;right;left;omega)|(right;right;right;right;left;assumption)|(right;right;right;right;right;assumption)))]) (by exact frc))
   ·have HS:Hid (zf4 m=true):=by have:=ha.out;rwa [List.drop_eq_nil_of_le (by omega)] at this
    clear ha hm
    go_wp2
    go_ret
    exact .mk (by rw[HS.out]) (by exact frc)
 ·have hb:Hid (zf4 m=false):=by unfold Hid zf4;rw[decide_eq_false hr];rfl
  clear hm
  go_enter Tryz.func111,Tryz.ntmps111
  go_wp2
  go_ret
  exact .mk (by rw[hb.out]) (by exact frc)
end Go.Proofs.YtpghfhjhjlmljaaGreat
