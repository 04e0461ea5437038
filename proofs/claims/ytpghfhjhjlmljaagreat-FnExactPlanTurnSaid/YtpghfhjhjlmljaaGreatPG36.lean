/- What data weighs: how many marks the laws lay on it; the shape of what is marked. No program is named here. -/
import Derived.Test.YtpghfhjhjlmljaaGreatPG35
import Derived.Laws.IdiomStrings
set_option maxHeartbeats 1000000
set_option maxRecDepth 100000
namespace Go.Proofs.YtpghfhjhjlmljaaGreat
open Go.RowKit
def sumN:List Nat->Nat
 | []=>0
 | x :: xs=>x+sumN xs
theorem zou {α:Type} (f:α->Nat):∀xs:List α,sumN (xs.map f)=sumL f xs
 | []=>rfl
 | x :: xs=>by rw[List.map_cons,sumN,sumL,zou f xs]
theorem zov (xs:List Nat) (k:Nat) (h:k<xs.length):sumN (xs.take (k+1))=sumN (xs.take k)+xs[k]:=by
 have h1:=zgg (fun x=>x) xs k h
 have e:∀ys:List Nat,sumL (fun x=>x) ys=sumN ys:=fun ys=>by
  induction ys with
  | nil=>rfl
  | cons y ys ih=>rw[sumL,sumN,ih]
 rw[e,e] at h1
 exact h1
theorem zow (xs:List Nat) (k:Nat):sumN (xs.take k)≤sumN xs:=by
 induction xs generalizing k with
 | nil=>simp[sumN]
 | cons x xs ih=>
  cases k with
  | zero=>simp[sumN]
  | succ k=>have:=ih k;simp[sumN];omega
theorem zox {α:Type} {f g:α->Nat} {c:Nat} (h:∀x,f x≤c * (1+g x)):∀xs:List α,sumL f xs≤c * szL g xs
 | []=>by simp[sumL]
 | x :: xs=>by
  have h1:=h x
  have h2:=zox h xs
  unfold szL at h2 ⊢
  simp only[sumL,List.length_cons]
  have e:c * (xs.length+1+(g x+sumL g xs))=c * (xs.length+sumL g xs)+c * (1+g x):=by rw[<-Nat.mul_add];congr 1;omega
  omega
def KndW (cs:List Value) (m:Nat):Prop:=m=2∧∃k s,cs=[.int .i64 k,.string s]
def TagW (cs:List Value) (m:Nat):Prop:=m=2∧∃k s,cs=[.int .i64 k,.string s]
def InsW (cs:List Value) (m:Nat):Prop:=m=4∧∃k a s t,cs=[.int .i64 k,.int .i64 a,.string s,.string t]
def FldW (cs:List Value) (m:Nat):Prop:=m=3∧∃s k t,cs=[.string s,.int .i64 k,.string t]
def AskW (cs:List Value) (m:Nat):Prop:=m=2∧∃s k,cs=[.string s,.int .i64 k]
def MapW (X:Nat->Prop) (w:World) (cs:List Value) (m:Nat):Prop:=
 ∃a vl vs ml ms,cs=[.int .i64 a,vl,vs]∧Sl X w 2 TagW vl ml∧Sl X w 2 TagW vs ms∧m=1+sumN ml+sumN ms
def MthW (X:Nat->Prop) (w:World) (cs:List Value) (m:Nat):Prop:=
 ∃s va k t l st vc vm ma mc mm,cs=[.string s,va,.int .i64 k,.string t,.int .i64 l,.int .i64 st,vc,vm]∧Sl X w 2 KndW va ma∧Sl X w 4 InsW vc mc∧Sl X w 3 (MapW X w) vm mm∧m=1+sumN ma+4+sumN mc+sumN mm
def ClsW (X:Nat->Prop) (w:World) (cs:List Value) (m:Nat):Prop:=
 ∃s t vf vm mf mm,cs=[.string s,.string t,vf,vm]∧Sl X w 3 FldW vf mf∧Sl X w 8 (MthW X w) vm mm∧m=2+sumN mf+sumN mm
def KprW (X:Nat->Prop) (w:World) (cs:List Value) (m:Nat):Prop:=
 ∃vo va mo ma,cs=[vo,va]∧Sl X w 4 (ClsW X w) vo mo∧Sl X w 2 AskW va ma∧m=sumN mo+sumN ma
theorem zoy {l:List Value} {a b:Value} (hl:l.length=2) (h0:l[0]? =some a) (h1:l[1]? =some b):l=[a,b]:=by
 match l,hl with
 | [x,y],_=>simp at h0 h1;rw[h0,h1]
theorem zoz {l:List Value} {a b c:Value} (hl:l.length=3) (h0:l[0]? =some a) (h1:l[1]? =some b) (h2:l[2]? =some c):l=[a,b,c]:=by
 match l,hl with
 | [x,y,z],_=>simp at h0 h1 h2;rw[h0,h1,h2]
theorem zoA {l:List Value} {a b c d:Value} (hl:l.length=4) (h0:l[0]? =some a) (h1:l[1]? =some b) (h2:l[2]? =some c) (h3:l[3]? =some d):l=[a,b,c,d]:=by
 match l,hl with
 | [x,y,z,u],_=>simp at h0 h1 h2 h3;rw[h0,h1,h2,h3]
theorem zoB {l:List Value} {a b c d e f g i:Value} (hl:l.length=8) (h0:l[0]? =some a) (h1:l[1]? =some b) (h2:l[2]? =some c) (h3:l[3]? =some d) (h4:l[4]? =some e) (h5:l[5]? =some f) (h6:l[6]? =some g) (h7:l[7]? =some i):l=[a,b,c,d,e,f,g,i]:=by
 match l,hl with
 | [x,y,z,u,v,s,t,r],_=>simp at h0 h1 h2 h3 h4 h5 h6 h7;rw[h0,h1,h2,h3,h4,h5,h6,h7]
section
variable {X Z:Nat->Prop} {w w':World}
theorem KndW.lk {cs cs':List Value} {m:Nat} (h:KndW cs m) (hl:cs'.length=cs.length) (hk:∀(j:Nat) (u:Value),cs[j]? =some u->∃u',cs'[j]? =some u'∧LkV u u'):KndW cs' m:=by
 obtain⟨rfl,k,s,rfl⟩:=h
 obtain⟨_,a1,a2⟩:=hk 0 _ rfl
 obtain⟨_,b1,b2⟩:=hk 1 _ rfl
 obtain⟨k',rfl⟩:=a2.int
 obtain⟨s',rfl⟩:=b2.str
 exact⟨rfl,k',s',zoy hl a1 b1⟩
theorem TagW.lk {cs cs':List Value} {m:Nat} (h:TagW cs m) (hl:cs'.length=cs.length) (hk:∀(j:Nat) (u:Value),cs[j]? =some u->∃u',cs'[j]? =some u'∧LkV u u'):TagW cs' m:=KndW.lk h hl hk
theorem InsW.lk {cs cs':List Value} {m:Nat} (h:InsW cs m) (hl:cs'.length=cs.length) (hk:∀(j:Nat) (u:Value),cs[j]? =some u->∃u',cs'[j]? =some u'∧LkV u u'):InsW cs' m:=by
 obtain⟨rfl,k,a,s,t,rfl⟩:=h
 obtain⟨_,a1,a2⟩:=hk 0 _ rfl
 obtain⟨_,b1,b2⟩:=hk 1 _ rfl
 obtain⟨_,c1,c2⟩:=hk 2 _ rfl
 obtain⟨_,d1,d2⟩:=hk 3 _ rfl
 obtain⟨k',rfl⟩:=a2.int
 obtain⟨a',rfl⟩:=b2.int
 obtain⟨s',rfl⟩:=c2.str
 obtain⟨t',rfl⟩:=d2.str
 exact⟨rfl,k',a',s',t',zoA hl a1 b1 c1 d1⟩
theorem FldW.lk {cs cs':List Value} {m:Nat} (h:FldW cs m) (hl:cs'.length=cs.length) (hk:∀(j:Nat) (u:Value),cs[j]? =some u->∃u',cs'[j]? =some u'∧LkV u u'):FldW cs' m:=by
 obtain⟨rfl,s,k,t,rfl⟩:=h
 obtain⟨_,a1,a2⟩:=hk 0 _ rfl
 obtain⟨_,b1,b2⟩:=hk 1 _ rfl
 obtain⟨_,c1,c2⟩:=hk 2 _ rfl
 obtain⟨s',rfl⟩:=a2.str
 obtain⟨k',rfl⟩:=b2.int
 obtain⟨t',rfl⟩:=c2.str
 exact⟨rfl,s',k',t',zoz hl a1 b1 c1⟩
theorem AskW.lk {cs cs':List Value} {m:Nat} (h:AskW cs m) (hl:cs'.length=cs.length) (hk:∀(j:Nat) (u:Value),cs[j]? =some u->∃u',cs'[j]? =some u'∧LkV u u'):AskW cs' m:=by
 obtain⟨rfl,s,k,rfl⟩:=h
 obtain⟨_,a1,a2⟩:=hk 0 _ rfl
 obtain⟨_,b1,b2⟩:=hk 1 _ rfl
 obtain⟨s',rfl⟩:=a2.str
 obtain⟨k',rfl⟩:=b2.int
 exact⟨rfl,s',k',zoy hl a1 b1⟩
theorem slv {A:Option Addr} {n c:Nat} {v v':Value} (hv:v=.slice A n c) (h:LkV v v'):v'=v:=by subst hv;exact h.sl
theorem MapW.lk {cs cs':List Value} {m:Nat} (h:MapW X w cs m) (ht:Tw Z w w') (hl:cs'.length=cs.length) (hk:∀(j:Nat) (u:Value),cs[j]? =some u->∃u',cs'[j]? =some u'∧LkV u u'):MapW X w' cs' m:=by
 obtain⟨a,vl,vs,ml,ms,rfl,h1,h2,rfl⟩:=h
 obtain⟨_,a1,a2⟩:=hk 0 _ rfl
 obtain⟨_,b1,b2⟩:=hk 1 _ rfl
 obtain⟨_,c1,c2⟩:=hk 2 _ rfl
 obtain⟨a',rfl⟩:=a2.int
 obtain⟨A1,n1,e1,_⟩:=h1.form
 obtain⟨A2,n2,e2,_⟩:=h2.form
 obtain rfl:=slv e1 b2
 obtain rfl:=slv e2 c2
 exact⟨a',_,_,ml,ms,zoz hl a1 b1 c1,h1.tw ht (fun _ _ _ _ h a b=>h.lk a b),h2.tw ht (fun _ _ _ _ h a b=>h.lk a b),rfl⟩
theorem MthW.lk {cs cs':List Value} {m:Nat} (h:MthW X w cs m) (ht:Tw Z w w') (hl:cs'.length=cs.length) (hk:∀(j:Nat) (u:Value),cs[j]? =some u->∃u',cs'[j]? =some u'∧LkV u u'):MthW X w' cs' m:=by
 obtain⟨s,va,k,t,l,st,vc,vm,ma,mc,mm,rfl,h1,h2,h3,rfl⟩:=h
 obtain⟨_,a1,a2⟩:=hk 0 _ rfl
 obtain⟨_,b1,b2⟩:=hk 1 _ rfl
 obtain⟨_,c1,c2⟩:=hk 2 _ rfl
 obtain⟨_,d1,d2⟩:=hk 3 _ rfl
 obtain⟨_,f1,f2⟩:=hk 4 _ rfl
 obtain⟨_,g1,g2⟩:=hk 5 _ rfl
 obtain⟨_,i1,i2⟩:=hk 6 _ rfl
 obtain⟨_,j1,j2⟩:=hk 7 _ rfl
 obtain⟨s',rfl⟩:=a2.str
 obtain⟨k',rfl⟩:=c2.int
 obtain⟨t',rfl⟩:=d2.str
 obtain⟨l',rfl⟩:=f2.int
 obtain⟨st',rfl⟩:=g2.int
 obtain⟨A1,n1,e1,_⟩:=h1.form
 obtain⟨A2,n2,e2,_⟩:=h2.form
 obtain⟨A3,n3,e3,_⟩:=h3.form
 obtain rfl:=slv e1 b2
 obtain rfl:=slv e2 i2
 obtain rfl:=slv e3 j2
 exact⟨s',_,k',t',l',st',_,_,ma,mc,mm,zoB hl a1 b1 c1 d1 f1 g1 i1 j1,h1.tw ht (fun _ _ _ _ h a b=>h.lk a b),h2.tw ht (fun _ _ _ _ h a b=>h.lk a b),h3.tw ht (fun _ _ _ _ h a b=>h.lk ht a b),rfl⟩
theorem ClsW.lk {cs cs':List Value} {m:Nat} (h:ClsW X w cs m) (ht:Tw Z w w') (hl:cs'.length=cs.length) (hk:∀(j:Nat) (u:Value),cs[j]? =some u->∃u',cs'[j]? =some u'∧LkV u u'):ClsW X w' cs' m:=by
 obtain⟨s,t,vf,vm,mf,mm,rfl,h1,h2,rfl⟩:=h
 obtain⟨_,a1,a2⟩:=hk 0 _ rfl
 obtain⟨_,b1,b2⟩:=hk 1 _ rfl
 obtain⟨_,c1,c2⟩:=hk 2 _ rfl
 obtain⟨_,d1,d2⟩:=hk 3 _ rfl
 obtain⟨s',rfl⟩:=a2.str
 obtain⟨t',rfl⟩:=b2.str
 obtain⟨A1,n1,e1,_⟩:=h1.form
 obtain⟨A2,n2,e2,_⟩:=h2.form
 obtain rfl:=slv e1 c2
 obtain rfl:=slv e2 d2
 exact⟨s',t',_,_,mf,mm,zoA hl a1 b1 c1 d1,h1.tw ht (fun _ _ _ _ h a b=>h.lk a b),h2.tw ht (fun _ _ _ _ h a b=>h.lk ht a b),rfl⟩
theorem KprW.lk {cs cs':List Value} {m:Nat} (h:KprW X w cs m) (ht:Tw Z w w') (hl:cs'.length=cs.length) (hk:∀(j:Nat) (u:Value),cs[j]? =some u->∃u',cs'[j]? =some u'∧LkV u u'):KprW X w' cs' m:=by
 obtain⟨vo,va,mo,ma,rfl,h1,h2,rfl⟩:=h
 obtain⟨_,a1,a2⟩:=hk 0 _ rfl
 obtain⟨_,b1,b2⟩:=hk 1 _ rfl
 obtain⟨A1,n1,e1,_⟩:=h1.form
 obtain⟨A2,n2,e2,_⟩:=h2.form
 obtain rfl:=slv e1 a2
 obtain rfl:=slv e2 b2
 exact⟨_,_,mo,ma,zoy hl a1 b1,h1.tw ht (fun _ _ _ _ h a b=>h.lk ht a b),h2.tw ht (fun _ _ _ _ h a b=>h.lk a b),rfl⟩
end
def wtMp (x:Mp):Nat:=1+2 * x.locals.length+2 * x.stack.length
def zoC (x:Mth):Nat:=5+2 * x.args.length+4 * x.code.length+sumL wtMp x.maps
def zoD (x:Cls):Nat:=2+3 * x.fields.length+sumL zoC x.methods
def zoE (x:Kpr):Nat:=sumL zoD x.owns+2 * x.asks.length
theorem zoF {α:Type} (c:Nat):∀xs:List α,sumL (fun _=>c) xs=c * xs.length
 | []=>rfl
 | x :: xs=>by rw[sumL,zoF c xs,List.length_cons,Nat.mul_add];omega
section
variable {X:Nat->Prop} {w:World}
theorem Sl.wt {α:Type} {sz c:Nat} {R:List Value->α->Prop} {Q:List Value->Nat->Prop} {v:Value} {xs:List α} (h:Sl X w sz R v xs) (hR:∀cs x,R cs x->Q cs c):∃ms,Sl X w sz Q v ms∧sumN ms=c * xs.length:=
 ⟨_,h.map_ (fun _=>c) (fun cs x _ h=>hR cs x h),by rw[zou];exact zoF c xs⟩
theorem Sl.wtd {α:Type} {sz:Nat} {R:List Value->α->Prop} {Q:List Value->Nat->Prop} {v:Value} {xs:List α} (f:α->Nat) (h:Sl X w sz R v xs) (hR:∀cs x,R cs x->Q cs (f x)):∃ms,Sl X w sz Q v ms∧sumN ms=sumL f xs:=
 ⟨_,h.map_ f (fun cs x _ h=>hR cs x h),zou f xs⟩
theorem MapC.wt {cs:List Value} {x:Mp} (h:MapC X w cs x):MapW X w cs (wtMp x):=by
 obtain⟨vl,vs,rfl,h1,h2⟩:=h
 obtain⟨ml,g1,e1⟩:=h1.wt (Q:=TagW) (c:=2) (fun _ _ h=>⟨rfl,_,_,h.1⟩)
 obtain⟨ms,g2,e2⟩:=h2.wt (Q:=TagW) (c:=2) (fun _ _ h=>⟨rfl,_,_,h.1⟩)
 exact⟨_,_,_,ml,ms,rfl,g1,g2,by unfold wtMp;omega⟩
theorem MthC.wt {cs:List Value} {x:Mth} (h:MthC X w cs x):MthW X w cs (zoC x):=by
 obtain⟨va,vc,vm,rfl,_,_,h1,h2,h3⟩:=h
 obtain⟨ma,g1,e1⟩:=h1.wt (Q:=KndW) (c:=2) (fun _ _ h=>⟨rfl,_,_,h.1⟩)
 obtain⟨mc,g2,e2⟩:=h2.wt (Q:=InsW) (c:=4) (fun _ _ h=>⟨rfl,_,_,_,_,h.1⟩)
 obtain⟨mm,g3,e3⟩:=h3.wtd (Q:=MapW X w) wtMp (fun _ _ h=>h.wt)
 exact⟨_,_,_,_,_,_,_,_,ma,mc,mm,rfl,g1,g2,g3,by unfold zoC;omega⟩
theorem ClsC.wt {cs:List Value} {x:Cls} (h:ClsC X w cs x):ClsW X w cs (zoD x):=by
 obtain⟨vf,vm,rfl,_,_,h1,h2⟩:=h
 obtain⟨mf,g1,e1⟩:=h1.wt (Q:=FldW) (c:=3) (fun _ _ h=>⟨rfl,_,_,_,h.1⟩)
 obtain⟨mm,g2,e2⟩:=h2.wtd (Q:=MthW X w) zoC (fun _ _ h=>h.wt)
 exact⟨_,_,_,_,mf,mm,rfl,g1,g2,by unfold zoD;omega⟩
theorem KprC.wt {cs:List Value} {x:Kpr} (h:KprC X w cs x):KprW X w cs (zoE x):=by
 obtain⟨vo,va,rfl,h1,h2⟩:=h
 obtain⟨mo,g1,e1⟩:=h1.wtd (Q:=ClsW X w) zoD (fun _ _ h=>h.wt)
 obtain⟨ma,g2,e2⟩:=h2.wt (Q:=AskW) (c:=2) (fun _ _ h=>⟨rfl,_,_,h.1⟩)
 exact⟨_,_,mo,ma,rfl,g1,g2,by unfold zoE;omega⟩
end
theorem zoG (x:Mp):wtMp x≤8 * (1+szMp x):=by
 have h1:=zgj zhD x.locals
 have h2:=zgj zhD x.stack
 unfold wtMp szMp
 omega
theorem zoH (x:Mth):zoC x≤8 * (1+zhO x):=by
 have h1:=zgj zhA x.args
 have h2:=zgj zhG x.code
 have h3:=zox zoG x.maps
 unfold zoC zhO
 omega
theorem zoI (x:Cls):zoD x≤8 * (1+zhR x):=by
 have h1:=zgj zhJ x.fields
 have h2:=zox zoH x.methods
 unfold zoD zhR
 omega
theorem zoJ (W:World) (b:Nat) (d:UInt8) (hc:W.cell? ⟨b,0,none⟩=some (.int .u8 (d.toNat:Int))):
  (convert 191 9 (.slice (some ⟨b,0,none⟩) 1 1)).run Tryz.prog W=.ok (.string ⟨#[d]⟩) W:=by
 have:=run_convert_bytes_back (P:=Tryz.prog) W 191 9 5 ⟨b,0,none⟩ 1 [d] Tryz.underlying191 Tryz.underlying5 Tryz.underlying9 (fun j hj=>by
  simp only[List.length_cons,List.length_nil] at hj
  obtain rfl:j=0:=by omega
  exact hc)
 exact this
def dig1 (k:Nat):Str:=⟨#[UInt8.ofNat (48+k % 10)]⟩
def zoK (k:Nat) (o:Str):Str:=if _h:k=0 then o else zoK (k / 10) (dig1 k ++ o)
termination_by k
decreasing_by exact Nat.div_lt_self (Nat.pos_of_ne_zero _h) (by decide)
def zoL (k:Int):Str:=if k≤0 then ⟨#[109,48]⟩ else (⟨#[109]⟩:Str) ++ zoK k.toNat ⟨#[]⟩
theorem zoM (k:Int) (w:World) (h1:k≤1000000000):Calls Tryz.prog 90 #[.int .i64 k] w (Gives (.string (zoL k)) w):=by
 by_cases h0:k≤0
 ·have hV:Hid (zoL k=⟨#[109,48]⟩):=if_pos h0
  go_enter Tryz.func90,Tryz.ntmps90
  go_wp2
  go_ret
  exact .mk (by rw[hV.out];rfl) (by exact frc)
 ·have hV:Hid (zoL k=(⟨#[109]⟩:Str) ++ zoK k.toNat ⟨#[]⟩):=if_neg h0
  obtain⟨n,rfl⟩:=Int.eq_ofNat_of_zero_le (show 0≤k by omega)
  go_enter Tryz.func90,Tryz.ntmps90
  go_wp2
  go_loopw [0,3] (fun i o wr=>∃(m:Nat) (s:Str),s.size+m≤n∧i=.int .i64 m∧o=.string s∧Hid (zoK n ⟨#[]⟩=zoK m s)∧Fr No w wr) (fun i _ _=>(intOf i).toNat)
  case atStart=>exact⟨n,_,by show 0+n≤n;omega,rfl,rfl,rfl,Fr.refl _ _⟩
  case round=>
   obtain⟨m,s,hm,rfl,rfl,hd,hf⟩:=hrel
   by_cases hlt:0<m
   ·have hx:(UInt8.ofNat (48+m % 10)).toNat=48+m % 10:=by
     rw[UInt8.toNat_ofNat']
     omega
    have hc2:∀W b,W.cell? ⟨b,0,none⟩=some (.int .u8 (48+(m:Int) % 10))->(convert 191 9 (.slice (some ⟨b,0,none⟩) 1 1)).run Tryz.prog W=.ok (.string (dig1 m)) W:=fun W b h=>zoJ W b _ (by rw[h,hx];simp)
    have hz:(dig1 m).size=1:=rfl
    go_wp2
    go_roundw
    case rel=>
     refine⟨m / 10,_,?_,by go_num,rfl,?_,by exact frc⟩
     ·have:(dig1 m ++ s).size=(dig1 m).size+s.size:=ByteArray.size_append
      omega
     ·show _=_
      rw[hd.out,zoK,dif_neg (by omega)]
    case measure=>simp[intOf];omega
   ·obtain rfl:m=0:=by omega
    have hv:zoK n ⟨#[]⟩=s:=by rw[hd.out,zoK,dif_pos rfl]
    have hz:(⟨#[109]⟩:Str).size=1:=rfl
    go_wp2
    go_ret
    exact .mk (by rw[hV.out,<-hv];rfl) (by exact frc)
theorem zdP {P:Program} {f:FuncId} {args:Array Value} {w:World} {Q:Ending->World->Prop} (R:World->Prop) (h:R w) (k:∀W,R W->Calls P f args W Q):Calls P f args w Q:=k w h
end Go.Proofs.YtpghfhjhjlmljaaGreat
