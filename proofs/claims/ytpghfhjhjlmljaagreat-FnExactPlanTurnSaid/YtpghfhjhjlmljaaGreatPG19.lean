/- The program's own road from keeper to keeper: a class that is there; who is asked; whose a class is. -/
import Derived.Test.YtpghfhjhjlmljaaGreatPG13
import Derived.OwnWalk
import Derived.Shelf.RegionOpen
set_option maxHeartbeats 400000
namespace Go.Proofs.YtpghfhjhjlmljaaGreat
open Go.RowKit Go.Shelf
def IntC (cs:List Value) (n:Int):Prop:=cs=[.int .i64 n]
def zbf (p:Plan) (k:Int) (s:Str):Ref×Int:=if hasK p k then whose p k s else (zbH,2)
def zbg (p:Plan) (k:Int) (s:Str) (w:World) (e:Ending) (w':World):Prop:=
 ∃v,e=.returned (.tuple #[v,.int .i64 (zbf p k s).2])∧Fr No w w'∧((zbf p k s).2=1->∃xs,(zbf p k s).1.name=s∧Sl No w' 1 IntC v (xs ++ [(zbf p k s).1.keeper]))
theorem zbg.no {p:Plan} {k c:Int} {s:Str} {w w':World} {v:Value} (h:(zbf p k s).2=c) (hc:c≠1) (hf:Fr No w w'):zbg p k s w (.returned (.tuple #[v,.int .i64 c])) w':=
 ⟨v,by rw[h],hf,fun h'=>absurd (h.symm.trans h') hc⟩
theorem zbg.yes {p:Plan} {k kc:Int} {s:Str} {w w':World} {v:Value} {xs:List Int} (h:zbf p k s=(⟨kc,s⟩,1)) (hf:Fr No w w') (hv:Sl No w' 1 IntC v (xs ++ [kc])):zbg p k s w (.returned (.tuple #[v,.int .i64 1])) w':=
 ⟨v,by rw[h],hf,fun _=>⟨xs,by rw[h],by rw[h];exact hv⟩⟩
def sliceLen:Value->Nat
 | .slice _ n _=>n
 | _=>0
theorem Sl.last {w:World} {A:Option Addr} {n cap:Nat} {xs:List Int} {x:Int} (h:Sl No w 1 IntC (.slice A n cap) (xs ++ [x])):n=xs.length+1∧n≤cap∧n≤maxLen∧∃b off,A=some ⟨b,off,none⟩∧w.cell? ⟨b,off+xs.length,none⟩=some (.int .i64 x):=by
 obtain⟨h1,h2,h3,h4⟩:=h.at_
 obtain⟨b,off,rfl,_,cs,hR,hl,hc⟩:=h4 xs.length (by simp)
 have hR:cs=[.int .i64 x]:=by simpa[IntC] using hR
 subst hR
 refine⟨by simpa using h1,h2,h3,b,off,rfl,?_⟩
 have:=hc 0 (by omega)
 simpa using this
attribute [local go_sem] Oper.semAt_some
def zmo (r:Ref):List Value:=[.int .i64 r.keeper,.string r.name]
def zmp (cc:Nat) (w:World):Nat:=sliceLen ((w.cell? ⟨cc,0,none⟩).getD undef)
theorem zmq {w:World} {base sz n:Nat} {e:TypeId} {v:Value} {xs:List Value} (h:w.ownsRow base e sz v n xs):sliceLen v=n:=by
 obtain⟨_,⟨rfl,rfl⟩ | ⟨g,cap,cur,rfl,_⟩⟩:=h<;>rfl
theorem zms {w w':World} {X:Nat->Prop} {base sz n:Nat} {e:TypeId} {v:Value} {xs:List Value} (h:w.ownsRow base e sz v n xs) (hf:Fr X w w') (hX:∀b,X b->b<base):w'.ownsRow base e sz v n xs:=by
 obtain⟨hl,h | ⟨g,cap,cur,rfl,hg,hb,h1,h2,h3,h4⟩⟩:=h
 ·exact⟨hl,.inl h⟩
 ·have hb':Bx w g e cur:=hb
  exact⟨hl,.inr ⟨g,cap,cur,rfl,hg,hb'.keepX hf (fun hx=>by have:=hX g hx;omega),h1,h2,h3,h4⟩⟩
attribute [local go_sem] Oper.semAt_some
def zmG (xs:List Ref) (w:World) (e:Ending) (w':World):Prop:=∃v,e=.returned v∧Sl No w' 2 RefC v xs∧Fr No w w'
theorem zmG.nil {w w':World} {xs:List Ref} (h:xs=[]) (hf:Fr No w w'):zmG xs w (.returned (.slice none 0 0)) w':=by subst h;exact⟨_,rfl,Sl.nil _ _ _ _,hf⟩
theorem zgW:∀(seen fs:List Cls),zbt seen fs=true->∀c∈fs,clsB c=true
 | _,[],_,_,h=>by cases h
 | seen,f :: fs,h,c,hc=>by
  rw[zbt] at h
  simp only[lz5] at h
  rcases List.mem_cons.1 hc with rfl|hc
  ·exact h.1.1
  ·exact zgW _ fs h.2 c hc
theorem zgZ:∀(seen fs:List Mth),zeJ seen fs=true->∀c∈fs,mthB c=true
 | _,[],_,_,h=>by cases h
 | seen,f :: fs,h,c,hc=>by
  rw[zeJ] at h
  simp only[lz5] at h
  rcases List.mem_cons.1 hc with rfl|hc
  ·exact h.1.1
  ·exact zgZ _ fs h.2 c hc
theorem zg1 {c:Cls} (h:clsB c=true):∀m∈c.methods,mthB m=true:=by
 unfold clsB at h
 simp only[lz5] at h
 exact zgZ _ _ h.2
theorem zg3 {p:Plan} (hp:lodB p=true) {k:Nat} (hk:k<p.keepers.length):∀c∈(zbC p (k:Int)).owns,clsB c=true:=by
 have h:=zbL hp hk
 rw[zbN hk]
 unfold kprB at h
 simp only[lz5] at h
 exact zgW _ _ h.1.2
theorem Here.clsB {p:Plan} (hp:lodB p=true) {r:Ref} {k i:Nat} (h:Here p r k i):Go.Proofs.YtpghfhjhjlmljaaGreat.clsB (zbG p r)=true:=by
 rw[h.cls]
 exact zg3 hp h.2.1 _ (List.getElem_mem _)
def zAU (c:Cls):Bool:=c.name.toList.isEmpty&&c.super.toList.isEmpty&&decide ((c.fields.length:Int)=0)&&decide ((c.methods.length:Int)=0)
theorem zAV (X:Nat->Prop) (c:Cls) (cs:List Value) (w:World) (h:ClsC X w cs c):
  Calls Tryz.prog 37 #[.agg cs.toArray] w (zgm (zAU c) w):=by
 obtain⟨vf,vm,rfl,hn,hsn,hf,hm⟩:=h
 obtain⟨Af,cf,rfl,hcf,hfl⟩:=hf.form
 obtain⟨Am,cm,rfl,hcm,hml⟩:=hm.form
 unfold maxLen at hfl hml
 clear hf hm
 have hb:Hid (zAU c=(c.name.toList.isEmpty&&c.super.toList.isEmpty&&decide ((c.fields.length:Int)=0)&&decide ((c.methods.length:Int)=0))):=rfl
 generalize hnb:zAU c=nb at *
 have hcase:c.name.toList.isEmpty=false∨(c.name.toList.isEmpty=true∧c.super.toList.isEmpty=false)∨(c.name.toList.isEmpty=true∧c.super.toList.isEmpty=true∧((c.fields.length:Int) == 0)=false) ∨
   (c.name.toList.isEmpty=true∧c.super.toList.isEmpty=true∧((c.fields.length:Int) == 0)=true∧((c.methods.length:Int) == 0)=false) ∨
   (c.name.toList.isEmpty=true∧c.super.toList.isEmpty=true∧((c.fields.length:Int) == 0)=true∧((c.methods.length:Int) == 0)=true):=by
  cases c.name.toList.isEmpty<;>cases c.super.toList.isEmpty<;>cases((c.fields.length:Int) == 0)<;>cases((c.methods.length:Int) == 0)<;>simp
 clear hnb
 rcases hcase with g1 | ⟨g1,g2⟩ | ⟨g1,g2,g3⟩ | ⟨g1,g2,g3,g4⟩ | ⟨g1,g2,g3,g4⟩
 all_goals
  have hb:Hid (nb=_):=hb
  go_enter Tryz.func37,Tryz.ntmps37
  go_wp2
  go_ret
  refine .mk ?_ (by exact frc)
  rw[hb.out]
  simp_all
end Go.Proofs.YtpghfhjhjlmljaaGreat
