/- The program's own road from keeper to keeper: a class that is there; who is asked; whose a class is. -/
import Derived.Test.YtmeaibjmnjcdfaaGreatDoorZG28
import Derived.OwnWalk
namespace Go.Proofs.YtmeaibjmnjcdfaaGreatDoor
open Go.RowKit
def IntC (cs:List Value) (n:Int):Prop:=cs=[.int .i64 n]
def zbf (p:Plan) (k:Int) (s:Str):Ref×Int:=if hasK p k then whose p k s else (zbH,2)
def zbg (p:Plan) (k:Int) (s:Str) (w:World) (e:Ending) (w':World):Prop:=
 ∃v,e=.returned (.tuple #[v,.int .i64 (zbf p k s).2])∧Fr No w w'∧((zbf p k s).2=1->∃xs,(zbf p k s).1.name=s∧Sl No w' 1 IntC v (xs ++ [(zbf p k s).1.keeper]))
theorem zbg.no {p:Plan} {k c:Int} {s:Str} {w w':World} {v:Value} (h:(zbf p k s).2=c) (hc:c≠1) (hf:Fr No w w'):zbg p k s w (.returned (.tuple #[v,.int .i64 c])) w':=
 ⟨v,by rw[h],hf,fun h'=>absurd (h.symm.trans h') hc⟩
theorem zbg.yes {p:Plan} {k kc:Int} {s:Str} {w w':World} {v:Value} {xs:List Int} (h:zbf p k s=(⟨kc,s⟩,1)) (hf:Fr No w w') (hv:Sl No w' 1 IntC v (xs ++ [kc])):zbg p k s w (.returned (.tuple #[v,.int .i64 1])) w':=
 ⟨v,by rw[h],hf,fun _=>⟨xs,by rw[h],by rw[h];exact hv⟩⟩
def sliceLen:Value->Nat
 | .slice _ n _=>n
 | _=>0
theorem Sl.last {w:World} {A:Option Addr} {n cap:Nat} {xs:List Int} {x:Int} (h:Sl No w 1 IntC (.slice A n cap) (xs ++ [x])):n=xs.length+1∧n≤cap∧n≤maxLen∧∃b off,A=some ⟨b,off,none⟩∧w.cell? ⟨b,off+xs.length,none⟩=some (.int .i64 x):=by
 obtain⟨h1,h2,h3,h4⟩:=h.at_
 obtain⟨b,off,rfl,_,cs,hR,hl,hc⟩:=h4 xs.length (by simp)
 have hR:cs=[.int .i64 x]:=by simpa[IntC] using hR
 subst hR
 refine⟨by simpa using h1,h2,h3,b,off,rfl,?_⟩
 have:=hc 0 (by omega)
 simpa using this
end Go.Proofs.YtmeaibjmnjcdfaaGreatDoor
