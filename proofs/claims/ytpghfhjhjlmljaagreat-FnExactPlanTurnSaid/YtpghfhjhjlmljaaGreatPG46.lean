/- The law FnExactPlanTurn holds: for all keepers and every change, the program's PlanTurn returns what the reference's returns, in memory of its own, and leaves its arguments as they were; no condition. -/
import Derived.Test.YtpghfhjhjlmljaaGreatPG44
import Derived.Test.YtpghfhjhjlmljaaGreatPG45
import Derived.ProofKit
import Derived.Below
import Derived.ChangeSame
import Derived.LaidMore
set_option maxRecDepth 100000
namespace Go.Proofs.YtpghfhjhjlmljaaGreat
open Go.ChangeShapes Go.WideShapes Go.ChangeAt Go.RowKit
theorem own:ownKnob Tryz.prog.godebug=none:=by kernel_rfl
theorem laidOut:laidOutB Tryz.prog=true:=by kernel_rfl
section
variable {H:Type} {enc:TypeId×Value->H} {P:Program}
theorem zgp {f:Func} {s:ChangeSpec} {apart fresh handsOn again:Bool} {W W':World} {args:Array Value} {v:Value} {ds gs:List (DataW H)} {before pa pv:List MemPlace}
  (hW:DataW.Whole enc P f.params.toList s.vars apart W args.toList ds gs before)
  (hres:∀(b:Nat) (sp:Nat->Bool) (hd:Bool),DataW.TrodAll enc P W' b sp hd f.resultTypes.toList (v.resultList f.resultTypes.size) (s.fn H (ds ++ gs)).results [])
  (hargs:∀sp:Nat->Bool,(∀p∈before,sp p.block=true)->DataW.TrodAll enc P W' 0 sp true f.params.toList args.toList (s.fn H (ds ++ gs)).args pa)
  (hvars:∀sp:Nat->Bool,(∀p∈before,sp p.block=true)->DataW.TrodVars enc P W' sp s.vars (s.fn H (ds ++ gs)).vars pv)
  (hps:before=pa ++ pv) (hb:Below W.heap.size W W')
  (hok:∀(j:Nat) (t:TypeId) (r:Value),f.resultTypes[j]? =some t->(v.resultList f.resultTypes.size)[j]? =some r->Value.okWide P W' .any 0 t r):
  s.post enc P f apart fresh handsOn again W args v W':=by
 have hlt:∀p∈before,p.block<W.heap.size:=fun p hp=>hW.lt p hp
 have hold:∀p∈before,(fun b=>decide (b<W.heap.size)) p.block=true:=fun p hp=>by simpa using hlt p hp
 refine⟨ds,gs,before,[],pa,pv,hW,hres _ _ _,hargs _ hold,hvars _ hold,World.keptBut_mono (fun p hp=>⟨hp,?_⟩) (hb.frame (·∈before)),fun _=>?_⟩
 ·rw[hps,List.mem_append] at hp
  exact Or.inr hp
 ·obtain⟨_,_,_,_,_,hz,hn⟩:=hW
  refine⟨hok,_,_,([] ++ pa) ++ pv,⟨[] ++ pa,pv,trodAll_append (hargs _ (fun _ _=>rfl)) (hres _ _ _),hvars _ (fun _ _=>rfl),rfl,?_,?_⟩,?_⟩
  ·intro b off hp
   have hin:MemPlace.cell b off∈before:=by rw[hps];simpa using hp
   rw[hb.frozen (hlt _ hin)]
   exact hz b off hin
  ·intro ha
   have:=hn ha
   rw[hps] at this
   simpa using this
  ·intro p hp _
   rw[hps]
   simpa using hp
end
theorem lifted (os:Os) (started:os.Started) (H:Type) (enc:TypeId×Value->H):
  ReturnsInHanded {} Tryz.checked os 3 .any (Rows.fnExactPlanTurnSpec.pre6 enc Tryz.prog Tryz.f3 [] false)
   (Rows.fnExactPlanTurnSpec.post enc Tryz.prog Tryz.f3 false true false false):=by
 refine returnsInHanded_of_change (C:=Tryz.checked) own started (by kernel_rfl) Tryz.func3
  (ChangeSpec.witness6 (enc:=enc) (C:=Tryz.checked) (os:=os) false ⟨#[],#[.agg #[.slice none 0 0],.agg #[.int .i64 0,.int .i64 0,.string ⟨#[]⟩,.int .i64 0,.string ⟨#[]⟩,.string ⟨#[]⟩,.slice none 0 0,.slice none 0 0]],[]⟩ 8 (by kernel_rfl) (by kernel_rfl) (by kernel_rfl) (by kernel_rfl)) ?_
 intro W base args ds gs before hval0 hW _ _
 have hval:∀(j:Nat) t v,Tryz.f3.params[j]? =some t->args[j]? =some v->Value.okWide Tryz.prog W .any base t v:=hval0
 have hW':=hW
 obtain⟨p,q,hA0,hV,rfl,hfz,hnd⟩:=hW
 have hA:DataW.TrodAll enc Tryz.prog W 0 (fun _=>true) true Tryz.f3.params.toList args.toList ds p:=hA0
 rw[Tryz.params3] at hA hval
 obtain⟨v0,v1,d0,d1,p0,p1,rfl,rfl,rfl,h0,h1⟩:=trodAll_two hA
 obtain⟨rfl,rfl⟩:=trodVars_none hV
 obtain⟨arr0,rfl,_⟩:=okWide_struct Tryz.underlying24 (hval 0 _ v0 rfl rfl)
 obtain⟨arr1,rfl,_⟩:=okWide_struct Tryz.underlying30 (hval 1 _ v1 rfl rfl)
 have g0:=h0
 have g1:=h1
 obtain⟨fuel0,hf0⟩:=h0
 obtain⟨fuel1,hf1⟩:=h1
 obtain⟨p,hp⟩:=ziP hf0
 obtain⟨c,hc⟩:=zCF hf1
 clear hA0 hval0
 have hlt:∀x∈p0 ++ p1 ++ [],x.block<W.heap.size:=fun x hx=>hW'.lt x hx
 refine(zCE p c arr0.toList arr1.toList W hp hc).mono fun e W' ⟨he,hw⟩=>?_
 subst he
 exact⟨_,rfl,zgp (pa:=p0 ++ p1) (pv:=[]) hW' (fun _ _ _=>trodAll_mk1 (shut_bool Tryz.underlying4 true))
  (fun sp hsp=>trodAll_mk2
   (WideElems.Trod_stays laidOut (by kernel_rfl) (of_decide_eq_true (by kernel_rfl)) g0 (fun x hx=>hw.below.same (hlt x (by simp[hx]))) (fun x hx=>hsp x (by simp[hx])))
   (WideElems.Trod_stays laidOut (by kernel_rfl) (of_decide_eq_true (by kernel_rfl)) g1 (fun x hx=>hw.below.same (hlt x (by simp[hx]))) (fun x hx=>hsp x (by simp[hx]))))
  (fun _ _=>rfl) (by simp) hw.below (ok_one (by kernel_rfl) rfl (okWide_bool_mk Tryz.underlying4 true))⟩
theorem closed:joinedFacts Tryz.pinned.checked.prog 3 Tryz.f3 Rows.fnExactPlanTurnSpec Rows.fnExactPlanTurnRow=true:=by
 unfold joinedFacts
 refine zlX (zlX (zlX (zlX (zlX (zlX (zlX (zlX (zlX (zlX (zlX (zlX (zlX (zlX (zlX (zlX (zlX (zlX (zlX (zlX (zlX (zlX (zlX (zlX (zlX (zlX (zlX (zlX (zlX (zlX (zlX ?_ zl2) zl3) ?_) ?_) ?_) ?_) ?_) ?_) zl7) zl6) zl5) zl4) ?_) ?_) ?_) ?_) ?_) ?_) ?_) ?_) ?_) ?_) ?_) zl1) zlY) zlZ) zl0) ?_) ?_) ?_) ?_
 all_goals kernel_rfl
theorem exactPlanTurn_holds:Rows.FnExactPlanTurnSaid:=
 OpenClaim.holds_of_wide 3 Tryz.f3 rfl rfl rfl rfl rfl rfl rfl ⟨rfl,rfl,rfl,rfl,rfl⟩ rfl rfl rfl rfl rfl (by kernel_rfl) Tryz.func3 closed
  (of_decide_eq_true (by kernel_rfl)) (by unfold Func.isWrapper;first|(rw[if_pos (by decide +kernel)];kernel_rfl)|(rw[if_neg (by decide +kernel)];exact⟨rfl,rfl⟩))
  (fun os started H enc _=>lifted os started H enc)
#print axioms exactPlanTurn_holds
end Go.Proofs.YtpghfhjhjlmljaaGreat
