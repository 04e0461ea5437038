/- Trees of rows: one field of one struct is turned; one row under a struct is turned. -/
import Derived.Test.YtpghfhjhjlmljaaGreatPG5
namespace Go.Proofs.YtpghfhjhjlmljaaGreat
open Go.RowKit
section
variable {α β:Type} {E E2:TypeId} {sz sz2 n c g:Nat} {R:OwnR α} {R2:OwnR β} {w:World} {Y:Nat->Prop} {v:Value} {xs:List α}
theorem OwnL.at_ (h:OwnL E sz R w Y v xs) {i:Nat} (hi:i<xs.length):∃g c cs Z,v=.slice (some ⟨g,0,none⟩) xs.length c∧(∀o,w.frozen? ⟨g,o,none⟩=false)∧g<w.heap.size∧Y g∧R w Z cs xs[i]∧(∀b,Z b->Y b∧b≠g)∧∀j,j<sz->w.cell? ⟨g,i * sz+j,none⟩=cs[j]?:=by
 obtain⟨rows,Ys,h⟩:=h
 obtain⟨g,c,rfl,_,_,hf,hg,hq,hc⟩:=h.at_ (by omega)
 have h1:i<rows.length:=by rw[h.len];exact hi
 exact⟨g,c,_,Ys i,rfl,hf,hg,h.own g hq,h.el i h1 hi,fun b hb=>⟨(h.sub i b hi hb).1,fun e=>(h.sub i b hi hb).2.2 (e▸hq)⟩,fun j hj=>hc i h1 j hj⟩
theorem OwnL.putF (hR:zzF R) (h:OwnL E sz R w Y (.slice (some ⟨g,0,none⟩) n c) xs) {i j:Nat} (hi:i<xs.length) (hj:j<sz) (u:Value) {x:α} (hx:∀w Z cs,R w Z cs xs[i]->R w Z (cs.set j u) x):
  OwnL E sz R (w.setCell ⟨g,i * sz+j,none⟩ u) Y (.slice (some ⟨g,0,none⟩) n c) (xs.set i x):=by
 obtain⟨rows,Ys,h⟩:=h
 have h1:i<rows.length:=by rw[h.len];exact hi
 obtain⟨g',c',he,_,_,_,_,hq,_⟩:=h.at_ (by omega)
 cases he
 exact⟨_,_,h.put hR hi h1 hj u (hx _ _ _ (hR _ _ _ _ _ _ (h.el i h1 hi) (Fr.cell1 w g _ u) (fun b hb _ e=>(h.sub i b hi hb).2.2 (e▸hq))))⟩
def Lens (R:OwnR α) (E2:TypeId) (sz2:Nat) (R2:OwnR β) (j:Nat) (get:α->List β) (set:α->List β->α):Prop:=
 ∀w Y cs x,R w Y cs x->∃Z u,cs[j]? =some u∧OwnL E2 sz2 R2 w Z u (get x)∧(∀b,Z b->Y b)∧∀w' l,OwnL E2 sz2 R2 w' Z u l->Fr Z w w'->R w' Y cs (set x l)
theorem OwnL.open_ {j:Nat} {get:α->List β} {set:α->List β->α} (hR:zzF R) (hL:Lens R E2 sz2 R2 j get set) (h:OwnL E sz R w Y (.slice (some ⟨g,0,none⟩) n c) xs) {i:Nat} (hi:i<xs.length) (hj:j<sz):
  ∃Z u,w.cell? ⟨g,i * sz+j,none⟩=some u∧OwnL E2 sz2 R2 w Z u (get xs[i])∧(∀b,Z b->Y b∧b≠g)∧∀w' l,OwnL E2 sz2 R2 w' Z u l->Fr Z w w'->OwnL E sz R w' Y (.slice (some ⟨g,0,none⟩) n c) (xs.set i (set xs[i] l)):=by
 obtain⟨rows,Ys,h⟩:=h
 have h1:i<rows.length:=by rw[h.len];exact hi
 obtain⟨g',c',he,_,_,_,_,hq,hc⟩:=h.at_ (by omega)
 cases he
 obtain⟨Z,u,e,hO,hZ,hk⟩:=hL _ _ _ _ (h.el i h1 hi)
 exact⟨Z,u,by rw[hc i h1 j hj,e],hO,fun b hb=>⟨(h.sub i b hi (hZ b hb)).1,fun e=>(h.sub i b hi (hZ b hb)).2.2 (e▸hq)⟩,fun w' l hl hf=>⟨rows,Ys,h.inner0 hR hi h1 hf hZ (hk w' l hl hf)⟩⟩
end
theorem zBa:Lens MapO zzD 2 (zzC TagC) 1 (fun m=>m.locals) (fun m l=>⟨m.at_,l,m.stack⟩):=by
 rintro w Y cs m ⟨vl,vs,Y1,Y2,rfl,h1,h2,h3,h4⟩
 exact⟨Y1,vl,rfl,h3,fun b hb=>(h1 b hb).1,fun w' l hl hf=>⟨vl,vs,Y1,Y2,rfl,h1,h2,hl,h4.keep (zzG _) hf (fun b hb _ hx=>(h1 b hx).2 hb)⟩⟩
theorem zBb:Lens MapO zzD 2 (zzC TagC) 2 (fun m=>m.stack) (fun m l=>⟨m.at_,m.locals,l⟩):=by
 rintro w Y cs m ⟨vl,vs,Y1,Y2,rfl,h1,h2,h3,h4⟩
 exact⟨Y2,vs,rfl,h4,h2,fun w' l hl hf=>⟨vl,vs,Y1,Y2,rfl,h1,h2,h3.keep (zzG _) hf (fun b hb _ hx=>(h1 b hb).2 hx),hl⟩⟩
theorem zBc:Lens MthO 123 2 (zzC KndC) 1 (fun m=>m.args) (fun m l=>⟨m.name,l,m.ret,m.locals,m.stack,m.code,m.maps⟩):=by
 rintro w Y cs m ⟨va,vc,vm,Y1,Y2,Y3,rfl,z1,z2,h1,h2,h3,k1,k2,k3⟩
 exact⟨Y1,va,rfl,k1,fun b hb=>(h1 b hb).1,fun w' l hl hf=>⟨va,vc,vm,Y1,Y2,Y3,rfl,z1,z2,h1,h2,h3,hl,k2.keep (zzG _) hf (fun b hb _ hx=>(h1 b hx).2.1 hb),k3.keep zzH hf (fun b hb _ hx=>(h1 b hx).2.2 hb)⟩⟩
theorem zBd:Lens MthO 178 4 (zzC InsC) 6 (fun m=>m.code) (fun m l=>⟨m.name,m.args,m.ret,m.locals,m.stack,l,m.maps⟩):=by
 rintro w Y cs m ⟨va,vc,vm,Y1,Y2,Y3,rfl,z1,z2,h1,h2,h3,k1,k2,k3⟩
 exact⟨Y2,vc,rfl,k2,fun b hb=>(h2 b hb).1,fun w' l hl hf=>⟨va,vc,vm,Y1,Y2,Y3,rfl,z1,z2,h1,h2,h3,k1.keep (zzG _) hf (fun b hb _ hx=>(h1 b hb).2.1 hx),hl,k3.keep zzH hf (fun b hb _ hx=>(h2 b hx).2 hb)⟩⟩
theorem zBe:Lens MthO 165 3 MapO 7 (fun m=>m.maps) (fun m l=>⟨m.name,m.args,m.ret,m.locals,m.stack,m.code,l⟩):=by
 rintro w Y cs m ⟨va,vc,vm,Y1,Y2,Y3,rfl,z1,z2,h1,h2,h3,k1,k2,k3⟩
 exact⟨Y3,vm,rfl,k3,h3,fun w' l hl hf=>⟨va,vc,vm,Y1,Y2,Y3,rfl,z1,z2,h1,h2,h3,k1.keep (zzG _) hf (fun b hb _ hx=>(h1 b hb).2.2 hx),k2.keep (zzG _) hf (fun b hb _ hx=>(h2 b hb).2 hx),hl⟩⟩
theorem zBf:Lens ClsO 125 3 (zzC FldC) 2 (fun m=>m.fields) (fun m l=>⟨m.name,m.super,l,m.methods⟩):=by
 rintro w Y cs m ⟨vl,vs,Y1,Y2,rfl,z1,z2,h1,h2,h3,h4⟩
 exact⟨Y1,vl,rfl,h3,fun b hb=>(h1 b hb).1,fun w' l hl hf=>⟨vl,vs,Y1,Y2,rfl,z1,z2,h1,h2,hl,h4.keep zzI hf (fun b hb _ hx=>(h1 b hx).2 hb)⟩⟩
theorem zBg:Lens ClsO 133 8 MthO 3 (fun m=>m.methods) (fun m l=>⟨m.name,m.super,m.fields,l⟩):=by
 rintro w Y cs m ⟨vl,vs,Y1,Y2,rfl,z1,z2,h1,h2,h3,h4⟩
 exact⟨Y2,vs,rfl,h4,h2,fun w' l hl hf=>⟨vl,vs,Y1,Y2,rfl,z1,z2,h1,h2,h3.keep (zzG _) hf (fun b hb _ hx=>(h1 b hb).2 hx),hl⟩⟩
theorem zBh:Lens KprO 42 4 ClsO 0 (fun m=>m.owns) (fun m l=>⟨l,m.asks⟩):=by
 rintro w Y cs m ⟨vl,vs,Y1,Y2,rfl,h1,h2,h3,h4⟩
 exact⟨Y1,vl,rfl,h3,fun b hb=>(h1 b hb).1,fun w' l hl hf=>⟨vl,vs,Y1,Y2,rfl,h1,h2,hl,h4.keep (zzG _) hf (fun b hb _ hx=>(h1 b hx).2 hb)⟩⟩
theorem zBi:Lens KprO 86 2 (zzC AskC) 1 (fun m=>m.asks) (fun m l=>⟨m.owns,l⟩):=by
 rintro w Y cs m ⟨vl,vs,Y1,Y2,rfl,h1,h2,h3,h4⟩
 exact⟨Y2,vs,rfl,h4,h2,fun w' l hl hf=>⟨vl,vs,Y1,Y2,rfl,h1,h2,h3.keep zzJ hf (fun b hb _ hx=>(h1 b hb).2 hx),hl⟩⟩
end Go.Proofs.YtpghfhjhjlmljaaGreat
