/- The lines that the reference draws are read as keepers that are ok. No program is named here. -/
import Derived.Test.YtmeaibjmnjcdfaaGreatVG34
import Derived.Test.YtmeaibjmnjcdfaaGreatVG33
set_option maxHeartbeats 8000000
set_option maxRecDepth 100000
namespace Go.Proofs.YtmeaibjmnjcdfaaGreat
open Go.RowKit
def kpL:Str:=zbl [107,101,101,112,101,114]
def askL (nm:Bs) (d:UInt8):Str:=zbl ([97,115,107,115,32] ++ nm ++ [32,d])
def nTop:Bs:=[116,111,112]
def zsH:Bs:=[99,101,108,108]
def zsI:Bs:=[109,97,105,110]
def zsJ:Bs:=[110,111,110,101]
theorem zsK {ks:List Kpr} (h:ks.length<3):zqx ks kpL=(ks ++ [⟨[],[]⟩],true):=by
 have e:Str.l kpL=[107,101,101,112,101,114]:=rfl
 simp[zqx,e,h]
def zsL (l:Str) (nm:Bs) (k:Nat):Bool:=!(Str.l l == [107,101,101,112,101,114])&&zpW l == [97,115,107,115]&&(zqk (zpV l)).2&&Str.l (zqk (zpV l)).1.name == nm&&(zqk (zpV l)).1.keeper == (k:Int)
theorem zsM {l:Str} {nm:Bs} {k:Nat} (h:zsL l nm k=true) (ks:List Kpr) (aks:List Ask):zqx (ks ++ [⟨[],aks⟩]) l=(ks ++ [⟨[],aks ++ [⟨zbl nm,k⟩]⟩],true):=by
 unfold zsL at h
 simp only[lz5,Bool.not_eq_true',beq_eq_false_iff_ne,beq_iff_eq,ne_eq] at h
 obtain⟨⟨⟨⟨h1,h2⟩,h3⟩,h4⟩,h5⟩:=h
 have e:(zqk (zpV l)).1=⟨zbl nm,k⟩:=by
  rw[<-h4,zi2,<-h5]
 simp[zqx,h1,h2,h3,e]
theorem zsN:zsL (askL nTop 48) nTop 0=true:=by decide +kernel
theorem zsO:zsL (askL nTop 49) nTop 1=true:=by decide +kernel
theorem zsP:zsL (askL nTop 50) nTop 2=true:=by decide +kernel
theorem zsQ:zsL (askL zsH 49) zsH 1=true:=by decide +kernel
theorem zsR:zsL (askL zsJ 48) zsJ 0=true:=by decide +kernel
def zsS (ls:List Str):Prop:=∃t e m x y:Nat,(t=0∨t=7)∧(e=1∨e=8)∧(m=2∨m=3∨m=4∨m=5∨m=6∨m=9∨m=10)∧(x=0∨x=7) ∧
 (ls=kpL :: (zst t ++ (zst e ++ zst m)) ∨
  ls=kpL :: askL nTop 49 :: askL zsH 49 :: (zst m ++ kpL :: (zst t ++ zst e)) ∨
  ls=kpL :: askL zsH 49 :: (zst x ++ (zst m ++ kpL :: (zst t ++ zst e))) ∨
  ls=kpL :: askL zsH 49 :: askL nTop 50 :: (zst m ++ kpL :: askL nTop 50 :: (zst e ++ kpL :: zst t)) ∨
  ((y=0∧ls=kpL :: askL nTop 49 :: askL zsH 49 :: (zst m ++ kpL :: askL nTop 48 :: (zst t ++ zst e))) ∨
  (y=1∧ls=kpL :: askL nTop 49 :: askL zsH 49 :: (zst m ++ kpL :: askL zsH 49 :: (zst t ++ zst e))) ∨
  (y=2∧ls=kpL :: askL nTop 49 :: askL zsH 49 :: (zst m ++ kpL :: askL zsJ 48 :: (zst t ++ zst e)))))
theorem zsU {t:Nat} (h:t=0∨t=7):zsu nTop t=true:=by 
 rcases h with rfl|rfl
 ·exact zsw
 ·exact zsD
theorem zsV {t:Nat} (h:t=1∨t=8):zsu zsH t=true:=by 
 rcases h with rfl|rfl
 ·exact zsx
 ·exact zsE
theorem zsW {t:Nat} (h:t=2∨t=3∨t=4∨t=5∨t=6∨t=9∨t=10):zsu zsI t=true:=by 
 rcases h with rfl|rfl|rfl|rfl|rfl|rfl|rfl
 ·exact zsy
 ·exact zsz
 ·exact zsA
 ·exact zsB
 ·exact zsC
 ·exact zsF
 ·exact zsG
theorem zsX (k:Nat):(zst k).length≤40:=by
 by_cases h:k<11
 ·have:∀k,k<11->(zst k).length≤40:=by decide +kernel
  exact this k h
 ·unfold zst
  rw[List.getD_eq_getElem?_getD,List.getElem?_eq_none (by simp;omega)]
  simp
theorem zsY:∀(seen cs:List Cls),(∀c∈cs,clsB c=true)->((seen ++ cs).map (fun c=>Str.l c.name)).Nodup->zbt seen cs=true
 | _,[],_,_=>rfl
 | seen,c :: cs,h,hn=>by
  rw[zbt,h c (by simp),zsY (seen ++ [c]) cs (fun x hx=>h x (by simp[hx])) (by simpa using hn)]
  simp only[Bool.true_and,Bool.and_true,List.all_eq_true,Bool.not_eq_true']
  intro g hg
  cases he:zbp c.name g
  ·rfl
  ·have:=zbr.1 he
   rw[List.map_append,List.nodup_append] at hn
   exact absurd (congrArg Str.l this) (hn.2.2 _ (List.mem_map.2 ⟨g,hg,rfl⟩) _ (by simp))
theorem zsZ (many:Int):∀(seen aks:List Ask),(∀a∈aks,namB a.name=true∧0≤a.keeper∧a.keeper<many)->((seen ++ aks).map (fun a=>Str.l a.name)).Nodup->zbu many seen aks=true
 | _,[],_,_=>rfl
 | seen,a :: aks,h,hn=>by
  obtain⟨h1,h2,h3⟩:=h a (by simp)
  rw[zbu,h1,decide_eq_true h2,decide_eq_true h3,zsZ many (seen ++ [a]) aks (fun x hx=>h x (by simp[hx])) (by simpa using hn)]
  simp only[Bool.true_and,Bool.and_true,List.all_eq_true,Bool.not_eq_true']
  intro g hg
  cases he:zbq a.name g
  ·rfl
  ·have:=zbs.1 he
   rw[List.map_append,List.nodup_append] at hn
   exact absurd (congrArg Str.l this) (hn.2.2 _ (List.mem_map.2 ⟨g,hg,rfl⟩) _ (by simp))
theorem zs3 {many:Int} {cs:List Cls} {aks:List Ask} (h1:cs.length≤5) (h2:aks.length≤4) (h3:∀c∈cs,clsB c=true) (h4:(cs.map (fun c=>Str.l c.name)).Nodup) (h5:∀a∈aks,namB a.name=true∧0≤a.keeper∧a.keeper<many) (h6:(aks.map (fun a=>Str.l a.name)).Nodup):kprB many ⟨cs,aks⟩=true:=by
 unfold kprB
 rw[decide_eq_true h1,decide_eq_true h2,zsY [] cs h3 (by simpa using h4),zsZ many [] aks h5 (by simpa using h6)]
 rfl
theorem zs4:namB (zbl nTop)=true:=by decide +kernel
theorem zs5:namB (zbl zsH)=true:=by decide +kernel
theorem zs6:namB (zbl zsJ)=true:=by decide +kernel
theorem zs7 {ls:List Str} {ks:List Kpr} (hl:ls.length≤400) (h1:zqy [] 0 ls=(ks,0)) (h2:lodB ⟨ks⟩=true):zqz ls=(ks,0):=by
 unfold zqz
 rw[if_neg (by omega),h1]
 simp[h2]
theorem zs8 {ls:List Str} {c:Cls} (h:Reads ls c) (ks:List Kpr) (os:List Cls) (aks:List Ask) (n:Nat):zqy (ks ++ [⟨os,aks⟩]) n ls=(ks ++ [⟨os ++ [c],aks⟩],0):=by
 have:=h ks os aks [] n
 rw[List.append_nil] at this
 rw[this];rfl
theorem zs9 {ks:List Kpr} (h:ks.length<3) (n:Nat) (rest:List Str):zqy ks n (kpL :: rest)=zqy (ks ++ [⟨[],[]⟩]) (n+1) rest:=by
 rw[zqy,zsK h];rfl
theorem zta {l:Str} {nm:Bs} {k:Nat} (h:zsL l nm k=true) (ks:List Kpr) (aks:List Ask) (n:Nat) (rest:List Str):zqy (ks ++ [⟨[],aks⟩]) n (l :: rest)=zqy (ks ++ [⟨[],aks ++ [⟨zbl nm,k⟩]⟩]) (n+1) rest:=by
 rw[zqy,zsM h];rfl
theorem ztb {ls:List Str} (h:zsS ls):∃ks,zqz ls=(ks,0)∧ks≠[]∧lodB ⟨ks⟩=true:=by
 obtain⟨t,e,m,x,y,ht,he,hm,hx,h⟩:=h
 have T:=zsv (zsU ht)
 have E:=zsv (zsV he)
 have M:=zsv (zsW hm)
 have Z:=zsv (zsU hx)
 have lt:=zsX t
 have le:=zsX e
 have lm:=zsX m
 have lx:=zsX x
 clear ht he hm hx
 generalize blkC t=ct at *
 generalize blkC e=ce at *
 generalize blkC m=cm at *
 generalize blkC x=cx at *
 generalize zst t=bt at *
 generalize zst e=be at *
 generalize zst m=bm at *
 generalize zst x=bx at *
 obtain⟨rT,nT,oT⟩:=T
 obtain⟨rE,nE,oE⟩:=E
 obtain⟨rM,nM,oM⟩:=M
 obtain⟨rZ,nZ,oZ⟩:=Z
 have K1:=@zs9 [] (by decide)
 have fin:∀{ks:List Kpr},ls.length≤400->zqy [] 0 ls=(ks,0)->lodB ⟨ks⟩=true->ks≠[]->∃ks,zqz ls=(ks,0)∧ks≠[]∧lodB ⟨ks⟩=true:=fun hl h1 h2 h3=>⟨_,zs7 hl h1 h2,h3,h2⟩
 rcases h with rfl|rfl|rfl|rfl | ⟨_,rfl⟩ | ⟨_,rfl⟩ | ⟨_,rfl⟩
 ·refine fin (ks:=[⟨[ct,ce,cm],[]⟩]) (by simp;omega) ?_ ?_ (by simp)
  ·rw[K1,rT _ _ _,rE _ _ _,zs8 rM];rfl
  ·simp only[lodB,List.length_cons,List.length_nil,List.all_cons,List.all_nil]
   rw[zs3 (by simp) (by simp) (by simp[oT,oE,oM]) (by simp[nT,nE,nM];decide) (by simp) (by simp)]
   rfl
 ·refine fin (ks:=[⟨[cm],[⟨zbl nTop,1⟩,⟨zbl zsH,1⟩]⟩,⟨[ct,ce],[]⟩]) (by simp;omega) ?_ ?_ (by simp)
  ·rw[K1,zta zsO,zta zsQ,rM _ _ _,zs9 (by simp),rT _ _ _,zs8 rE];rfl
  ·simp only[lodB,List.length_cons,List.length_nil,List.all_cons,List.all_nil]
   rw[zs3 (by simp) (by simp) (by simp[oM]) (by simp) (by simp[zs4,zs5]) (by simp[zi1];decide),zs3 (by simp) (by simp) (by simp[oT,oE]) (by simp[nT,nE];decide) (by simp) (by simp)]
   rfl
 ·refine fin (ks:=[⟨[cx,cm],[⟨zbl zsH,1⟩]⟩,⟨[ct,ce],[]⟩]) (by simp;omega) ?_ ?_ (by simp)
  ·rw[K1,zta zsQ,rZ _ _ _,rM _ _ _,zs9 (by simp),rT _ _ _,zs8 rE];rfl
  ·simp only[lodB,List.length_cons,List.length_nil,List.all_cons,List.all_nil]
   rw[zs3 (by simp) (by simp) (by simp[oZ,oM]) (by simp[nZ,nM];decide) (by simp[zs5]) (by simp),zs3 (by simp) (by simp) (by simp[oT,oE]) (by simp[nT,nE];decide) (by simp) (by simp)]
   rfl
 ·refine fin (ks:=[⟨[cm],[⟨zbl zsH,1⟩,⟨zbl nTop,2⟩]⟩,⟨[ce],[⟨zbl nTop,2⟩]⟩,⟨[ct],[]⟩]) (by simp;omega) ?_ ?_ (by simp)
  ·rw[K1,zta zsQ,zta zsP,rM _ _ _,zs9 (by simp),zta zsP,rE _ _ _,zs9 (by simp),zs8 rT];rfl
  ·simp only[lodB,List.length_cons,List.length_nil,List.all_cons,List.all_nil]
   rw[zs3 (by simp) (by simp) (by simp[oM]) (by simp) (by simp[zs4,zs5]) (by simp[zi1];decide),zs3 (by simp) (by simp) (by simp[oE]) (by simp) (by simp[zs4]) (by simp),zs3 (by simp) (by simp) (by simp[oT]) (by simp) (by simp) (by simp)]
   rfl
 ·refine fin (ks:=[⟨[cm],[⟨zbl nTop,1⟩,⟨zbl zsH,1⟩]⟩,⟨[ct,ce],[⟨zbl nTop,0⟩]⟩]) (by simp;omega) ?_ ?_ (by simp)
  ·rw[K1,zta zsO,zta zsQ,rM _ _ _,zs9 (by simp),zta zsN,rT _ _ _,zs8 rE];rfl
  ·simp only[lodB,List.length_cons,List.length_nil,List.all_cons,List.all_nil]
   rw[zs3 (by simp) (by simp) (by simp[oM]) (by simp) (by simp[zs4,zs5]) (by simp[zi1];decide),zs3 (by simp) (by simp) (by simp[oT,oE]) (by simp[nT,nE];decide) (by simp[zs4]) (by simp)]
   rfl
 ·refine fin (ks:=[⟨[cm],[⟨zbl nTop,1⟩,⟨zbl zsH,1⟩]⟩,⟨[ct,ce],[⟨zbl zsH,1⟩]⟩]) (by simp;omega) ?_ ?_ (by simp)
  ·rw[K1,zta zsO,zta zsQ,rM _ _ _,zs9 (by simp),zta zsQ,rT _ _ _,zs8 rE];rfl
  ·simp only[lodB,List.length_cons,List.length_nil,List.all_cons,List.all_nil]
   rw[zs3 (by simp) (by simp) (by simp[oM]) (by simp) (by simp[zs4,zs5]) (by simp[zi1];decide),zs3 (by simp) (by simp) (by simp[oT,oE]) (by simp[nT,nE];decide) (by simp[zs5]) (by simp)]
   rfl
 ·refine fin (ks:=[⟨[cm],[⟨zbl nTop,1⟩,⟨zbl zsH,1⟩]⟩,⟨[ct,ce],[⟨zbl zsJ,0⟩]⟩]) (by simp;omega) ?_ ?_ (by simp)
  ·rw[K1,zta zsO,zta zsQ,rM _ _ _,zs9 (by simp),zta zsR,rT _ _ _,zs8 rE];rfl
  ·simp only[lodB,List.length_cons,List.length_nil,List.all_cons,List.all_nil]
   rw[zs3 (by simp) (by simp) (by simp[oM]) (by simp) (by simp[zs4,zs5]) (by simp[zi1];decide),zs3 (by simp) (by simp) (by simp[oT,oE]) (by simp[nT,nE];decide) (by simp[zs6]) (by simp)]
   rfl
def rowS (ls:List Str):Array Value:=(ls.map Value.string).toArray
theorem Sl.ofBx {X:Nat->Prop} {w:World} {b n:Nat} {E:TypeId} {ls:List Str} (h:Bx w b E (rowS ls)) (hX:¬X b) (hn:n=ls.length) (hm:ls.length≤1000) (hs:∀s∈ls,s.size≤1000):Sl X w 1 StrC (.slice (some ⟨b,0,none⟩) n n) ls:=by
 subst hn
 refine⟨_,_,rfl,Nat.le_refl _,by unfold maxLen;omega,fun h0=>⟨b,0,rfl,hX,fun k hk=>⟨[.string ls[k]],⟨rfl,?_⟩,rfl,fun j hj=>?_⟩⟩⟩
 ·have:=hs ls[k] (List.getElem_mem hk)
  unfold maxLen;omega
 ·obtain rfl:j=0:=by omega
  rw[h.cell]
  simp[rowS]
def ztc:List (List Str):=[blk0,blk1,blk2,blk3,blk4,blk5,blk6,blk7,blk8,blk9,zss]
theorem ztd:∀ls∈ztc,ls.length≤1000∧∀s∈ls,s.size≤1000:=by
 have h:(ztc.all fun ls=>decide (ls.length≤1000)&&ls.all fun s=>decide (s.size≤1000))=true:=by decide +kernel
 intro ls hl
 have:=List.all_eq_true.1 h ls hl
 rw[lz5,decide_eq_true_eq,List.all_eq_true] at this
 exact⟨this.1,fun s hs=>of_decide_eq_true (this.2 s hs)⟩
def blkW (w:World) (ls:List (List Str)):World:=ls.foldl (fun W l=>W.alloc (.cells (rowS l) 9)) w
theorem zte:∀(ls:List (List Str)) (w:World),(blkW w ls).heap.size=w.heap.size+ls.length∧Fr No w (blkW w ls)∧∀k (hk:k<ls.length),Bx (blkW w ls) (w.heap.size+k) 9 (rowS ls[k])
 | [],w=>⟨rfl,Fr.refl _ _,fun k hk=>by simp at hk⟩
 | l :: ls,w=>by
  obtain⟨h1,h2,h3⟩:=zte ls (w.alloc (.cells (rowS l) 9))
  have e:blkW w (l :: ls)=blkW (w.alloc (.cells (rowS l) 9)) ls:=rfl
  have hs:(w.alloc (.cells (rowS l) 9)).heap.size=w.heap.size+1:=by simp
  rw[hs] at h1 h3
  rw[e]
  refine⟨by rw[h1];simp;omega,((Fr.refl No w).alloc _).trans0 h2,fun k hk=>?_⟩
  match k with
  | 0=>exact(Bx.new w 9 (rowS l)).keep h2
  | k+1=>
   have:=h3 k (by simpa using hk)
   rw[show w.heap.size+(k+1)=w.heap.size+1+k by omega]
   exact this
def outS (n:Nat):List Value:=[.slice (some ⟨n,0,none⟩) blk0.length blk0.length,.slice (some ⟨n+1,0,none⟩) blk1.length blk1.length,.slice (some ⟨n+2,0,none⟩) blk2.length blk2.length,.slice (some ⟨n+3,0,none⟩) blk3.length blk3.length,.slice (some ⟨n+4,0,none⟩) blk4.length blk4.length,.slice (some ⟨n+5,0,none⟩) blk5.length blk5.length,.slice (some ⟨n+6,0,none⟩) blk6.length blk6.length,.slice (some ⟨n+7,0,none⟩) blk7.length blk7.length,.slice (some ⟨n+8,0,none⟩) blk8.length blk8.length,.slice (some ⟨n+9,0,none⟩) blk9.length blk9.length,.slice (some ⟨n+10,0,none⟩) zss.length zss.length]
theorem ztf (n:Nat):∀k (hk:k<ztc.length),(outS n)[k]? =some (.slice (some ⟨n+k,0,none⟩) ztc[k].length ztc[k].length):=by
 intro k hk
 have hk:k<11:=hk
 have:k=0∨k=1∨k=2∨k=3∨k=4∨k=5∨k=6∨k=7∨k=8∨k=9∨k=10:=by omega
 rcases this with rfl|rfl|rfl|rfl|rfl|rfl|rfl|rfl|rfl|rfl|rfl<;>rfl
def ztg (n:Nat) (w:World):Prop:=Bx w (n+11) 97 (outS n).toArray∧∀k (hk:k<ztc.length),Bx w (n+k) 9 (rowS ztc[k])
theorem ztg.keep {X:Nat->Prop} {n:Nat} {w w':World} (h:ztg n w) (hf:Fr X w w') (hX:∀b,n≤b->b≤n+11->¬X b):ztg n w':=
 ⟨h.1.keepX hf (hX _ (by omega) (by omega)),fun k hk=>(h.2 k hk).keepX hf (hX _ (by omega) (by have:k<11:=hk;omega))⟩
theorem ztg.cell {n:Nat} {w:World} (h:ztg n w) (k:Nat) (hk:k<11):w.cell? ⟨n+11,k,none⟩=some (.slice (some ⟨n+k,0,none⟩) (zst k).length (zst k).length):=by
 rw[h.1.cell,List.getElem?_toArray,ztf n k hk]
 have e:ztc[k]'hk=zst k:=by
  unfold zst
  rw[List.getD_eq_getElem?_getD]
  show _=((ztc)[k]?).getD []
  rw[lz8 hk]
  rfl
 rw[e]
theorem ztg.sl {X:Nat->Prop} {n:Nat} {w:World} (h:ztg n w) (k:Nat) (hk:k<11) (hX:¬X (n+k)):Sl X w 1 StrC (.slice (some ⟨n+k,0,none⟩) (zst k).length (zst k).length) (zst k):=by
 have e:ztc[k]'hk=zst k:=by
  unfold zst
  rw[List.getD_eq_getElem?_getD]
  show _=((ztc)[k]?).getD []
  rw[lz8 hk]
  rfl
 have hB:=h.2 k hk
 rw[e] at hB
 obtain⟨q1,q2⟩:=ztd (zst k) (by rw[<-e];exact List.getElem_mem hk)
 exact Sl.ofBx hB hX rfl q1 q2
def zth (w:World) (e:Ending) (w':World):Prop:=e=.returned (.slice (some ⟨w.heap.size+11,0,none⟩) 11 11)∧ztg w.heap.size w'∧Fr No w w'∧w'.heap.size=w.heap.size+12
theorem zti (w:World):zth w (.returned (.slice (some ⟨w.heap.size+11,0,none⟩) 11 11)) ((blkW w ztc).alloc (.cells (outS w.heap.size).toArray 97)):=by
 obtain⟨h1,h2,h3⟩:=zte ztc w
 have hs:ztc.length=11:=rfl
 have hB:=Bx.new (blkW w ztc) 97 (outS w.heap.size).toArray
 rw[h1,hs] at hB
 exact⟨rfl,⟨hB,fun k hk=>(h3 k hk).alloc _⟩,h2.alloc _,by rw[World.size_alloc,h1,hs]⟩
theorem ztj (w:World):Calls Tryz.prog 88 #[] w (zth w):=by
 go_enter Tryz.func88,Tryz.ntmps88
 go_wp2_with fail
 refine bodyPost_ret (results_tmp rfl _ _ _) rfl ?_
 exact zti w
theorem Sl.strRaws {X:Nat->Prop} {w:World} {v:Value} {xs:List Str} (h:Sl X w 1 StrC v xs):Sl X w 1 RawC v (xs.map zqT):=by
 obtain⟨A,cap,rfl,h1,h2,h3⟩:=h
 refine⟨A,cap,by rw[List.length_map],by rw[List.length_map];exact h1,by rw[List.length_map];exact h2,fun h0=>?_⟩
 rw[List.length_map] at h0
 obtain⟨b,off,rfl,hX,hc⟩:=h3 h0
 refine⟨b,off,rfl,hX,fun k hk=>?_⟩
 rw[List.length_map] at hk
 obtain⟨cs,⟨rfl,_⟩,hl,hcs⟩:=hc k hk
 exact⟨_,by rw[List.getElem_map];rfl,hl,hcs⟩
theorem zqY.keepX {X:Nat->Prop} {w w':World} {n:Nat} {v:Value} {xs:List Str} (h:zqY w n v xs) (hf:Fr X w w') (hX:∀q,n≤q->¬X q):zqY w' n v xs:=
 ⟨h.1.keep hf (fun q hq=>hX q (h.2 q hq)),h.2⟩
theorem zqY.keep {w w':World} {n:Nat} {v:Value} {xs:List Str} (h:zqY w n v xs) (hf:Fr No w w'):zqY w' n v xs:=h.keepX hf (fun _ _ h=>h)
theorem ztk:∀xs:List Str,rawL (xs.map zqT)=xs.map Value.string
 | []=>rfl
 | x :: xs=>by
  have:=ztk xs
  unfold rawL at this ⊢
  rw[List.map_cons,List.flatMap_cons,this]
  rfl
theorem zqY.lit (w:World) (xs:List Str) (hm:xs.length≤1000):zqY (w.alloc (.cells (rowS xs) 9)) w.heap.size (.slice (some ⟨w.heap.size,0,none⟩) xs.length xs.length) xs:=by
 refine⟨.inl ⟨by rw[ztk];simp,.inr ⟨w.heap.size,xs.length,rowS xs,rfl,Nat.zero_le _,Bx.new w _ _,Nat.le_refl _,by unfold maxLen;omega,by simp[rowS],by rw[ztk];simp only[rowS,Nat.mul_one];exact List.take_of_length_le (by simp)⟩⟩,fun q hq=>?_⟩
 rw[zcQ] at hq
 split at hq
 ·cases hq
 ·cases hq;exact Nat.le_refl _
theorem ztl:∀k,k<11->0<(zst k).length:=by decide +kernel
theorem ztm:∀k,k<11->∀s∈zst k,s.size≤1000:=by decide +kernel
section
variable {w:World} {a:Act} {o:Oper} {ops:Array Oper} {Q:Exit->Act->World->Prop} {rest:List Oper}
theorem ztn (hgd:o.guard=none) (s x:Operand) (ho:o.op=.call { callee:=.builtin .append,args:=#[s,x],argTypes:=#[97,97] })
  (n:Nat) (v:Value) (xs:List Str) (hs:a.eval s=v) (hrow:zqY w n v xs) (hxl:xs.length≤1000) (X:Nat->Prop) (u:Value) (ys:List Str) (hx:a.eval x=u) (hu:Sl X w 1 StrC u ys) (hyl:ys.length≤1000) (h0:0<ys.length) (hn:n≤w.heap.size)
  (k:∀g c w',zqY w' n (.slice (some ⟨g,0,none⟩) (xs.length+ys.length) c) (xs ++ ys)->Fr (fun b=>n≤b) w w'->n≤g->wpList Tryz.prog ops Q rest (a.put o.dst (.slice (some ⟨g,0,none⟩) (xs.length+ys.length) c)) w'):wpList Tryz.prog ops Q (o :: rest) a w:=by
 obtain⟨A,cap,rfl,_,_⟩:=hu.form
 obtain⟨b,off,cs,rfl,_,_,_⟩:=hu.cells h0
 have hraw:=hu.strRaws
 have hl9:(ys.map zqT).length=ys.length:=List.length_map ..
 rw[<-hl9] at hraw
 refine zqG zqX hgd s x ho v xs.length (xs.map zqT) hs (by simp) hrow.1 (by omega) X b off _ (ys.map zqT) (by rw[hx,hl9]) hraw (by omega) (by omega) (zqU ys) ?_
 intro g c w' h1 h2 h3 h4
 rw[hl9] at h1 ⊢
 have hg:n≤g:=h4.elim (fun h=>hrow.2 g h) (fun h=>by omega)
 refine k g c w' ⟨?_,fun q hq=>?_⟩ (h3.mono (fun b _ hb=>hrow.2 b hb)) hg
 ·rw[List.length_append,List.map_append]
  exact h1
 ·rw[zcQ] at hq
  split at hq
  ·cases hq
  ·cases hq;exact hg
end
end Go.Proofs.YtmeaibjmnjcdfaaGreat
