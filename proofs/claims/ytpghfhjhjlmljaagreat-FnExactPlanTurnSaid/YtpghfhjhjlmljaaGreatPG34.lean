/- The reference's search of a keeper's own class, and of whom it asks. -/
import Derived.Test.YtpghfhjhjlmljaaGreatPG33
import Derived.Test.YtpghfhjhjlmljaaGreatPG19
set_option maxHeartbeats 8000000
set_option maxRecDepth 100000
namespace Go.Proofs.YtpghfhjhjlmljaaGreat
open Go.RowKit
theorem zaK {xs:List Ask} {s:Str} {k:Nat} (hk:k<xs.length) (ha:(xs.take k).all (fun x=>!zbq s x)=true) (hp:zbq s xs[k]=true):zbE xs s=some xs[k].keeper:=by
 unfold zbE
 rw[List.all_eq_true] at ha
 have:xs.find? (zbq s)=some xs[k]:=by
  rw[List.find?_eq_some_iff_getElem]
  exact⟨hp,k,hk,rfl,fun j hj=>ha _ (List.mem_take_iff_getElem.2 ⟨j,by omega,rfl⟩)⟩
 rw[this];rfl
theorem zaL (X:Nat->Prop) (v va:Value) (xs:List Cls) (s:Str) (w:World) (h:Sl X w 4 (ClsC X w) v xs) (_hs:s.size≤maxLen):
  Calls Tryz.prog 65 #[.agg #[v,va],.string s] w (zeV (ixOf (zbp s) xs) w):=by
 obtain⟨A,cap,rfl,hcap,hlen⟩:=h.form
 unfold maxLen at hlen
 have hB:=Bx.new w 67 #[.slice A xs.length cap,va]
 have hw0:Fr No w (w.alloc (.cells #[.slice A xs.length cap,va] 67)):=(Fr.refl No w).alloc _
 go_enter Tryz.func65,Tryz.ntmps65
 go_wp2
 go_loopw [5,4] (fun i r wr=>∃k:Nat,k≤xs.length∧i=.int .i64 k∧r=.int .i64 0∧Hid ((xs.take k).all (fun x=>!zbp s x)=true)∧Bx wr w.heap.size 67 #[.slice A xs.length cap,va]∧Fr No w wr) (fun i _ _=>xs.length-(intOf i).toNat)
 case atStart=>exact⟨0,Nat.zero_le _,rfl,rfl,by simp[Hid],hB,hw0⟩
 case round=>
  clear hB hw0
  obtain⟨k,hk,rfl,rfl,ha,hB,hf⟩:=hrel
  obtain⟨e0,e1⟩:=hB.c2
  have hBl:=hB.lt
  by_cases hlt:k<xs.length
  ·obtain⟨b,off,Af,cf,Am,cm,rfl,hX,c0,_⟩:=(h.keep hf zN (fun _ _ _ h=>h.keep hf zN)).cls hlt
   have hbl:=lt_of_cell c0
   clear h
   have HS:zbp s xs[k]=false->Hid ((xs.take (k+1)).all (fun x=>!zbp s x)=true):=fun h=>by
    have:=zfp (fun x=>!zbp s x) xs k hlt
    rw[ha.out,h] at this;exact this
   have HN:zbp s xs[k]=true->Hid (ixOf (zbp s) xs=(k:Nat)):=fun h=>zeQ hlt ha.out h
   have HS:=Lib.hid HS
   have HN:=Lib.hid HN
   unfold zbp at HS HN
   clear ha
   generalize xs[k]=f at *
   cases hq:(f.name.toList == s.toList)
   ·have HS:=HS.out hq
    clear HN
    go_wp2
    go_roundw
    case rel=>exact⟨k+1,by omega,by go_num,rfl,HS,hB,by exact frc⟩
    case measure=>simp[intOf];omega
   ·have HN:=HN.out hq
    clear HS
    go_wp2
    go_ret
    exact .mk HN.out.symm (by exact frc)
  ·have HS:=Lib.hid (zeP (zfr _ xs k (by omega) ha.out))
   clear h ha
   go_wp2
   go_ret
   exact .mk HS.out.symm (by exact frc)
theorem zaM (X:Nat->Prop) (v vo:Value) (xs:List Ask) (s:Str) (w:World) (h:Sl X w 2 AskC v xs) (_hs:s.size≤maxLen):
  Calls Tryz.prog 66 #[.agg #[vo,v],.string s] w (zeV ((zbE xs s).getD (-1)) w):=by
 obtain⟨A,cap,rfl,hcap,hlen⟩:=h.form
 unfold maxLen at hlen
 have hB:=Bx.new w 67 #[vo,.slice A xs.length cap]
 have hw0:Fr No w (w.alloc (.cells #[vo,.slice A xs.length cap] 67)):=(Fr.refl No w).alloc _
 go_enter Tryz.func66,Tryz.ntmps66
 go_wp2
 go_loopw [5,4] (fun i r wr=>∃k:Nat,k≤xs.length∧i=.int .i64 k∧r=.int .i64 0∧Hid ((xs.take k).all (fun x=>!zbq s x)=true)∧Bx wr w.heap.size 67 #[vo,.slice A xs.length cap]∧Fr No w wr) (fun i _ _=>xs.length-(intOf i).toNat)
 case atStart=>exact⟨0,Nat.zero_le _,rfl,rfl,by simp[Hid],hB,hw0⟩
 case round=>
  clear hB hw0
  obtain⟨k,hk,rfl,rfl,ha,hB,hf⟩:=hrel
  obtain⟨e0,e1⟩:=hB.c2
  have hBl:=hB.lt
  by_cases hlt:k<xs.length
  ·obtain⟨b,off,rfl,hX,c0,c1,_⟩:=(h.k0 hf).ask hlt
   have hbl:=lt_of_cell c0
   clear h
   have HS:zbq s xs[k]=false->Hid ((xs.take (k+1)).all (fun x=>!zbq s x)=true):=fun h=>by
    have:=zfp (fun x=>!zbq s x) xs k hlt
    rw[ha.out,h] at this;exact this
   have HN:zbq s xs[k]=true->Hid (zbE xs s=some xs[k].keeper):=fun h=>zaK hlt ha.out h
   have HS:=Lib.hid HS
   have HN:=Lib.hid HN
   unfold zbq at HS HN
   clear ha
   generalize xs[k]=f at *
   cases hq:(f.name.toList == s.toList)
   ·have HS:=HS.out hq
    clear HN
    go_wp2
    go_roundw
    case rel=>exact⟨k+1,by omega,by go_num,rfl,HS,hB,by exact frc⟩
    case measure=>simp[intOf];omega
   ·have HN:=HN.out hq
    clear HS
    go_wp2
    go_ret
    exact .mk (by rw[HN.out];rfl) (by exact frc)
  ·have HS:=Lib.hid (zgt.2 (zfr _ xs k (by omega) ha.out))
   clear h ha
   go_wp2
   go_ret
   exact .mk (by rw[HS.out];rfl) (by exact frc)
theorem zaN {many:Int} {y:Kpr} (h1:y.owns.length≤5) (h2:y.asks.length≤4) (h3:zbt [] y.owns=true) (h4:zbu many [] y.asks=true):kprB many y=true:=by
 unfold kprB;rw[decide_eq_true h1,decide_eq_true h2,h3,h4];rfl
theorem zaO (X:Nat->Prop) (y:Kpr) (cs:List Value) (many:Nat) (w:World) (h:KprC X w cs y) (hmany:many≤3):
  Calls Tryz.prog 35 #[.agg cs.toArray,.int .i64 many] w (zgm (kprB many y) w):=by
 obtain⟨vo,va,rfl,ho,ha⟩:=h
 obtain⟨Ao,co,rfl,hco,hol⟩:=ho.form
 obtain⟨Aa,ca,rfl,hca,hal⟩:=ha.form
 have hol':=hol
 have hal':=hal
 unfold maxLen at hol' hal'
 have hB:=Bx.new w 67 #[.slice Ao y.owns.length co,.slice Aa y.asks.length ca]
 have hw0:Fr No w (w.alloc (.cells #[.slice Ao y.owns.length co,.slice Aa y.asks.length ca] 67)):=(Fr.refl No w).alloc _
 have hcase:5<y.owns.length∨(y.owns.length≤5∧4<y.asks.length)∨(y.owns.length≤5∧y.asks.length≤4):=by omega
 rcases hcase with g1 | ⟨g1,g2⟩ | ⟨g1,g2⟩
 ·go_enter Tryz.func35,Tryz.ntmps35
  go_wp2
  go_ret;exact .mk (by rw[zgw (.inl g1)]) (by exact frc)
 ·go_enter Tryz.func35,Tryz.ntmps35
  go_wp2
  go_ret;exact .mk (by rw[zgw (.inr (.inl g2))]) (by exact frc)
 ·go_enter Tryz.func35,Tryz.ntmps35
  go_wp2
  go_loopw [5,4] (fun i r wr=>∃k:Nat,k≤y.owns.length∧i=.int .i64 k∧r=.bool false∧Hid (zbt [] y.owns=zbt (y.owns.take k) (y.owns.drop k)) ∧
   Bx wr w.heap.size 67 #[.slice Ao y.owns.length co,.slice Aa y.asks.length ca]∧Fr No w wr) (fun i _ _=>y.owns.length-(intOf i).toNat)
  case atStart=>exact⟨0,Nat.zero_le _,rfl,rfl,rfl,hB,hw0⟩
  case round=>
   obtain⟨k,hk,rfl,rfl,hd,hB',hw⟩:=hrel
   clear hB hw0
   obtain⟨b0,b1⟩:=hB'.c2
   have hBl:=hB'.lt
   by_cases hlt:k<y.owns.length
   ·have hfw:=ho.keep hw zN (fun _ _ _ h=>h.keep hw zN)
    have htk:=hfw.take (Nat.le_of_lt hlt)
    obtain⟨b,off,Af,cf,Am,cm,rfl,hX,c0,c1,c2,c3,hz0,hz1,hcf,hcm,_,_,_,_⟩:=hfw.cls hlt
    have hbl:=lt_of_cell c0
    have hR:ClsC X wr [.string y.owns[k].name,.string y.owns[k].super,.slice Af y.owns[k].fields.length cf,.slice Am y.owns[k].methods.length cm] y.owns[k]:=⟨_,_,rfl,hz0,hz1,hcf,hcm⟩
    have HM:=fun W (h:Fr No wr W)=>zf8 X y.owns[k] _ W (hR.keep h zN)
    have HF:=fun W (h:Fr No wr W)=>zaL X _ (.slice none 0 0) (y.owns.take k) y.owns[k].name W (htk.keep h zN (fun _ _ _ h9=>h9.keep h zN)) hz0
    clear ho ha hfw hcf hcm hR htk
    have hd:=Lib.hid (zbv hlt hd.out)
    have hkk:(k:Int).toNat=k:=by omega
    have hkc:k≤co:=by omega
    generalize y.owns[k]=f at *
    have hneg:ixOf (zbp f.name) (y.owns.take k)=-1∧(y.owns.take k).all (fun g=>!zbp f.name g)=true∨0≤ixOf (zbp f.name) (y.owns.take k)∧(y.owns.take k).all (fun g=>!zbp f.name g)=false:=by
     have h1:=zeR (zbp f.name) (y.owns.take k)
     have h2:=zeS (zbp f.name) (y.owns.take k)
     cases ha:(y.owns.take k).all (fun g=>!zbp f.name g)
     ·rw[ha] at h1;simp at h1;exact .inr ⟨h1,rfl⟩
     ·rw[ha] at h1;simp at h1;exact .inl ⟨by omega,rfl⟩
    generalize ixOf (zbp f.name) (y.owns.take k)=ix at *
    have hcase:clsB f=false∨clsB f=true:=by cases clsB f<;>simp
    have e0:=fun W (h:Fr No wr W)=>(hB'.keep h).c2.1
    have e1:=fun W (h:Fr No wr W)=>(hB'.keep h).c2.2
    have q0:=kp c0
    have q1:=kp c1
    have q2:=kp c2
    have q3:=kp c3
    go_wp2_with fail
    (refine zgc (X:=No) (by kernel_rfl) (by kernel_rfl) ?_)
    clear b0 b1 c0 c1 c2 c3
    rcases hcase with g3|g3
    ·rw[g3] at HM
     have HS:Hid (kprB many y=false):=zgw (.inr (.inr (.inl (by rw[hd.out,g3];rfl))))
     clear g3 hneg hd
     (repeat((first|go_big_quiet_skip|(go_big_quiet_want;(apply Exists.intro;refine⟨fun W hW=>?_,?_⟩);(focus (first|exact fqc|(go_simp;first|(go_at_call 38;exact(HM W hW).mono (fun _ _ h=>zgm.toFr h hW)))));go_big_quiet_on));(try simp only[Act.put,lz0,lz1,lz2])));refine wpQuiet_nil ?_
     intro w1 hf1
     clear e0 e1 q0 q1 q2 q3 HM HF
     go_wp2
     go_ret;exact .mk (by rw[HS.out]) (by exact frc)
    ·rw[g3] at HM
     rcases hneg with ⟨rfl,ha⟩ | ⟨hix,ha⟩
     ·have HS:Hid (zbt [] y.owns=zbt (y.owns.take (k+1)) (y.owns.drop (k+1))):=by
       have:=hd.out;rwa [g3,ha,Bool.true_and,Bool.true_and] at this
      clear g3 hd ha
      (repeat((first|go_big_quiet_skip|(go_big_quiet_want;(apply Exists.intro;refine⟨fun W hW=>?_,?_⟩);(focus (first|exact fqc|(go_simp;first|(go_at_call 38;exact(HM W hW).mono (fun _ _ h=>zgm.toFr h hW))|(go_at_call 65;exact(HF W hW).mono (fun _ _ h=>zeV.toFr h hW)))));go_big_quiet_on));(try simp only[Act.put,lz0,lz1,lz2])));refine wpQuiet_nil ?_
      intro w1 hf1
      clear e0 e1 q0 q1 q2 q3 HM HF
      go_wp2
      go_roundw
      case rel=>exact⟨k+1,by omega,by go_num,rfl,HS,hB'.keep hf1,by exact frc⟩
      case measure=>simp[intOf];omega
     ·have HS:Hid (kprB many y=false):=zgw (.inr (.inr (.inl (by rw[hd.out,g3,ha];rfl))))
      clear g3 hd ha
      (repeat((first|go_big_quiet_skip|(go_big_quiet_want;(apply Exists.intro;refine⟨fun W hW=>?_,?_⟩);(focus (first|exact fqc|(go_simp;first|(go_at_call 38;exact(HM W hW).mono (fun _ _ h=>zgm.toFr h hW))|(go_at_call 65;exact(HF W hW).mono (fun _ _ h=>zeV.toFr h hW)))));go_big_quiet_on));(try simp only[Act.put,lz0,lz1,lz2])));refine wpQuiet_nil ?_
      intro w1 hf1
      clear e0 e1 q0 q1 q2 q3 HM HF
      go_wp2
      go_ret;exact .mk (by rw[HS.out]) (by exact frc)
   ·have G5:Hid (zbt [] y.owns=true):=by have:=hd.out;rwa [List.drop_eq_nil_of_le (by omega)] at this
    clear ho hd
    go_wp2
    obtain⟨wz,rfl⟩:∃wz:World,wz=wr:=⟨_,rfl⟩
    go_loopw [6,4] (fun i r wq=>∃k:Nat,k≤y.asks.length∧i=.int .i64 k∧r=.bool false∧Hid (zbu many [] y.asks=zbu many (y.asks.take k) (y.asks.drop k))∧Hid (∀a∈y.asks.take k,0≤a.keeper)∧Fr No wz wq) (fun i _ _=>y.asks.length-(intOf i).toNat)
    case atStart=>exact⟨0,Nat.zero_le _,rfl,rfl,rfl,by simp[Hid],Fr.refl _ _⟩
    case round=>
     clear b0 b1 hBl
     obtain⟨k,hk,rfl,rfl,hd,hpos,hfr⟩:=hrel
     have hB2:=hB'.keep hfr
     obtain⟨b0,b1⟩:=hB2.c2
     have hBl:=hB2.lt
     have hwr:Fr No w wr:=hw.trans0 hfr
     by_cases hlt:k<y.asks.length
     ·have hfw:=ha.k0 hwr
      have htk:=hfw.take (Nat.le_of_lt hlt)
      obtain⟨b,off,rfl,hX,c0,c1,hz0⟩:=hfw.ask hlt
      have hbl:=lt_of_cell c0
      have HN:=fun W=>zlv y.asks[k].name W hz0
      have HF:=fun W (h:Fr No wr W)=>zaM X _ (.slice none 0 0) (y.asks.take k) y.asks[k].name W (htk.keep h zN (fun _ _ _ h9=>h9)) hz0
      have HL:=fun W=>zlz y.asks[k].keeper 0 ((many:Int)-1) W
      have wl:IntKind.i64.wrap ((many:Int)-1)=(many:Int)-1:=IntWalk.i64_in _ (by omega)
      have hposk:0≤y.asks[k].keeper->Hid (∀a∈y.asks.take (k+1),0≤a.keeper):=fun h0=>by
       show ∀a∈y.asks.take (k+1),0≤a.keeper
       rw[List.take_succ_eq_append_getElem hlt]
       intro a hm
       rcases List.mem_append.1 hm with hm|hm
       ·exact hpos.out a hm
       ·rw[List.mem_singleton] at hm;rw[hm];exact h0
      have hposk:=Lib.hid hposk
      clear ha hfw htk
      have hd:=Lib.hid (zbw hlt hd.out)
      have hkk:(k:Int).toNat=k:=by omega
      have hkc:k≤ca:=by omega
      generalize y.asks[k]=f at *
      have hneg:(zbE (y.asks.take k) f.name).getD (-1)=-1∧(y.asks.take k).all (fun g=>!zbq f.name g)=true∨0≤(zbE (y.asks.take k) f.name).getD (-1)∧(y.asks.take k).all (fun g=>!zbq f.name g)=false:=by
       cases ho:zbE (y.asks.take k) f.name with
       | none=>exact .inl ⟨rfl,zgt.1 ho⟩
       | some v=>
        refine .inr ⟨?_,?_⟩
        ·obtain⟨a,hm,hv⟩:=zbK ho
         have:=hpos.out a hm
         rw[hv] at this
         exact this
        ·cases hal:(y.asks.take k).all (fun g=>!zbq f.name g)
         ·rfl
         ·rw[zgt.2 hal] at ho;cases ho
      generalize(zbE (y.asks.take k) f.name).getD (-1)=ix at *
      have hcase:namB f.name=false∨(namB f.name=true∧(decide (0≤f.keeper)&&decide (f.keeper≤(many:Int)-1))=false)∨(namB f.name=true∧(decide (0≤f.keeper)&&decide (f.keeper≤(many:Int)-1))=true):=by
       cases namB f.name<;>cases(decide (0≤f.keeper)&&decide (f.keeper≤(many:Int)-1))<;>simp
      have hrg:(decide (0≤f.keeper)&&decide (f.keeper<(many:Int)))=(decide (0≤f.keeper)&&decide (f.keeper≤(many:Int)-1)):=by
       rw[Bool.eq_iff_iff];simp;omega
      rw[hrg] at hd
      replace hd:=Lib.hid hd.out
      clear hpos hrg
      have e0:=fun W (h:Fr No wr W)=>(hB2.keep h).c2.1
      have e1:=fun W (h:Fr No wr W)=>(hB2.keep h).c2.2
      have q0:=kp c0
      have q1:=kp c1
      go_wp2_with fail
      (refine zgc (X:=No) (by kernel_rfl) (by kernel_rfl) ?_)
      clear b0 b1 c0 c1
      rcases hcase with g3 | ⟨g3,g4⟩ | ⟨g3,g4⟩
      ·rw[g3] at HN
       have HS:Hid (kprB many y=false):=zgw (.inr (.inr (.inr (by rw[hd.out,g3];rfl))))
       clear g3 hneg hd
       (repeat((first|go_big_quiet_skip|(go_big_quiet_want;(apply Exists.intro;refine⟨fun W hW=>?_,?_⟩);(focus (first|exact fqc|(go_simp;first|(go_at_call 36;exact(HN W).mono (fun _ _ h=>zgl.toFr h hW)))));go_big_quiet_on));(try simp only[Act.put,lz0,lz1,lz2])));refine wpQuiet_nil ?_
       intro w1 hf1
       clear e0 e1 q0 q1 HN HF HL
       go_wp2
       go_ret;exact .mk (by rw[HS.out]) (by exact frc)
      ·rw[g3] at HN
       rw[g4] at HL
       have HS:Hid (kprB many y=false):=zgw (.inr (.inr (.inr (by rw[hd.out,g3,g4];rfl))))
       clear g3 g4 hneg hd
       (repeat((first|go_big_quiet_skip|(go_big_quiet_want;(apply Exists.intro;refine⟨fun W hW=>?_,?_⟩);(focus (first|exact fqc|(go_simp;first|(go_at_call 36;exact(HN W).mono (fun _ _ h=>zgl.toFr h hW))|(go_at_call 34;exact(HL W).mono (fun _ _ h=>zgl.toFr h hW)))));go_big_quiet_on));(try simp only[Act.put,lz0,lz1,lz2])));refine wpQuiet_nil ?_
       intro w1 hf1
       clear e0 e1 q0 q1 HN HF HL
       go_wp2
       go_ret;exact .mk (by rw[HS.out]) (by exact frc)
      ·rw[g3] at HN
       rw[g4] at HL
       have hposk:=hposk.out (by rw[lz5,decide_eq_true_eq] at g4;exact g4.1)
       rcases hneg with ⟨rfl,ha⟩ | ⟨hix,ha⟩
       ·have HS:Hid (zbu many [] y.asks=zbu many (y.asks.take (k+1)) (y.asks.drop (k+1))):=by
         have:=hd.out;rwa [g3,g4,ha,Bool.true_and,Bool.true_and,Bool.true_and] at this
        clear g3 g4 hd ha
        (repeat((first|go_big_quiet_skip|(go_big_quiet_want;(apply Exists.intro;refine⟨fun W hW=>?_,?_⟩);(focus (first|exact fqc|(go_simp;first|(go_at_call 36;exact(HN W).mono (fun _ _ h=>zgl.toFr h hW))|(go_at_call 34;exact(HL W).mono (fun _ _ h=>zgl.toFr h hW))|(go_at_call 66;exact(HF W hW).mono (fun _ _ h=>zeV.toFr h hW)))));go_big_quiet_on));(try simp only[Act.put,lz0,lz1,lz2])));refine wpQuiet_nil ?_
        intro w1 hf1
        clear e0 e1 q0 q1 HN HF HL
        go_wp2
        go_roundw
        case rel=>exact⟨k+1,by omega,by go_num,rfl,HS,hposk,by exact frc⟩
        case measure=>simp[intOf];omega
       ·have HS:Hid (kprB many y=false):=zgw (.inr (.inr (.inr (by rw[hd.out,g3,g4,ha];rfl))))
        clear g3 g4 hd ha
        (repeat((first|go_big_quiet_skip|(go_big_quiet_want;(apply Exists.intro;refine⟨fun W hW=>?_,?_⟩);(focus (first|exact fqc|(go_simp;first|(go_at_call 36;exact(HN W).mono (fun _ _ h=>zgl.toFr h hW))|(go_at_call 34;exact(HL W).mono (fun _ _ h=>zgl.toFr h hW))|(go_at_call 66;exact(HF W hW).mono (fun _ _ h=>zeV.toFr h hW)))));go_big_quiet_on));(try simp only[Act.put,lz0,lz1,lz2])));refine wpQuiet_nil ?_
        intro w1 hf1
        clear e0 e1 q0 q1 HN HF HL
        go_wp2
        go_ret;exact .mk (by rw[HS.out]) (by exact frc)
     ·have G6:Hid (kprB many y=true):=zaN (by omega) (by omega) G5.out (by have:=hd.out;rwa [List.drop_eq_nil_of_le (by omega)] at this)
      clear ha hd
      go_wp2
      go_ret;exact .mk (by rw[G6.out]) (by exact frc)
theorem zaP (X:Nat->Prop) (p:Plan) (v:Value) (w:World) (h:Sl X w 2 (KprC X w) v p.keepers):
  Calls Tryz.prog 17 #[.agg #[v]] w (zgm (lodB p) w):=by
 obtain⟨A,cap,rfl,hcap,hlen⟩:=h.form
 have hlen':=hlen
 unfold maxLen at hlen'
 have hB:=Bx.new w 35 #[.slice A p.keepers.length cap]
 have hw0:Fr No w (w.alloc (.cells #[.slice A p.keepers.length cap] 35)):=(Fr.refl No w).alloc _
 have HL:=fun W=>zlz p.keepers.length 1 3 W
 by_cases hr:1≤p.keepers.length∧p.keepers.length≤3
 ·obtain⟨h1,h3⟩:=hr
  have hb:Hid (lodB p=p.keepers.all (kprB p.keepers.length)):=by unfold Hid lodB;rw[decide_eq_true h1,decide_eq_true h3];rfl
  have d1:(decide (1≤(p.keepers.length:Int))&&decide ((p.keepers.length:Int)≤3))=true:=by simp;omega
  rw[d1] at HL
  go_enter Tryz.func17,Tryz.ntmps17
  go_wp2_with (go_at_call 34;refine(HL _).mono ?_;rintro e w' ⟨rfl,rfl⟩)
  go_loopw [3,2] (fun i r wr=>∃k:Nat,k≤p.keepers.length∧i=.int .i64 k∧r=.bool false∧Hid (p.keepers.all (kprB p.keepers.length)=(p.keepers.drop k).all (kprB p.keepers.length)) ∧
   Bx wr w.heap.size 35 #[.slice A p.keepers.length cap]∧Fr No w wr) (fun i _ _=>p.keepers.length-(intOf i).toNat)
  case atStart=>exact⟨0,Nat.zero_le _,rfl,rfl,rfl,hB,hw0⟩
  case round=>
   clear hB hw0 HL
   obtain⟨k,hk,rfl,rfl,hd,hB',hw⟩:=hrel
   have b0:=hB'.c1
   have hBl:=hB'.lt
   by_cases hlt:k<p.keepers.length
   ·obtain⟨b,off,Ao,co,Aa,ca,rfl,hX,c0,c1,hown,hask,_,_,_,_⟩:=(h.keep hw zN (fun _ _ _ h=>h.keep hw zN)).kpr hlt
    have hbl:=lt_of_cell c0
    have hR:KprC X wr [.slice Ao p.keepers[k].owns.length co,.slice Aa p.keepers[k].asks.length ca] p.keepers[k]:=⟨_,_,rfl,hown,hask⟩
    have HK:=fun W (h:Fr No wr W)=>zaO X p.keepers[k] _ p.keepers.length W (hR.keep h zN) h3
    clear h hown hask hR
    rw[List.drop_eq_getElem_cons hlt,List.all_cons] at hd
    have hd:=Lib.hid hd
    generalize p.keepers[k]=y at *
    have e0:=fun W (h:Fr No wr W)=>(hB'.keep h).c1
    have q0:=kp c0
    have q1:=kp c1
    go_wp2_with fail
    (refine zgc (X:=No) (by kernel_rfl) (by kernel_rfl) ?_)
    clear b0 c0 c1
    cases hy:kprB p.keepers.length y
    ·rw[hy] at HK
     have HS:Hid (lodB p=false):=hb.out.trans (hd.out.out.trans (by rw[hy];rfl))
     clear hd hb hy
     (repeat((first|go_big_quiet_skip|(go_big_quiet_want;(apply Exists.intro;refine⟨fun W hW=>?_,?_⟩);(focus (first|exact fqc|(go_simp;first|(go_at_call 35;exact(HK W hW).mono (fun _ _ h=>zgm.toFr h hW)))));go_big_quiet_on));(try simp only[Act.put,lz0,lz1,lz2])));refine wpQuiet_nil ?_
     intro w1 hf1
     clear e0 q0 q1 HK
     go_wp2
     go_ret;exact .mk (by rw[HS.out]) (by exact frc)
    ·rw[hy] at HK
     have HS:Hid (p.keepers.all (kprB p.keepers.length)=(p.keepers.drop (k+1)).all (kprB p.keepers.length)):=hd.out.out.trans (by rw[hy];rfl)
     clear hd hy
     (repeat((first|go_big_quiet_skip|(go_big_quiet_want;(apply Exists.intro;refine⟨fun W hW=>?_,?_⟩);(focus (first|exact fqc|(go_simp;first|(go_at_call 35;exact(HK W hW).mono (fun _ _ h=>zgm.toFr h hW)))));go_big_quiet_on));(try simp only[Act.put,lz0,lz1,lz2])));refine wpQuiet_nil ?_
     intro w1 hf1
     clear e0 q0 q1 HK
     go_wp2
     go_roundw
     case rel=>exact⟨k+1,by omega,by go_num,rfl,HS,hB'.keep hf1,by exact frc⟩
     case measure=>simp[intOf];omega
   ·have HS:Hid (lodB p=true):=hb.out.trans (hd.out.trans (by rw[List.drop_eq_nil_of_le (by omega)];rfl))
    clear h hd
    go_wp2
    go_ret;exact .mk (by rw[HS.out]) (by exact frc)
 ·have hb:Hid (lodB p=false):=by
   show lodB p=false
   unfold lodB
   have:(decide (1≤p.keepers.length)&&decide (p.keepers.length≤3))=false:=by simp;omega
   rw[this];rfl
  have d1:(decide (1≤(p.keepers.length:Int))&&decide ((p.keepers.length:Int)≤3))=false:=by simp;omega
  rw[d1] at HL
  clear h
  go_enter Tryz.func17,Tryz.ntmps17
  go_wp2_with (go_at_call 34;refine(HL _).mono ?_;rintro e w' ⟨rfl,rfl⟩)
  go_ret;exact .mk (by rw[hb.out]) (by exact frc)
end Go.Proofs.YtpghfhjhjlmljaaGreat
