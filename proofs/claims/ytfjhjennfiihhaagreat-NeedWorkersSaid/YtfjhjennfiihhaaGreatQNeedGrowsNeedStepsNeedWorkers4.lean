/- Texts of this claim, one behind the other: Half4r, Chk4r, Out4r, Eq4, Ex4, Dst8b, RngA, Lv7b, PlainBall, PlainSr, PlainLs, Lb2, Lb3, Lb4, Spl16, Ord17a, Ord17b, Rgt19, RngB, RngC, RngM, Lv7c, Wrk19, Mrk, LoopL, PlainOrn, Lv7d, RngM2, Lv7m, KeepM, FixA, Stp19, Pq6, Pq6b, PlainNx, PlainGo, StR19, Pg5. -/
import Derived.Test.YtfjhjennfiihhaaGreatQNeedGrowsNeedStepsNeedWorkers3
set_option maxRecDepth 100000
set_option maxHeartbeats 16000000
namespace Go.Proofs.YtfjhjennfiihhaaGreat
section
open Go Go.RowKit
theorem halfB_no1 {O T:List Int} (h:¬ (2≤O.length∧O.length≤201∧T.length≤2000∧nth O 0=0∧nth O (O.length - 1)=T.length∧sortB O=true)):halfB O T=false:=by
 cases h1:halfB O T with
 | false=>rfl
 | true=>exact absurd (offB_parts (by unfold halfB at h1;rw [Bool.and_eq_true] at h1;exact h1.1)) h
theorem halfB_no2 {O T:List Int} {v:Nat} (hv:v<O.length - 1) (h:okRow ((O.length - 1:Nat):Int) (rowL O T v)=false):halfB O T=false:=by
 unfold halfB
 rw [range_all_no _ _ v hv h,Bool.and_false]
theorem half04 (po:Option Addr) (no co:Nat) (O:List Int) (pt:Option Addr) (nt ct:Nat) (T:List Int) (w:World) (hO:Rd w 1 po no (encI O)) (hT:Rd w 1 pt nt (encI T)):Calls Tryz.prog 156 #[.slice po no co,.slice pt nt ct] w fun e w'=>e=.returned (.bool (halfB O T))∧Ext w w':=by
 have pO:=hO.ptr
 have pT:=hT.ptr
 have n1:=hO.small
 have n2:=hT.small
 have l1:=Lib.hid hO.nI
 have l2:=Lib.hid hT.nI
 have HNO:=Lib.hid (fun h=>halfB_no1 (O:=O) (T:=T) h)
 by_cases h1:no<2
 ·have d1:decide ((no:Int)<2)=true:=by simp;omega
  have HF:Hid (halfB O T=false):=HNO.out (by rw [← l1.out];omega)
  clear hO hT
  go_enter Tryz.func156,Tryz.ntmps156
  go_wp2
  go_ret
  exact⟨ret_bool HF.out.symm,Below.refl _ _⟩
 ·have d1:decide ((no:Int)<2)=false:=by simp;omega
  by_cases h2:201<no
  ·have d2:decide ((201:Int)<no)=true:=by simp;omega
   have HF:Hid (halfB O T=false):=HNO.out (by rw [← l1.out];omega)
   clear hO hT
   go_enter Tryz.func156,Tryz.ntmps156
   go_wp2
   go_ret
   exact⟨ret_bool HF.out.symm,Below.refl _ _⟩
  ·have d2:decide ((201:Int)<no)=false:=by simp;omega
   have g0:=hO.cI (k:=0) (by omega)
   have q1:(0:Int)<no:=by omega
   have g5:=hO.cI (k:=no - 1) (by omega)
   have q2:(0:Int)≤(no:Int) - 1:=by omega
   have q2b:(1:Int)≤(no:Int):=by omega
   have q3:(no:Int) - 1<no:=by omega
   by_cases h4:nth O 0=0
   ·have d4:(nth O 0 != 0)=false:=by simpa using h4
    by_cases h5:nth O (no - 1)=nt
    ·have d5:(nth O (no - 1) != (nt:Int))=false:=by simpa using h5
     by_cases h3:2000<nt
     ·have d3:decide ((2000:Int)<nt)=true:=by simp;omega
      have HF:Hid (halfB O T=false):=HNO.out (by rw [← l2.out];omega)
      clear hO hT
      go_enter Tryz.func156,Tryz.ntmps156
      go_wp2
      go_ret
      exact⟨ret_bool HF.out.symm,Below.refl _ _⟩
     ·have d3:decide ((2000:Int)<nt)=false:=by simp;omega
      have HOFF:Hid (sortB O=true→offB O T=true):=fun h6=>by
       unfold offB
       rw [h6,h4]
       rw [← l1.out,← l2.out,h5]
       simp;omega
      have HO:=Lib.hid hO;clear hO
      have HT:=Lib.hid hT;clear hT
      have h4':=Lib.hid h4
      have h5':=Lib.hid h5
      clear h4 h5
      go_enter Tryz.func156,Tryz.ntmps156
      go_wp2
      go_loopw [5] (fun i wr=>∃ v:Nat,1≤v∧v≤no∧i=.int .i64 v∧(∀ u,u+1<v→nth O u≤nth O (u+1))∧Ext w wr) (fun i _=>no - (intOf i).toNat)
      case atStart=>exact⟨1,Nat.le_refl _,by omega,rfl,fun u hu=>by omega,Below.refl _ _⟩
      case round =>
       obtain⟨v,hv1,hv,rfl,ha,hE⟩:=hrel
       have HA:=Lib.hid ha;clear ha
       by_cases hlt:v<no
       ·have c1:=hE.cell (HO.out.cI hlt)
        have c0:=hE.cell (HO.out.cI (k:=v - 1) (by omega))
        have e1:(0:Int)≤v:=by omega
        have e2:(v:Int)<no:=by omega
        have e3:(1:Int)≤(v:Int):=by omega
        have e4:(v:Int) - 1<no:=by omega
        have e5:(0:Int)≤(v:Int) - 1:=by omega
        have HE:=Lib.hid hE;clear hE
        by_cases hs:nth O v<nth O (v - 1)
        ·have b1:decide (nth O v<nth O (v - 1))=true:=by simpa using hs
         have HF:Hid (halfB O T=false):=HNO.out (fun h=>by
          have:=sortB_at h.2.2.2.2.2 (v:=v - 1) (by rw [← l1.out];omega)
          rw [show v - 1+1=v by omega] at this;omega)
         go_wp2
         have x1:=fun x:ExtOf wr=>x.ext.cell c1
         have x0:=fun x:ExtOf wr=>x.ext.cell c0
         refine wp_region_ext (by kernel_rfl) (by kernel_rfl) ?_
         repeat (go_big_quiet_step ((fail)))
         refine wpQuiet_nil ?_
         rintro w1 ⟨⟨_,hb1⟩,rfl⟩
         go_wp2
         go_ret
         exact⟨ret_bool HF.out.symm,Ext.trans HE.out hb1⟩
        ·have b1:decide (nth O v<nth O (v - 1))=false:=by simpa using hs
         go_wp2
         have x1:=fun x:ExtOf wr=>x.ext.cell c1
         have x0:=fun x:ExtOf wr=>x.ext.cell c0
         refine wp_region_ext (by kernel_rfl) (by kernel_rfl) ?_
         repeat (go_big_quiet_step ((fail)))
         refine wpQuiet_nil ?_
         rintro w1 ⟨⟨_,hb1⟩,rfl⟩
         go_wp2
         go_roundw
         case rel=>exact⟨v+1,by omega,by omega,by go_num,fun u hu=>by
          by_cases h:u+1=v
          ·have:v - 1=u:=by omega
           rw [this] at hs;rw [h];omega
          ·exact HA.out u (by omega),Ext.trans HE.out hb1⟩
         case measure=>simp [intOf];omega
       ·have hso:sortB O=true:=by
         unfold sortB
         rw [List.all_eq_true]
         intro u hu
         rw [List.mem_range] at hu
         exact decide_eq_true (HA.out u (by have:=l1.out;omega))
        have HOF:=Lib.hid (HOFF.out hso)
        have HOK:=Lib.hid (offOk_of HOF.out)
        clear hso HA
        have HE:=Lib.hid hE;clear hE
        go_wp2
        go_loopw [6,7] (fun i _ wr=>∃ v:Nat,1≤v∧v≤no∧i=.int .i64 v∧(∀ u,u+1<v→okRow ((O.length - 1:Nat):Int) (rowL O T u)=true)∧Ext w wr) (fun i _ _=>no - (intOf i).toNat)
        case atStart=>exact⟨1,Nat.le_refl _,by omega,rfl,fun u hu=>by omega,HE.out⟩
        case round =>
         clear HE hlt hv1 hv
         obtain⟨v,hv1,hv,rfl,ha,hE⟩:=hrel
         have HA:=Lib.hid ha;clear ha
         by_cases hlt:v<no
         ·have hvL:v - 1+1<O.length:=by have:=l1.out;omega
          have q1':=HOK.out.lo (v - 1) (by omega)
          have q2':=HOK.out.le (v - 1) hvL
          have q3':=HOK.out.hi (v - 1+1) hvL
          rw [show v - 1+1=v by omega] at q2' q3'
          have hrl:=rowL_len HOK.out hvL
          rw [show v - 1+1=v by omega] at hrl
          have c1:=hE.cell (HO.out.cI hlt)
          have c0:=hE.cell (HO.out.cI (k:=v - 1) (by omega))
          have hnth:=Lib.hid (fun j (hj:j<(rowL O T (v - 1)).length)=>rowL_nth (O:=O) (T:=T) (v:=v - 1) hj)
          obtain⟨a,hA⟩:∃ a:Nat,nth O (v - 1)=(a:Int):=⟨(nth O (v - 1)).toNat,by omega⟩
          obtain⟨b,hB⟩:∃ b:Nat,nth O v=(b:Int):=⟨(nth O v).toNat,by omega⟩
          rw [hA] at c0 q1' q2' hrl hnth
          rw [hB] at c1 q2' q3' hrl
          simp only [Int.toNat_natCast] at hrl hnth
          have hbn:b≤nt:=by have:=l2.out;omega
          have hab:a≤b:=by omega
          have e1:(0:Int)≤v:=by omega
          have e2:(v:Int)<no:=by omega
          have e3:(1:Int)≤(v:Int):=by omega
          have e4:(v:Int) - 1<no:=by omega
          have e5:(0:Int)≤(v:Int) - 1:=by omega
          have hn':((O.length - 1:Nat):Int)=(no:Int) - 1:=by have:=l1.out;omega
          have HNO2:=Lib.hid (fun h=>halfB_no2 (O:=O) (T:=T) (v:=v - 1) (by omega) h)
          have HPRE:=Lib.hid (fun (h:okRow ((O.length - 1:Nat):Int) (rowL O T (v - 1))=true)=>(fun u (hu:u+1<v+1)=>by
           by_cases h2:u=v - 1
           ·rw [h2];exact h
           ·exact HA.out u (by omega):∀ u,u+1<v+1→okRow ((O.length - 1:Nat):Int) (rowL O T u)=true))
          rw [hn'] at HNO2 HPRE ⊢
          have c1w:=Lib.hid (HO.out.cI hlt)
          have c0w:=Lib.hid (HO.out.cI (k:=v - 1) (by omega))
          rw [hB] at c1w
          rw [hA] at c0w
          generalize rowL O T (v - 1)=l at *
          have HRL:=Lib.hid hrl
          have HE:=Lib.hid hE;clear hE
          clear hA hB hrl q1' q2' q3' hn' hvL
          go_wp2
          go_loopw [7] (fun i wr=>∃ m j:Nat,m=a+j∧j≤b - a∧i=.int .i64 m∧(List.range j).all (okAt ((no:Int) - 1) l)=true∧Ext w wr) (fun i _=>b - (intOf i).toNat)
          case atStart=>exact⟨a,0,rfl,Nat.zero_le _,rfl,rfl,HE.out⟩
          case round =>
           clear HE c1 c0
           obtain⟨m,j,hm,hj,rfl,ha,hE⟩:=hrel
           have c1:=hE.cell c1w.out
           have c0:=hE.cell c0w.out
           have HA':=Lib.hid ha;clear ha
           have hm1:a+j≤m:=by omega
           have hm2:m≤a+j:=by omega
           by_cases hlj:j<b - a
           ·have hjl:j<l.length:=by rw [HRL.out];exact hlj
            have t1:=hE.cell (HT.out.cI (k:=m) (by omega))
            have hx:=hnth.out j hjl
            rw [← hm] at hx
            rw [← hx] at t1
            clear hm
            have f1:(0:Int)≤m:=by omega
            have f2:(m:Int)<b:=by omega
            have f3:(m:Int)<nt:=by omega
            by_cases g1:nth l j<0
            ·have b1:decide (nth l j<0)=true:=by simpa using g1
             have HF:Hid (halfB O T=false):=HNO2.out (range_all_no _ _ j hjl (by unfold okAt;simp;omega))
             clear hx
             have HE:=Lib.hid hE;clear hE
             go_wp2
             have x0:=fun x:ExtOf wr=>x.ext.cell c0
             have x1:=fun x:ExtOf wr=>x.ext.cell t1
             refine wp_region_ext (by kernel_rfl) (by kernel_rfl) ?_
             repeat (go_big_quiet_step ((fail)))
             refine wpQuiet_nil ?_
             rintro w1 ⟨⟨_,hb1⟩,rfl⟩
             go_wp2
             go_ret
             exact⟨ret_bool HF.out.symm,Ext.trans HE.out hb1⟩
            ·have b1:decide (nth l j<0)=false:=by simpa using g1
             by_cases g2:(no:Int) - 1≤nth l j
             ·have b2:decide ((no:Int) - 1≤nth l j)=true:=by simpa using g2
              have HF:Hid (halfB O T=false):=HNO2.out (range_all_no _ _ j hjl (by unfold okAt;simp;omega))
              clear hx
              have HE:=Lib.hid hE;clear hE
              go_wp2
              have x0:=fun x:ExtOf wr=>x.ext.cell c0
              have x1:=fun x:ExtOf wr=>x.ext.cell t1
              refine wp_region_ext (by kernel_rfl) (by kernel_rfl) ?_
              repeat (go_big_quiet_step ((fail)))
              refine wpQuiet_nil ?_
              rintro w1 ⟨⟨_,hb1⟩,rfl⟩
              go_wp2
              go_ret
              exact⟨ret_bool HF.out.symm,Ext.trans HE.out hb1⟩
             ·have b2:decide ((no:Int) - 1≤nth l j)=false:=by simpa using g2
              by_cases hj0:j=0
              ·have b3:decide ((a:Int)<(m:Int))=false:=by simp;omega
               have b3n:decide (a<m)=false:=by simp;omega
               have HK:Hid (okAt ((no:Int) - 1) l j=true):=by unfold Hid okAt;simp;omega
               clear hx hj0
               have HE:=Lib.hid hE;clear hE
               go_wp2
               have x0:=fun x:ExtOf wr=>x.ext.cell c0
               have x1:=fun x:ExtOf wr=>x.ext.cell t1
               refine wp_region_ext (by kernel_rfl) (by kernel_rfl) ?_
               repeat (go_big_quiet_step ((fail)))
               refine wpQuiet_nil ?_
               rintro w1 ⟨⟨_,hb1⟩,rfl⟩
               go_wp2
               go_roundw
               case rel=>exact⟨m+1,j+1,by omega,by omega,by go_num,range_all_succ _ _ HA'.out HK.out,Ext.trans HE.out hb1⟩
               case measure=>simp [intOf];omega
              ·have b3:decide ((a:Int)<(m:Int))=true:=by simp;omega
               have b3n:decide (a<m)=true:=by simp;omega
               have t0:=hE.cell (HT.out.cI (k:=m - 1) (by omega))
               have hy:=hnth.out (j - 1) (by omega)
               rw [show a+(j - 1)=m - 1 by omega] at hy
               rw [← hy] at t0
               have f4:(1:Int)≤(m:Int):=by omega
               have f5:(m:Int) - 1<nt:=by omega
               have f6:(0:Int)≤(m:Int) - 1:=by omega
               by_cases g3:nth l j≤nth l (j - 1)
               ·have b4:decide (nth l j≤nth l (j - 1))=true:=by simpa using g3
                have HF:Hid (halfB O T=false):=HNO2.out (range_all_no _ _ j hjl (by unfold okAt;simp;omega))
                clear hx hy
                have HE:=Lib.hid hE;clear hE
                go_wp2
                have x0:=fun x:ExtOf wr=>x.ext.cell c0
                have x1:=fun x:ExtOf wr=>x.ext.cell t1
                have x2:=fun x:ExtOf wr=>x.ext.cell t0
                refine wp_region_ext (by kernel_rfl) (by kernel_rfl) ?_
                repeat (go_big_quiet_step ((fail)))
                refine wpQuiet_nil ?_
                rintro w1 ⟨⟨_,hb1⟩,rfl⟩
                go_wp2
                go_ret
                exact⟨ret_bool HF.out.symm,Ext.trans HE.out hb1⟩
               ·have b4:decide (nth l j≤nth l (j - 1))=false:=by simpa using g3
                have HK:Hid (okAt ((no:Int) - 1) l j=true):=by unfold Hid okAt;simp;omega
                clear hx hy
                have HE:=Lib.hid hE;clear hE
                go_wp2
                have x0:=fun x:ExtOf wr=>x.ext.cell c0
                have x1:=fun x:ExtOf wr=>x.ext.cell t1
                have x2:=fun x:ExtOf wr=>x.ext.cell t0
                refine wp_region_ext (by kernel_rfl) (by kernel_rfl) ?_
                repeat (go_big_quiet_step ((fail)))
                refine wpQuiet_nil ?_
                rintro w1 ⟨⟨_,hb1⟩,rfl⟩
                go_wp2
                go_roundw
                case rel=>exact⟨m+1,j+1,by omega,by omega,by go_num,range_all_succ _ _ HA'.out HK.out,Ext.trans HE.out hb1⟩
                case measure=>simp [intOf];omega
           ·clear hm
            have HOKR:Hid (okRow ((no:Int) - 1) l=true):=by unfold Hid okRow;rw [HRL.out,show b - a=j by omega];exact HA'.out
            have f2:decide ((m:Int)<b)=false:=by simp;omega
            have f2n:decide (m<b)=false:=by simp;omega
            have HE:=Lib.hid hE;clear hE
            go_wp2
            go_roundw
            case rel=>exact⟨v+1,by omega,by omega,by go_num,HPRE.out HOKR.out,HE.out⟩
            case measure=>simp [intOf];omega
         ·have HF:Hid (halfB O T=true):=by
           unfold Hid halfB
           rw [HOF.out,Bool.true_and,List.all_eq_true]
           intro u hu
           rw [List.mem_range] at hu
           exact HA.out u (by have:=l1.out;omega)
          have HE:=Lib.hid hE;clear hE
          go_wp2
          go_ret
          exact⟨ret_bool HF.out.symm,HE.out⟩
    ·have d5:(nth O (no - 1) != (nt:Int))=true:=by simpa using h5
     have HF:Hid (halfB O T=false):=HNO.out (by rw [← l1.out,← l2.out];exact fun h=>h5 h.2.2.2.2.1)
     clear h4 h5
     clear hO hT
     go_enter Tryz.func156,Tryz.ntmps156
     go_wp2
     go_ret
     exact⟨ret_bool HF.out.symm,Below.refl _ _⟩
   ·have d4:(nth O 0 != 0)=true:=by simpa using h4
    have HF:Hid (halfB O T=false):=HNO.out (fun h=>h4 h.2.2.2.1)
    clear h4
    clear hO hT
    go_enter Tryz.func156,Tryz.ntmps156
    go_wp2
    go_ret
    exact⟨ret_bool HF.out.symm,Below.refl _ _⟩
end
section
open Go Go.RowKit
theorem Check04_no (po:Option Addr) (no co:Nat) (O:List Int) (pt:Option Addr) (nt ct:Nat) (T:List Int) (pr:Option Addr) (nr cr:Nat) (R:List Int) (pv:Option Addr) (nv cv:Nat) (V:List Int) (w:World) (hO:Rd w 1 po no (encI O)) (hT:Rd w 1 pt nt (encI T)) (hR:Rd w 1 pr nr (encI R)) (hV:Rd w 1 pv nv (encI V)) (hct:nt≤ct) (hcv:nv≤cv) (h:no≠nr∨nt≠nv∨halfB O T=false∨halfB R V=false) :
  Calls Tryz.prog 96 #[.agg #[.slice po no co,.slice pt nt ct,.slice pr nr cr,.slice pv nv cv]] w fun e w'=>e=.returned (.bool false)∧Ext w w':=by
 have _u:=And.intro hct hcv
 have S0:=Lib.hid ((Sep.start w).al #[.slice po no co,.slice pt nt ct,.slice pr nr cr,.slice pv nv cv] 27 w.heap.size rfl)
 have HH1:=Lib.hid (fun W1 (h:Ext w W1)=>half04 po no co O pt nt ct T W1 (hO.ext h) (hT.ext h))
 have HH2:=Lib.hid (fun W1 (h:Ext w W1)=>half04 pr nr cr R pv nv cv V W1 (hR.ext h) (hV.ext h))
 clear hO hT hR hV
 by_cases h1:no=nr
 ·have d1:((no:Int) != (nr:Int))=false:=by simp;omega
  cases h3:halfB O T with
  | false =>
   rw [h3] at HH1
   clear h h1 h3
   go_enter Tryz.func96,Tryz.ntmps96
   go_wp2_with (go_at_call 156;go_must (refine(HH1.out _ S0.out.ext).mono ?_;rintro e w1 ⟨rfl,hb⟩;have S1:=Lib.hid (S0.out.call hb);obtain⟨az,a0,a1,a2,a3⟩:=bklc0c1c2c3 (S1.out.blk 0 rfl);clear hb))
   go_ret
   exact⟨rfl,S1.out.ext⟩
  | true =>
   rw [h3] at HH1
   cases h4:halfB R V with
   | false =>
    rw [h4] at HH2
    clear h h1 h3 h4
    go_enter Tryz.func96,Tryz.ntmps96
    go_wp2_with (first | (go_at_call 156;have _t:=S1;go_must (refine(HH2.out _ S1.out.ext).mono ?_;rintro e w2 ⟨rfl,hb⟩;have S2:=Lib.hid (S1.out.call hb);obtain⟨bz,b0,b1,b2,b3⟩:=bklc0c1c2c3 (S2.out.blk 0 rfl);clear hb)) | (go_at_call 156;go_must (refine(HH1.out _ S0.out.ext).mono ?_;rintro e w1 ⟨rfl,hb⟩;have S1:=Lib.hid (S0.out.call hb);obtain⟨az,a0,a1,a2,a3⟩:=bklc0c1c2c3 (S1.out.blk 0 rfl);clear hb)))
    go_ret
    exact⟨rfl,S2.out.ext⟩
   | true =>
    rw [h4] at HH2
    have d2:((nt:Int) != (nv:Int))=true:=by
     rcases h with h | h | h | h
     ·exact absurd h1 h
     ·simp;omega
     ·rw [h3] at h;cases h
     ·rw [h4] at h;cases h
    clear h h1 h3 h4
    go_enter Tryz.func96,Tryz.ntmps96
    go_wp2_with (first | (go_at_call 156;have _t:=S1;go_must (refine(HH2.out _ S1.out.ext).mono ?_;rintro e w2 ⟨rfl,hb⟩;have S2:=Lib.hid (S1.out.call hb);obtain⟨bz,b0,b1,b2,b3⟩:=bklc0c1c2c3 (S2.out.blk 0 rfl);clear hb)) | (go_at_call 156;go_must (refine(HH1.out _ S0.out.ext).mono ?_;rintro e w1 ⟨rfl,hb⟩;have S1:=Lib.hid (S0.out.call hb);obtain⟨az,a0,a1,a2,a3⟩:=bklc0c1c2c3 (S1.out.blk 0 rfl);clear hb)))
    go_ret
    exact⟨rfl,S2.out.ext⟩
 ·have d1:((no:Int) != (nr:Int))=true:=by simp;omega
  clear h h1
  go_enter Tryz.func96,Tryz.ntmps96
  go_wp2
  go_ret
  exact⟨rfl,S0.out.ext⟩
def ChkQ (m:List Int) (k:Int) (i:Nat) (v:Value) (W:World):Prop :=
 match i with
 | 8=>∃ q c,v=.slice q m.length c∧Rd W 1 q m.length (encI m)
 | 10=>v=.bool (inB m k)
 | _=>True
theorem ChkQ_mono {m:List Int} {k:Int}:∀ i v W W',Ext W W'→ChkQ m k i v W→ChkQ m k i v W':=by
 intro i v W W' he h
 unfold ChkQ at *
 split at h
 ·obtain⟨q,c,h1,h2⟩:=h;exact⟨q,c,h1,h2.ext he⟩
 ·exact h
 ·trivial
theorem rowX_take_all {O T R V:List Int} {k j:Nat} (hj:j<(rowL O T k).length):((rowX O T k).take (j+1)).all (backB R V)=(((rowX O T k).take j).all (backB R V) && inB (rowL R V (nth (rowL O T k) j).toNat) k):=by
 rw [rowX_take hj,List.all_append];simp [backB]
theorem Check04_yes (po:Option Addr) (no co:Nat) (O:List Int) (pt:Option Addr) (nt ct:Nat) (T:List Int) (pr:Option Addr) (nr cr:Nat) (R:List Int) (pv:Option Addr) (nv cv:Nat) (V:List Int) (w:World) (hO:Rd w 1 po no (encI O)) (hT:Rd w 1 pt nt (encI T)) (hR:Rd w 1 pr nr (encI R)) (hV:Rd w 1 pv nv (encI V)) (hct:nt≤ct) (hcv:nv≤cv) (e1:no=nr) (e2:nt=nv) (h1:halfB O T=true) (h2:halfB R V=true) :
  Calls Tryz.prog 96 #[.agg #[.slice po no co,.slice pt nt ct,.slice pr nr cr,.slice pv nv cv]] w fun e w'=>e=.returned (.bool ((pairs O T).all (backB R V)))∧Ext w w':=by
 have l1:=hO.nI
 have l2:=hT.nI
 have l3:=hR.nI
 have l4:=hV.nI
 have n1:=hO.small
 have S0:=Lib.hid ((Sep.start w).al #[.slice po no co,.slice pt nt ct,.slice pr nr cr,.slice pv nv cv] 27 w.heap.size rfl)
 have HH1:=Lib.hid (fun W1 (h:Ext w W1)=>half04 po no co O pt nt ct T W1 (hO.ext h) (hT.ext h))
 have HH2:=Lib.hid (fun W1 (h:Ext w W1)=>half04 pr nr cr R pv nv cv V W1 (hR.ext h) (hV.ext h))
 rw [h1] at HH1
 rw [h2] at HH2
 have d1:((no:Int) != (nr:Int))=false:=by simp;omega
 have d2:((nt:Int) != (nv:Int))=false:=by simp;omega
 have r:=offB_parts (halfB_off h1)
 have r':=offB_parts (halfB_off h2)
 have HR1:=Lib.hid (fun W1 (h:Ext w W1) k (hk:k+1<O.length)=>row04 po no co O pt nt ct T k W1 (hO.ext h) (hT.ext h) hct (offOk_of (halfB_off h1)) hk (by omega))
 have HR2:=Lib.hid (fun W1 (h:Ext w W1) k (hk:k+1<R.length)=>row04 pr nr cr R pv nv cv V k W1 (hR.ext h) (hV.ext h) hcv (offOk_of (halfB_off h2)) hk (by omega))
 have HPB:=Lib.hid (fun x (hx:x∈pairs O T)=>pair_bd h1 hx)
 have L1:=Lib.hid l1
 have L3:=Lib.hid l3
 have E1:=Lib.hid e1
 have rl2000:∀ k,(rowL O T k).length≤2000:=fun k=>by unfold rowL;rw [List.length_take,List.length_drop];omega
 have ru2000:∀ k,(rowL R V k).length≤2000:=fun k=>by unfold rowL;rw [List.length_take,List.length_drop];omega
 have RL:=Lib.hid rl2000
 have RU:=Lib.hid ru2000
 have no200:no≤201:=by omega
 clear hO hT hR hV h1 h2 l1 l2 l3 l4 e1 e2 r r' rl2000 ru2000
 go_enter Tryz.func96,Tryz.ntmps96
 go_wp2_with (first | (go_at_call 156;have _t:=S1;go_must (refine(HH2.out _ S1.out.ext).mono ?_;rintro e w2 ⟨rfl,hb⟩;have S2:=Lib.hid (S1.out.call hb);obtain⟨bz,b0,b1,b2,b3⟩:=bklc0c1c2c3 (S2.out.blk 0 rfl);clear hb)) | (go_at_call 156;go_must (refine(HH1.out _ S0.out.ext).mono ?_;rintro e w1 ⟨rfl,hb⟩;have S1:=Lib.hid (S0.out.call hb);obtain⟨az,a0,a1,a2,a3⟩:=bklc0c1c2c3 (S1.out.blk 0 rfl);clear hb)))
 go_loopw [3,4,5] (fun v _ _ wr=>∃ k:Nat,k≤no - 1∧v=.int .i64 k∧(pairsK O T k).all (backB R V)=true∧Sep w wr [.blk w.heap.size 27 #[.slice po no co,.slice pt nt ct,.slice pr nr cr,.slice pv nv cv]]) (fun v _ _ _=>no - 1 - (intOf v).toNat)
 case atStart=>exact⟨0,Nat.zero_le _,rfl,rfl,S2.out⟩
 case round =>
  clear S0 S1 S2
  obtain⟨k,hk,rfl,ha,S⟩:=hrel
  have HA:=Lib.hid ha;clear ha
  obtain⟨az,a0,a1,a2,a3⟩:=bklc0c1c2c3 (S.blk 0 rfl)
  by_cases hlt:k<no - 1
  ·have hkO:k+1<O.length:=by have:=L1.out;omega
   have t1:(k:Int)+1<no:=by omega
   have t0:(0:Int)≤k:=by omega
   have HRk:=Lib.hid (fun W1 (h:Ext w W1)=>HR1.out W1 h k hkO)
   have rlk:=RL.out k
   have hpair:=Lib.hid (fun j (hj:j<(rowL O T k).length)=>pairs_at (O:=O) (T:=T) (k:=k) (by omega) hj)
   have hstep:=Lib.hid (fun j (hj:j<(rowL O T k).length)=>rowX_take_all (R:=R) (V:=V) hj)
   have hpre:=Lib.hid (fun j=>pairs_prefix (O:=O) (T:=T) (k:=k) (j:=j) (by omega))
   have hend:Hid ((rowX O T k).take (rowL O T k).length=rowX O T k):=by unfold Hid rowX;rw [List.take_of_length_le (by simp)]
   have hps:=Lib.hid (pairsK_step O T k)
   generalize rowL O T k=l at *
   generalize rowX O T k=xs at *
   have SH:=Lib.hid S;clear S
   go_wp2_with (go_at_call 157;go_must (refine(HRk.out _ SH.out.ext).mono ?_;rintro e w3 ⟨q,c,rfl,Z⟩;have P1:=Lib.hid (SH.out.comp Z);clear Z))
   go_loopw [5] (fun i wr=>∃ j:Nat,j≤l.length∧i=.int .i64 j∧(xs.take j).all (backB R V)=true∧Sep w wr [.own 3 1 q l.length c (encI l),.blk w.heap.size 27 #[.slice po no co,.slice pt nt ct,.slice pr nr cr,.slice pv nv cv]]) (fun i _=>l.length - (intOf i).toNat)
   case atStart=>exact⟨0,Nat.zero_le _,rfl,by simp,P1.out⟩
   case round =>
    clear SH P1 a0 a1 a2 a3 az
    obtain⟨j,hj,rfl,hb,S⟩:=hrel
    have HB:=Lib.hid hb;clear hb
    obtain⟨az,a0,a1,a2,a3⟩:=bklc0c1c2c3 (S.blk 1 rfl)
    have pq:=(S.rd 0 rfl (by omega)).ptr
    by_cases hlj:j<l.length
    ·have g1:=(S.rd 0 rfl (by omega)).cI hlj
     have hpb:=HPB.out _ (hpair.out j hlj)
     simp only at hpb
     obtain⟨u,hu⟩:∃ u:Nat,nth l j=(u:Int):=⟨(nth l j).toNat,by omega⟩
     have huR:u+1<R.length:=by have:=L1.out;have:=L3.out;have:=E1.out;omega
     have HRu:=Lib.hid (fun W1 (h:Ext w W1)=>HR2.out W1 h u huR)
     have hst:=hstep.out j hlj
     rw [HB.out,Bool.true_and,hu,Int.toNat_natCast] at hst
     have HST:=Lib.hid hst
     have ruk:=RU.out u
     rw [hu] at g1
     generalize rowL R V u=m at *
     have t2:(0:Int)≤j:=by omega
     have t3:(j:Int)<l.length:=by omega
     clear hst hpb hu
     have SH:=Lib.hid S;clear S
     cases hin:inB m (k:Int) with
     | true =>
      rw [hin] at HST
      go_wp2
      have x2:=fun x:ExtOf wr=>x.ext.cell a2
      have x3:=fun x:ExtOf wr=>x.ext.cell a3
      have x1:=fun x:ExtOf wr=>x.ext.cell g1
      refine wp_region_mix [true,true,true,true,true,true,true,true,false,true,false] (ChkQ m k) (by kernel_rfl) (by kernel_rfl) (by kernel_rfl) ChkQ_mono ?_
      simp only [nfM]
      repeat (go_big_quiet_step ((fail)))
      refine wpQuiet_nil ⟨⟨fun vs W1 hE hd=>?_,fun vs W1 hE hd=>?_,trivial⟩,fun vs W1 hE hkn=>?_⟩
      ·simp [putM,go_sem]
       exact(HRu.out _ (Ext.trans SH.out.ext hE)).mono fun e w' ⟨q,c,h1,S⟩=>⟨_,h1,⟨q,c,rfl,S.rd 0 rfl (by omega)⟩,S.ext⟩
      ·obtain⟨q,c,e1,e2⟩:=hd 8 (by decide) rfl
       simp [putM,go_sem,e1]
       exact(In04x q _ c m k W1 e2).mono fun e w' ⟨h1,h2⟩=>⟨_,h1,rfl,h2⟩
      obtain⟨⟨q',c',k1,_⟩,k2,_⟩:=hkn
      have k2:vs 10=.bool (inB m k):=k2
      rw [hin] at k2
      have SY:=Lib.hid (SH.out.call hE)
      simp only [putM,k1,k2,List.length_cons,List.length_nil,Nat.zero_add,Nat.reduceAdd,List.drop_succ_cons,List.drop_zero]
      clear x1 x2 x3 k1 k2 hE
      go_wp2
      go_roundw
      case rel=>exact⟨j+1,by omega,by go_num,HST.out,SY.out⟩
      case measure=>simp [intOf];omega
     | false =>
      rw [hin] at HST
      have HF:Hid ((pairs O T).all (backB R V)=false):=by
       obtain⟨t,ht⟩:=hpre.out (j+1)
       unfold Hid
       rw [← ht,List.all_append,List.all_append,HST.out];simp
      go_wp2
      have x2:=fun x:ExtOf wr=>x.ext.cell a2
      have x3:=fun x:ExtOf wr=>x.ext.cell a3
      have x1:=fun x:ExtOf wr=>x.ext.cell g1
      refine wp_region_mix [true,true,true,true,true,true,true,true,false,true,false] (ChkQ m k) (by kernel_rfl) (by kernel_rfl) (by kernel_rfl) ChkQ_mono ?_
      simp only [nfM]
      repeat (go_big_quiet_step ((fail)))
      refine wpQuiet_nil ⟨⟨fun vs W1 hE hd=>?_,fun vs W1 hE hd=>?_,trivial⟩,fun vs W1 hE hkn=>?_⟩
      ·simp [putM,go_sem]
       exact(HRu.out _ (Ext.trans SH.out.ext hE)).mono fun e w' ⟨q,c,h1,S⟩=>⟨_,h1,⟨q,c,rfl,S.rd 0 rfl (by omega)⟩,S.ext⟩
      ·obtain⟨q,c,e1,e2⟩:=hd 8 (by decide) rfl
       simp [putM,go_sem,e1]
       exact(In04x q _ c m k W1 e2).mono fun e w' ⟨h1,h2⟩=>⟨_,h1,rfl,h2⟩
      obtain⟨⟨q',c',k1,_⟩,k2,_⟩:=hkn
      have k2:vs 10=.bool (inB m k):=k2
      rw [hin] at k2
      have SY:=Lib.hid (SH.out.call hE)
      simp only [putM,k1,k2,List.length_cons,List.length_nil,Nat.zero_add,Nat.reduceAdd,List.drop_succ_cons,List.drop_zero]
      clear x1 x2 x3 k1 k2 hE
      go_wp2
      go_ret
      exact⟨ret_bool HF.out.symm,SY.out.ext⟩
    ·obtain rfl:j=l.length:=by omega
     have hb:=HB.out
     rw [hend.out] at hb
     have HK:Hid ((pairsK O T (k+1)).all (backB R V)=true):=by unfold Hid;rw [hps.out,List.all_append,HA.out,hb];rfl
     clear hb
     have SH:=Lib.hid S;clear S
     go_wp2
     go_roundw
     case rel=>exact⟨k+1,by omega,by go_num,HK.out,SH.out.pick [1] (by decide) rfl⟩
     case measure=>simp [intOf];omega
  ·have HF:Hid ((pairs O T).all (backB R V)=true):=by
    unfold Hid pairs
    rw [show O.length - 1=k by have:=L1.out;omega];exact HA.out
   have t1:decide ((k:Int)+1<no)=false:=by simp;omega
   have SH:=Lib.hid S;clear S
   go_wp2
   go_ret
   exact⟨ret_bool HF.out.symm,SH.out.ext⟩
theorem Check04 (po:Option Addr) (no co:Nat) (O:List Int) (pt:Option Addr) (nt ct:Nat) (T:List Int) (pr:Option Addr) (nr cr:Nat) (R:List Int) (pv:Option Addr) (nv cv:Nat) (V:List Int) (w:World) (hO:Rd w 1 po no (encI O)) (hT:Rd w 1 pt nt (encI T)) (hR:Rd w 1 pr nr (encI R)) (hV:Rd w 1 pv nv (encI V)) (hct:nt≤ct) (hcv:nv≤cv):Calls Tryz.prog 96 #[.agg #[.slice po no co,.slice pt nt ct,.slice pr nr cr,.slice pv nv cv]] w fun e w'=>e=.returned (.bool (checkR O T R V))∧Ext w w':=by
 have l1:=hO.nI
 have l2:=hT.nI
 have l3:=hR.nI
 have l4:=hV.nI
 by_cases h:no≠nr∨nt≠nv∨halfB O T=false∨halfB R V=false
 ·rw [checkR_no (by rw [← l1,← l2,← l3,← l4];exact h)]
  exact Check04_no po no co O pt nt ct T pr nr cr R pv nv cv V w hO hT hR hV hct hcv h
 ·have h1:no=nr:=by
   by_cases h1:no=nr
   ·exact h1
   ·exact absurd (.inl h1) h
  have h2:nt=nv:=by
   by_cases h2:nt=nv
   ·exact h2
   ·exact absurd (.inr (.inl h2)) h
  have h3:halfB O T=true:=by
   cases h3:halfB O T with
   | true=>rfl
   | false=>exact absurd (.inr (.inr (.inl h3))) h
  have h4:halfB R V=true:=by
   cases h4:halfB R V with
   | true=>rfl
   | false=>exact absurd (.inr (.inr (.inr h4))) h
  have:checkR O T R V=(pairs O T).all (backB R V):=by
   unfold checkR
   rw [h3,h4,← l1,← l2,← l3,← l4,h1,h2]
   simp only [decide_true,Bool.true_and]
   rfl
  rw [this]
  exact Check04_yes po no co O pt nt ct T pr nr cr R pv nv cv V w hO hT hR hV hct hcv h1 h2 h3 h4
end
section
open Go Go.RowKit
theorem Out04 (po:Option Addr) (no co:Nat) (O:List Int) (pt:Option Addr) (nt ct:Nat) (T:List Int) (pr:Option Addr) (nr cr:Nat) (R:List Int) (pv:Option Addr) (nv cv:Nat) (V:List Int) (w:World) (v:Int) (hO:Rd w 1 po no (encI O)) (hT:Rd w 1 pt nt (encI T)) (hR:Rd w 1 pr nr (encI R)) (hV:Rd w 1 pv nv (encI V)) (hct:nt≤ct) (hcv:nv≤cv):Calls Tryz.prog 163 #[.agg #[.slice po no co,.slice pt nt ct,.slice pr nr cr,.slice pv nv cv],.int .i64 v] w fun e w'=>∃ q c,e=.returned (.tuple #[.slice q (outL (checkR O T R V) O T v).length c,.bool (outB (checkR O T R V) O v)])∧Sep w w' [.own 3 1 q (outL (checkR O T R V) O T v).length c (encI (outL (checkR O T R V) O T v))]:=by
 have S0:=Lib.hid ((Sep.start w).al #[.slice po no co,.slice pt nt ct,.slice pr nr cr,.slice pv nv cv] 27 w.heap.size rfl)
 have HC:=Lib.hid (fun W1 (h:Ext w W1)=>Check04 po no co O pt nt ct T pr nr cr R pv nv cv V W1 (hO.ext h) (hT.ext h) (hR.ext h) (hV.ext h) hct hcv)
 have n1:=hO.small
 cases hck:checkR O T R V with
 | false =>
  rw [hck] at HC
  have hno:outB false O v=false:=rfl
  rw [outL_no hno,hno]
  clear hO hT hR hV hck hno
  go_enter Tryz.func163,Tryz.ntmps163
  go_wp2_with (go_at_call 96;go_must (refine(HC.out _ S0.out.ext).mono ?_;rintro e w1 ⟨rfl,hb⟩;have S1:=Lib.hid (S0.out.call hb);obtain⟨az,a0,a1,a2,a3⟩:=bklc0c1c2c3 (S1.out.blk 0 rfl);clear hb))
  go_ret2
  exact⟨none,0,rfl,((Sep.start w).call S1.out.ext).nilrow _ _⟩
 | true =>
  rw [hck] at HC
  obtain⟨e1,e2,e3,e4⟩:=checkR_half hck
  have r:=offB_parts (halfB_off e3)
  have hof:=offOk_of (halfB_off e3)
  have l1:=hO.nI
  have l2:=hT.nI
  by_cases h1:v<0
  ·have b1:decide (v<0)=true:=by simpa using h1
   have hno:outB true O v=false:=by unfold outB;simp;omega
   rw [outL_no hno,hno]
   clear hO hT hR hV hck hno e1 e2 e3 e4 r hof l1 l2
   go_enter Tryz.func163,Tryz.ntmps163
   go_wp2_with (go_at_call 96;go_must (refine(HC.out _ S0.out.ext).mono ?_;rintro e w1 ⟨rfl,hb⟩;have S1:=Lib.hid (S0.out.call hb);obtain⟨az,a0,a1,a2,a3⟩:=bklc0c1c2c3 (S1.out.blk 0 rfl);clear hb))
   go_ret2
   exact⟨none,0,rfl,((Sep.start w).call S1.out.ext).nilrow _ _⟩
  ·have b1:decide (v<0)=false:=by simpa using h1
   by_cases h2:(no:Int) - 1≤v
   ·have b2:decide ((no:Int) - 1≤v)=true:=by simpa using h2
    have hno:outB true O v=false:=by unfold outB;simp;omega
    rw [outL_no hno,hno]
    clear hO hT hR hV hck hno e1 e2 e3 e4 r hof l1 l2
    go_enter Tryz.func163,Tryz.ntmps163
    go_wp2_with (go_at_call 96;go_must (refine(HC.out _ S0.out.ext).mono ?_;rintro e w1 ⟨rfl,hb⟩;have S1:=Lib.hid (S0.out.call hb);obtain⟨az,a0,a1,a2,a3⟩:=bklc0c1c2c3 (S1.out.blk 0 rfl);clear hb))
    go_ret2
    exact⟨none,0,rfl,((Sep.start w).call S1.out.ext).nilrow _ _⟩
   ·have b2:decide ((no:Int) - 1≤v)=false:=by simpa using h2
    have hyes:outB true O v=true:=by unfold outB;simp;omega
    rw [outL_yes hyes,hyes]
    obtain⟨k,rfl⟩:∃ k:Nat,v=(k:Int):=⟨v.toNat,by omega⟩
    rw [Int.toNat_natCast]
    have HR:=Lib.hid (fun W1 (h:Ext w W1)=>row04 po no co O pt nt ct T k W1 (hO.ext h) (hT.ext h) hct hof (by omega) (by omega))
    clear hO hT hR hV hck hyes e1 e2 e3 e4 r hof l1 l2
    go_enter Tryz.func163,Tryz.ntmps163
    go_wp2_with (first | (go_at_call 157;go_must (refine(HR.out _ S1.out.ext).mono ?_;rintro e w2 ⟨q,c,rfl,Z⟩;have S2:=Lib.hid (S1.out.comp Z);clear Z)) | (go_at_call 96;go_must (refine(HC.out _ S0.out.ext).mono ?_;rintro e w1 ⟨rfl,hb⟩;have S1:=Lib.hid (S0.out.call hb);obtain⟨az,a0,a1,a2,a3⟩:=bklc0c1c2c3 (S1.out.blk 0 rfl);clear hb)))
    go_ret2
    exact⟨q,c,rfl,S2.out.pick [0] (by decide) rfl⟩
theorem In04 (po:Option Addr) (no co:Nat) (O:List Int) (pt:Option Addr) (nt ct:Nat) (T:List Int) (pr:Option Addr) (nr cr:Nat) (R:List Int) (pv:Option Addr) (nv cv:Nat) (V:List Int) (w:World) (v:Int) (hO:Rd w 1 po no (encI O)) (hT:Rd w 1 pt nt (encI T)) (hR:Rd w 1 pr nr (encI R)) (hV:Rd w 1 pv nv (encI V)) (hct:nt≤ct) (hcv:nv≤cv):Calls Tryz.prog 164 #[.agg #[.slice po no co,.slice pt nt ct,.slice pr nr cr,.slice pv nv cv],.int .i64 v] w fun e w'=>∃ q c,e=.returned (.tuple #[.slice q (outL (checkR O T R V) R V v).length c,.bool (outB (checkR O T R V) R v)])∧Sep w w' [.own 3 1 q (outL (checkR O T R V) R V v).length c (encI (outL (checkR O T R V) R V v))]:=by
 have S0:=Lib.hid ((Sep.start w).al #[.slice po no co,.slice pt nt ct,.slice pr nr cr,.slice pv nv cv] 27 w.heap.size rfl)
 have HC:=Lib.hid (fun W1 (h:Ext w W1)=>Check04 po no co O pt nt ct T pr nr cr R pv nv cv V W1 (hO.ext h) (hT.ext h) (hR.ext h) (hV.ext h) hct hcv)
 have n1:=hO.small
 cases hck:checkR O T R V with
 | false =>
  rw [hck] at HC
  have hno:outB false R v=false:=rfl
  rw [outL_no hno,hno]
  clear hO hT hR hV hck hno
  go_enter Tryz.func164,Tryz.ntmps164
  go_wp2_with (go_at_call 96;go_must (refine(HC.out _ S0.out.ext).mono ?_;rintro e w1 ⟨rfl,hb⟩;have S1:=Lib.hid (S0.out.call hb);obtain⟨az,a0,a1,a2,a3⟩:=bklc0c1c2c3 (S1.out.blk 0 rfl);clear hb))
  go_ret2
  exact⟨none,0,rfl,((Sep.start w).call S1.out.ext).nilrow _ _⟩
 | true =>
  rw [hck] at HC
  obtain⟨e1,e2,e3,e4⟩:=checkR_half hck
  have r:=offB_parts (halfB_off e4)
  have hof:=offOk_of (halfB_off e4)
  have l1:=hO.nI
  have l2:=hV.nI
  by_cases h1:v<0
  ·have b1:decide (v<0)=true:=by simpa using h1
   have hno:outB true R v=false:=by unfold outB;simp;omega
   rw [outL_no hno,hno]
   clear hO hT hR hV hck hno e1 e2 e3 e4 r hof l1 l2
   go_enter Tryz.func164,Tryz.ntmps164
   go_wp2_with (go_at_call 96;go_must (refine(HC.out _ S0.out.ext).mono ?_;rintro e w1 ⟨rfl,hb⟩;have S1:=Lib.hid (S0.out.call hb);obtain⟨az,a0,a1,a2,a3⟩:=bklc0c1c2c3 (S1.out.blk 0 rfl);clear hb))
   go_ret2
   exact⟨none,0,rfl,((Sep.start w).call S1.out.ext).nilrow _ _⟩
  ·have b1:decide (v<0)=false:=by simpa using h1
   by_cases h2:(no:Int) - 1≤v
   ·have b2:decide ((no:Int) - 1≤v)=true:=by simpa using h2
    have hno:outB true R v=false:=by unfold outB;simp;omega
    rw [outL_no hno,hno]
    clear hO hT hR hV hck hno e1 e2 e3 e4 r hof l1 l2
    go_enter Tryz.func164,Tryz.ntmps164
    go_wp2_with (go_at_call 96;go_must (refine(HC.out _ S0.out.ext).mono ?_;rintro e w1 ⟨rfl,hb⟩;have S1:=Lib.hid (S0.out.call hb);obtain⟨az,a0,a1,a2,a3⟩:=bklc0c1c2c3 (S1.out.blk 0 rfl);clear hb))
    go_ret2
    exact⟨none,0,rfl,((Sep.start w).call S1.out.ext).nilrow _ _⟩
   ·have b2:decide ((no:Int) - 1≤v)=false:=by simpa using h2
    have hyes:outB true R v=true:=by unfold outB;simp;omega
    rw [outL_yes hyes,hyes]
    obtain⟨k,rfl⟩:∃ k:Nat,v=(k:Int):=⟨v.toNat,by omega⟩
    rw [Int.toNat_natCast]
    have HRo:=Lib.hid (fun W1 (h:Ext w W1)=>row04 pr nr cr R pv nv cv V k W1 (hR.ext h) (hV.ext h) hcv hof (by omega) (by omega))
    clear hO hT hR hV hck hyes e1 e2 e3 e4 r hof l1 l2
    go_enter Tryz.func164,Tryz.ntmps164
    go_wp2_with (first | (go_at_call 157;go_must (refine(HRo.out _ S1.out.ext).mono ?_;rintro e w2 ⟨q,c,rfl,Z⟩;have S2:=Lib.hid (S1.out.comp Z);clear Z)) | (go_at_call 96;go_must (refine(HC.out _ S0.out.ext).mono ?_;rintro e w1 ⟨rfl,hb⟩;have S1:=Lib.hid (S0.out.call hb);obtain⟨az,a0,a1,a2,a3⟩:=bklc0c1c2c3 (S1.out.blk 0 rfl);clear hb)))
    go_ret2
    exact⟨q,c,rfl,S2.out.pick [0] (by decide) rfl⟩
end
section
open Go Go.RowKit Go.Shelf Go.Lib
attribute [local go_sem ↓] eqEdge neqEdge guardEdge
theorem IntsY (p q:Option Addr) (n m c d:Nat) (A:List Int) (w:World) (h1:Rd w 1 p n (encI A)) (h2:Rd w 1 q m (encI A)):Calls Tryz.prog 29 #[.slice p n c,.slice q m d] w fun e w'=>e=.returned (.bool true)∧Ext w w' :=
 (Ints01 p q n m c d A A w h1 h2).mono fun e w' ⟨h3,h4⟩=>⟨by rw [h3];simp,h4⟩
def bigR (O T R V:List Int):Bool:=decide (30<O.length) && decide (O.length≤201) || decide (250<O.length) || decide (250<R.length) || decide (150<T.length) && decide (T.length≤2000) || decide (2100<T.length) || decide (2100<V.length)
theorem Big04 (po:Option Addr) (no co:Nat) (O:List Int) (pt:Option Addr) (nt ct:Nat) (T:List Int) (pr:Option Addr) (nr cr:Nat) (R:List Int) (pv:Option Addr) (nv cv:Nat) (V:List Int) (w:World) (hO:Rd w 1 po no (encI O)) (hT:Rd w 1 pt nt (encI T)) (hR:Rd w 1 pr nr (encI R)) (hV:Rd w 1 pv nv (encI V)):Calls Tryz.prog 47 #[.agg #[.slice po no co,.slice pt nt ct,.slice pr nr cr,.slice pv nv cv]] w fun e w'=>e=.returned (.bool (bigR O T R V))∧Ext w w':=by
 have hd:bigR O T R V=(decide (30<no) && decide (no≤201) || decide (250<no) || decide (250<nr) || decide (150<nt) && decide (nt≤2000) || decide (2100<nt) || decide (2100<nv)):=by
  unfold bigR;rw [hO.nI,hT.nI,hR.nI,hV.nI]
 rw [hd]
 clear hd hO hT hR hV
 go_enter Tryz.func47,Tryz.ntmps47
 go_wp2
 all_goals (go_ret;refine⟨ret_bool ?_,Ext.alloc (Below.refl _ _) _⟩;rw [Bool.eq_iff_iff];simp only [Bool.or_eq_true,Bool.and_eq_true,decide_eq_true_eq,true_iff];omega)
end
section
open Go Go.RowKit
structure R4 (w:World) (po:Option Addr) (no:Nat) (pt:Option Addr) (nt:Nat) (pr:Option Addr) (nr:Nat) (pv:Option Addr) (nv:Nat) (O T R V:List Int):Prop where
 o:Rd w 1 po no (encI O)
 t:Rd w 1 pt nt (encI T)
 r:Rd w 1 pr nr (encI R)
 v:Rd w 1 pv nv (encI V)
theorem R4.ext {w w':World} {po:Option Addr} {no:Nat} {pt:Option Addr} {nt:Nat} {pr:Option Addr} {nr:Nat} {pv:Option Addr} {nv:Nat} {O T R V:List Int} (h:R4 w po no pt nt pr nr pv nv O T R V) (he:Ext w w'):R4 w' po no pt nt pr nr pv nv O T R V:=⟨h.o.ext he,h.t.ext he,h.r.ext he,h.v.ext he⟩
end
section
open Go Go.RowKit
theorem Sep.alrow {w0 w:World} {Γ:List Pc} (S:Sep w0 w Γ) (cs:Array Value) (e:TypeId) (size n g:Nat) (hg:w.heap.size=g) (hm:n≤maxLen) (hs:cs.size=n*size):Sep w0 (w.alloc (.cells cs e)) (.own e size (some ⟨g,0,none⟩) n n cs.toList :: Γ):=by
 subst hg
 exact S.fresh (Ext.alloc (Below.refl _ _) _) (World.ownsRow_lit w cs n (Nat.le_refl _) hm hs) (Nat.le_refl _)
end
section
open Go Go.RowKit
def FarFrom {β:Type} (B:Nat) (I:β→World→Prop):Prop :=
 ∀ s Z W W',B≤Z.heap.size→Below B Z W→Below B Z W'→I s W→I s W'
theorem FarFrom.below {β:Type} {B:Nat} {I:β→World→Prop} (h:FarFrom B I) {s:β} {W W':World} (hB:B≤W.heap.size) (hb:Below B W W') (hs:I s W):I s W':=h s W W W' hB (Below.refl _ _) hb hs
theorem FarFrom.putObj {β:Type} {B:Nat} {I:β→World→Prop} (h:FarFrom B I) {s:β} {W:World} {l:Nat} {o:Obj} (o':Obj) (hs:I s W) (hB:B≤l) (hl:W.heap[l]?=some o):I s (W.putObj l o') :=
 h.below (by have:=(Array.getElem?_eq_some_iff.1 hl).1;omega) ((Below.refl B W).grown (grownBy_putObj' W l o') (by have:=(Array.getElem?_eq_some_iff.1 hl).1;omega) (fun k e=>by cases e;exact hB)) hs
theorem Sep.far {w0 w w' Z:World} {Γ:List Pc} {B:Nat} (S:Sep w0 w Γ) (h0:w0.heap.size≤B) (hZ:B≤Z.heap.size) (h1:Below B Z w) (h2:Below B Z w') (hf:∀ p∈Γ,∀ k,p.foot k→k<B):Sep w0 w' Γ :=
 ⟨⟨h2.os.trans (h1.os.symm.trans S.ext.os),h2.tape.trans (h1.tape.symm.trans S.ext.tape),h2.output.trans (h1.output.symm.trans S.ext.output),by have:=h2.size;omega,fun k hk=>(h2.block k (by omega)).trans ((h1.block k (by omega)).symm.trans (S.ext.block k hk))⟩,
  fun p hp=>p.loc w w' (S.all p hp) fun k hk=>(h2.block k (hf p hp k hk)).trans (h1.block k (hf p hp k hk)).symm,S.new,S.apart⟩
end
section
open Go Go.RowKit
structure KpF (n₀ B b1 b2 b3:Nat) (W W':World):Prop where
 low:Below n₀ W W'
 x1:W'.heap[b1]?=W.heap[b1]?
 x2:W'.heap[b2]?=W.heap[b2]?
 x3:W'.heap[b3]?=W.heap[b3]?
 up:∀ (k:Nat) (o:Obj),B≤k→W.heap[k]?=some o→o.isCells=true→W'.heap[k]?=some o
theorem KpF.trans {n₀ B b1 b2 b3:Nat} {X Y Z:World} (h:KpF n₀ B b1 b2 b3 X Y) (k:KpF n₀ B b1 b2 b3 Y Z):KpF n₀ B b1 b2 b3 X Z :=
 ⟨h.low.trans k.low,k.x1.trans h.x1,k.x2.trans h.x2,k.x3.trans h.x3,fun i o hB h1 h2=>k.up i o hB (h.up i o hB h1 h2) h2⟩
structure Yl where
 k:Nat
 F:List Int
 q:Option Addr
 c:Nat
abbrev YlOf (nx:Nat→List Int) (n s:Nat):={ x:Yl // IsFront (lev nx n s) n x.k x.F∧0<x.F.length }
end
section
open Go Go.RowKit
def ballP {nx:Nat→List Int} {n s:Nat} (xs:List (YlOf nx n s)):List Int:=xs.flatMap fun x=>x.1.F
end
section
open Go Go.RowKit
def pushW (s:List Bool × List Int) (w:Int):List Bool × List Int:=if nth s.1 w.toNat=true then s else (s.1.set w.toNat true,s.2 ++ [w])
def rowW (s:List Bool × List Int) (l:List Int):List Bool × List Int:=l.foldl pushW s
theorem snoc_ind {α:Type} {p:List α→Prop} (nil:p []) (snoc:∀ l x,p l→p (l ++ [x])) (l:List α):p l:=by
 have h:∀ m:List α,p m.reverse:=fun m=>by
  induction m with
  | nil=>exact nil
  | cons a m ih=>rw [List.reverse_cons];exact snoc _ _ ih
 have:=h l.reverse
 rwa [List.reverse_reverse] at this
abbrev SrT:=List (List (Int × Int))
abbrev SrS:=List Bool × List Int × SrT
def visitW (nx:Nat→List Int) (near:List (Int × Int)→Int→Bool) (h d:Int) (s:SrS) (v:Int):SrS :=
 if near (nth s.2.2 v.toNat) d=true then s else
  ((rowW (s.1,s.2.1) (nx v.toNat)).1,(rowW (s.1,s.2.1) (nx v.toNat)).2,s.2.2.set v.toNat (nth s.2.2 v.toNat ++ [(h,d)]))
def levelW (nx:Nat→List Int) (near:List (Int × Int)→Int→Bool) (h d:Int) (S:List Bool) (T:SrT) (F:List Int):SrS:=F.foldl (visitW nx near h d) (S,[],T)
theorem rowW_snoc (s:List Bool × List Int) (l:List Int) (w:Int):rowW s (l ++ [w])=pushW (rowW s l) w:=by simp [rowW]
theorem levelW_snoc (nx:Nat→List Int) (near:List (Int × Int)→Int→Bool) (h d:Int) (S:List Bool) (T:SrT) (F:List Int) (v:Int):levelW nx near h d S T (F ++ [v])=visitW nx near h d (levelW nx near h d S T F) v:=by simp [levelW]
theorem nth_setB (S:List Bool) {i:Nat} (j:Nat) (hi:i<S.length):nth (S.set i true) j=(nth S j || decide (i=j)):=by
 unfold nth
 rw [List.getD_eq_getElem?_getD,List.getD_eq_getElem?_getD,List.getElem?_set]
 by_cases e:i=j
 ·subst e;simp [hi]
 ·simp [e]
structure RowW (S:List Bool) (A l:List Int) (S':List Bool) (A':List Int):Prop where
 len:S'.length=S.length
 seen:∀ w:Nat,nth S' w=true↔nth S w=true∨(w:Int)∈l
 new:∃ B:List Int,A'=A ++ B∧B.Nodup∧(∀ x∈B,∃ w:Nat,x=w∧w<S.length∧nth S w=false∧(w:Int)∈l)∧S'.count false+B.length=S.count false∧(∀ w:Nat,nth S w=false→nth S' w=true→(w:Int)∈B)
theorem count_set {S:List Bool} {i:Nat} (hi:i<S.length) (h:nth S i=false):(S.set i true).count false+1=S.count false:=by
 rw [List.count_set hi]
 rw [nth_eq hi] at h
 have:0<S.count false:=List.count_pos_iff.2 (by rw [← h];exact List.getElem_mem _)
 rw [h];simp;omega
theorem rowW_ok {S:List Bool} (A:List Int):∀ {l:List Int},(∀ x∈l,∃ w:Nat,x=w∧w<S.length)→RowW S A l (rowW (S,A) l).1 (rowW (S,A) l).2:=by
 intro l
 induction l using snoc_ind with
 | nil=>intro _;exact⟨rfl,fun w=>by simp [rowW],[],by simp [rowW],List.nodup_nil,fun x hx=>(nomatch hx),rfl,fun w h1 h2=>by simp [rowW] at h2;rw [h1] at h2;cases h2⟩
 | snoc l x ih =>
  intro hl
  have ih:=ih fun y hy=>hl y (List.mem_append_left _ hy)
  obtain⟨w,rfl,hw⟩:=hl x (by simp)
  rw [rowW_snoc]
  generalize rowW (S,A) l=r at *
  obtain⟨S1,A1⟩:=r
  obtain⟨i1,i2,B,i3,i4,i5,i6,i7⟩:=ih
  simp only at i1 i2 i3 i6 i7
  unfold pushW
  simp only [Int.toNat_natCast]
  by_cases hs:nth S1 w=true
  ·rw [if_pos hs]
   refine⟨i1,fun u=>?_,B,i3,i4,fun y hy=>?_,i6,i7⟩
   ·simp only;rw [i2 u,List.mem_append,List.mem_singleton]
    constructor
    ·rintro(h | h)
     ·exact .inl h
     ·exact .inr (.inl h)
    ·rintro(h | h | h)
     ·exact .inl h
     ·exact .inr h
     ·have:u=w:=by omega
      subst this;exact(i2 u).1 hs
   ·obtain⟨u,h1,h2,h3,h4⟩:=i5 y hy
    exact⟨u,h1,h2,h3,List.mem_append_left _ h4⟩
  ·rw [if_neg hs]
   have hs':nth S1 w=false:=by simpa using hs
   have hsS:nth S w=false:=by
    cases h:nth S w with
    | false=>rfl
    | true=>exact absurd ((i2 w).2 (.inl h)) hs
   have hlw:(w:Int) ∉ l:=fun h=>hs ((i2 w).2 (.inr h))
   refine⟨by simp only;rw [List.length_set];exact i1,fun u=>?_,B ++ [(w:Int)],by simp only;rw [i3,List.append_assoc],?_,fun y hy=>?_,?_,fun u h1 h2=>?_⟩
   ·simp only
    rw [nth_setB _ _ (by omega),Bool.or_eq_true,decide_eq_true_eq,i2 u,List.mem_append,List.mem_singleton]
    constructor
    ·rintro((h | h) | h)
     ·exact .inl h
     ·exact .inr (.inl h)
     ·exact .inr (.inr (by omega))
    ·rintro(h | h | h)
     ·exact .inl (.inl h)
     ·exact .inl (.inr h)
     ·exact .inr (by omega)
   ·rw [List.nodup_append]
    refine⟨i4,by simp,fun a ha b hb e=>?_⟩
    rw [List.mem_singleton] at hb;subst hb;subst e
    obtain⟨u,h1,_,_,h4⟩:=i5 _ ha
    exact hlw (by rw [h1];exact h4)
   ·rcases List.mem_append.1 hy with hy | hy
    ·obtain⟨u,h1,h2,h3,h4⟩:=i5 y hy
     exact⟨u,h1,h2,h3,List.mem_append_left _ h4⟩
    ·rw [List.mem_singleton] at hy
     exact⟨w,hy,hw,hsS,by simp⟩
   ·simp only
    have:=count_set (by omega) hs'
    rw [List.length_append,List.length_singleton];omega
   ·simp only at h2
    rw [nth_setB _ _ (by omega),Bool.or_eq_true,decide_eq_true_eq] at h2
    rcases h2 with h2 | h2
    ·exact List.mem_append_left _ (i7 u h1 h2)
    ·subst h2;simp
structure SrW (nx:Nat→List Int) (near:List (Int × Int)→Int→Bool) (n h:Nat) (T0:SrT) (good:Nat→Bool) (dd:Nat→Int):Prop where
 hh:h<n
 len:T0.length=n
 lev:LevOk nx n h dd
 inr:∀ v,v<n→∀ x∈nx v,∃ w:Nat,x=w∧w<n
 yes:∀ v,v<n→good v=true→near (nth T0 v) (dd v)=false
 no:∀ v d,v<n→good v=false→0≤dd v→dd v≤d→near (nth T0 v) d=true
 ge:∀ v,v<n→good v=true→0≤dd v
 back:∀ v,v<n→good v=true→0<dd v→∃ u,u<n∧good u=true∧dd u=dd v - 1∧(v:Int)∈nx u
def toldW (h:Nat) (T0:SrT) (good:Nat→Bool) (dd:Nat→Int) (v:Nat):List (Int × Int):=if good v=true then nth T0 v ++ [((h:Int),dd v)] else nth T0 v
structure SInv (nx:Nat→List Int) (n h:Nat) (T0:SrT) (good:Nat→Bool) (dd:Nat→Int) (d:Int) (S:List Bool) (T:SrT) (F:List Int):Prop where
 lenS:S.length=n
 lenT:T.length=n
 h0:nth S h=true
 nd:F.Nodup
 front:∀ x∈F,∃ v:Nat,x=v∧v<n∧nth S v=true∧nth T v=nth T0 v∧0≤dd v∧dd v≤d∧(good v=true→dd v=d)
 past:∀ v:Nat,v<n→nth S v=true→(v:Int) ∉ F→nth T v=toldW h T0 good dd v∧(good v=true→∀ w:Nat,(w:Int)∈nx v→nth S w=true)
 new:∀ v,v<n→nth S v=false→nth T v=nth T0 v∧(good v=true→d<dd v)
 bd:d+S.count false+(if F=[] then 0 else 1)≤n
 d0:0≤d
section
variable {nx:Nat→List Int} {near:List (Int × Int)→Int→Bool} {n h:Nat} {T0:SrT} {good:Nat→Bool} {dd:Nat→Int}
theorem SInv.start (H:SrW nx near n h T0 good dd):SInv nx n h T0 good dd 0 ((List.replicate n false).set h true) T0 [(h:Int)]:=by
 have hh:=H.hh
 have hz:dd h=0:=(H.lev.zero h hh).2 rfl
 have hs:∀ v,nth ((List.replicate n false).set h true) v=decide (h=v):=fun v=>by
  rw [nth_setB _ _ (by simpa using hh)]
  have:nth (List.replicate n false) v=false:=by
   unfold nth
   rw [List.getD_eq_getElem?_getD,List.getElem?_replicate]
   by_cases e:v<n <;> simp [e]
  rw [this,Bool.false_or]
 refine⟨by simp,H.len,by rw [hs];simp,by simp,fun x hx=>?_,fun v hv h1 h2=>?_,fun v hv h1=>⟨rfl,fun hg=>?_⟩,?_,by omega⟩
 ·rw [List.mem_singleton] at hx
  exact⟨h,hx,hh,by rw [hs];simp,rfl,by omega,by omega,fun _=>hz⟩
 ·rw [hs,decide_eq_true_eq] at h1
  subst h1;simp at h2
 ·rw [hs,decide_eq_false_iff_not] at h1
  have h3:=H.ge v hv hg
  have h4:¬ dd v=0:=fun e=>h1 ((H.lev.zero v hv).1 e).symm
  omega
 ·have h1:nth (List.replicate n false) h=false:=by rw [nth_eq (by simpa using hh)];simp
  have h2:=count_set (S:=List.replicate n false) (by simpa using hh) h1
  rw [List.count_replicate_self] at h2
  rw [if_neg (by simp)];omega
structure MInv (nx:Nat→List Int) (n h:Nat) (good:Nat→Bool) (d:Int) (S:List Bool) (T:SrT) (P:List Int) (r:SrS):Prop where
 lenS:r.1.length=n
 lenT:r.2.2.length=n
 seen:∀ w:Nat,nth r.1 w=true↔nth S w=true∨∃ v:Nat,(v:Int)∈P∧good v=true∧(w:Int)∈nx v
 tab:∀ v:Nat,v<n→nth r.2.2 v=if (v:Int)∈P∧good v=true then nth T v ++ [((h:Int),d)] else nth T v
 nd:r.2.1.Nodup
 ahead:∀ x∈r.2.1,∃ w:Nat,x=w∧w<n∧nth S w=false∧∃ v:Nat,(v:Int)∈P∧good v=true∧(w:Int)∈nx v
 all:∀ w:Nat,nth S w=false→nth r.1 w=true→(w:Int)∈r.2.1
 cnt:r.1.count false+r.2.1.length=S.count false
theorem nth_setT (T:SrT) {i:Nat} (j:Nat) (x:List (Int × Int)) (hi:i<T.length):nth (T.set i x) j=if i=j then x else nth T j:=by
 unfold nth
 rw [List.getD_eq_getElem?_getD,List.getD_eq_getElem?_getD,List.getElem?_set]
 by_cases e:i=j
 ·subst e;simp [hi]
 ·simp [e]
theorem MInv.run (H:SrW nx near n h T0 good dd) {d:Int} {S:List Bool} {T:SrT} {F:List Int} (I:SInv nx n h T0 good dd d S T F):∀ P,(∃ Q,F=P ++ Q)→MInv nx n h good d S T P (levelW nx near h d S T P):=by
 intro P
 induction P using snoc_ind with
 | nil=>intro _;exact⟨I.lenS,I.lenT,fun w=>by simp [levelW],fun v hv=>by simp [levelW],by simp [levelW],fun x hx=>by simp [levelW] at hx,fun w h1 h2=>(by simp [levelW] at h2;rw [h1] at h2;cases h2),by simp [levelW]⟩
 | snoc P x ih =>
  rintro⟨Q,hQ⟩
  have ih:=ih ⟨x :: Q,by rw [hQ];simp⟩
  rw [levelW_snoc]
  generalize levelW nx near h d S T P=r at *
  obtain⟨S1,A1,T1⟩:=r
  obtain⟨m1,m2,m3,m4,m5,m6,m7,m8⟩:=ih
  simp only at m1 m2 m3 m4 m5 m6 m7 m8
  obtain⟨v,rfl,hv,v1,v2,v3,v4,v5⟩:=I.front x (by rw [hQ];simp)
  have hvP:(v:Int) ∉ P:=by
   have:=I.nd
   rw [hQ,List.nodup_append] at this
   have:=(List.nodup_append.1 this.1).2.2
   exact fun hp=>this _ hp _ (by simp) rfl
  have hTv:nth T1 v=nth T0 v:=by rw [m4 v hv,if_neg fun hc=>hvP hc.1,v2]
  unfold visitW
  simp only [Int.toNat_natCast]
  rw [hTv]
  cases hg:good v with
  | false =>
   rw [if_pos (H.no v d hv hg v3 v4)]
   have key:∀ (p:Nat→Prop),(∃ u:Nat,(u:Int)∈P ++ [(v:Int)]∧good u=true∧p u)↔∃ u:Nat,(u:Int)∈P∧good u=true∧p u:=fun p=>by
    constructor
    ·rintro⟨u,h1,h2,h3⟩
     rcases List.mem_append.1 h1 with h1 | h1
     ·exact⟨u,h1,h2,h3⟩
     ·rw [List.mem_singleton] at h1
      have:u=v:=by omega
      subst this;rw [hg] at h2;cases h2
    ·rintro⟨u,h1,h2⟩;exact⟨u,List.mem_append_left _ h1,h2⟩
   refine⟨m1,m2,fun w=>by simp only;rw [m3 w,key],fun u hu=>?_,m5,fun y hy=>?_,m7,m8⟩
   ·simp only
    rw [m4 u hu]
    by_cases e:(u:Int)∈P∧good u=true
    ·rw [if_pos e,if_pos ⟨List.mem_append_left _ e.1,e.2⟩]
    ·rw [if_neg e,if_neg]
     rintro⟨h1,h2⟩
     rcases List.mem_append.1 h1 with h1 | h1
     ·exact e ⟨h1,h2⟩
     ·rw [List.mem_singleton] at h1
      have:u=v:=by omega
      subst this;rw [hg] at h2;cases h2
   ·obtain⟨w,h1,h2,h3,h4⟩:=m6 y hy
    exact⟨w,h1,h2,h3,(key _).2 h4⟩
  | true =>
   have hdv:=v5 hg
   have hnr:=H.yes v hv hg
   rw [hdv] at hnr
   rw [if_neg (by rw [hnr];simp)]
   have hin:∀ y∈nx v,∃ w:Nat,y=w∧w<S1.length:=fun y hy=>by rw [m1];exact H.inr v hv y hy
   have hr:=rowW_ok (S:=S1) A1 hin
   generalize rowW (S1,A1) (nx v)=r2 at *
   obtain⟨S2,A2⟩:=r2
   obtain⟨r1,r2,B,r3,r4,r5,r6,r7⟩:=hr
   simp only at r1 r2 r3 r6 r7
   have key:∀ (p:Nat→Prop),(∃ u:Nat,(u:Int)∈P ++ [(v:Int)]∧good u=true∧p u)↔(∃ u:Nat,(u:Int)∈P∧good u=true∧p u)∨p v:=fun p=>by
    constructor
    ·rintro⟨u,h1,h2,h3⟩
     rcases List.mem_append.1 h1 with h1 | h1
     ·exact .inl ⟨u,h1,h2,h3⟩
     ·rw [List.mem_singleton] at h1
      have:u=v:=by omega
      subst this;exact .inr h3
    ·rintro(⟨u,h1,h2⟩ | h1)
     ·exact⟨u,List.mem_append_left _ h1,h2⟩
     ·exact⟨v,by simp,hg,h1⟩
   have hBS:∀ x∈B,∃ w:Nat,x=w∧w<n∧nth S w=false∧(w:Int)∈nx v:=fun x hx=>by
    obtain⟨w,h1,h2,h3,h4⟩:=r5 x hx
    refine⟨w,h1,by omega,?_,h4⟩
    cases hs:nth S w with
    | false=>rfl
    | true=>rw [(m3 w).2 (.inl hs)] at h3;cases h3
   refine⟨by simp only;omega,by simp only;rw [List.length_set];exact m2,fun w=>?_,fun u hu=>?_,?_,fun y hy=>?_,fun w h1 h2=>?_,?_⟩
   ·simp only;rw [r2 w,m3 w,key,or_assoc]
   ·simp only
    rw [nth_setT _ _ _ (by omega),m4 u hu]
    by_cases e:v=u
    ·subst e
     rw [if_pos rfl,if_pos ⟨by simp,hg⟩,v2]
    ·rw [if_neg e]
     by_cases e2:(u:Int)∈P∧good u=true
     ·rw [if_pos e2,if_pos ⟨List.mem_append_left _ e2.1,e2.2⟩]
     ·rw [if_neg e2,if_neg]
      rintro⟨h1,h2⟩
      rcases List.mem_append.1 h1 with h1 | h1
      ·exact e2 ⟨h1,h2⟩
      ·rw [List.mem_singleton] at h1;omega
   ·simp only
    rw [r3,List.nodup_append]
    refine⟨m5,r4,fun a ha b hb e=>?_⟩
    subst e
    obtain⟨w,h1,h2,h3,h4⟩:=m6 a ha
    obtain⟨w',h1',_,h3',_⟩:=r5 a hb
    have:w=w':=by omega
    subst this
    rw [(m3 w).2 (.inr h4)] at h3';cases h3'
   ·simp only at hy
    rw [r3] at hy
    rcases List.mem_append.1 hy with hy | hy
    ·obtain⟨w,h1,h2,h3,h4⟩:=m6 y hy
     exact⟨w,h1,h2,h3,(key _).2 (.inl h4)⟩
    ·obtain⟨w,h1,h2,h3,h4⟩:=hBS y hy
     exact⟨w,h1,h2,h3,(key _).2 (.inr h4)⟩
   ·simp only at h2 ⊢
    rw [r3]
    cases h3:nth S1 w with
    | true=>exact List.mem_append_left _ (m7 w h1 h3)
    | false=>exact List.mem_append_right _ (r7 w h3 h2)
   ·simp only
    rw [r3,List.length_append];omega
theorem SInv.next (H:SrW nx near n h T0 good dd) {d:Int} {S:List Bool} {T:SrT} {F:List Int} (I:SInv nx n h T0 good dd d S T F) (hF:F≠[]) :
  SInv nx n h T0 good dd (d+1) (levelW nx near h d S T F).1 (levelW nx near h d S T F).2.2 (levelW nx near h d S T F).2.1:=by
 have M:=MInv.run H I F ⟨[],by simp⟩
 generalize levelW nx near h d S T F=r at *
 obtain⟨S1,A1,T1⟩:=r
 obtain⟨m1,m2,m3,m4,m5,m6,m7,m8⟩:=M
 simp only at m1 m2 m3 m4 m5 m6 m7 m8 ⊢
 have hunF:∀ w:Nat,nth S w=false→(w:Int) ∉ F:=fun w hw hf=>by
  obtain⟨v,e,_,h3,_⟩:=I.front _ hf
  have:w=v:=by omega
  subst this;rw [hw] at h3;cases h3
 refine⟨m1,m2,(m3 h).2 (.inl I.h0),m5,fun x hx=>?_,fun v hv h1 h2=>?_,fun v hv h1=>?_,?_,by have:=I.d0;omega⟩
 ·obtain⟨w,rfl,hw,h3,v,h4,h5,h6⟩:=m6 x hx
  obtain⟨v',e,v1,v2,v3,v4,v5,v6⟩:=I.front _ h4
  obtain rfl:v=v':=by omega
  have hn:=H.lev.next v w v1 hw h6 v4
  have h7:=I.new w hw h3
  refine⟨w,rfl,hw,(m3 w).2 (.inr ⟨v,h4,h5,h6⟩),?_,hn.1,by omega,fun hg=>?_⟩
  ·rw [m4 w hw,if_neg fun hc=>hunF w h3 hc.1,h7.1]
  ·have:=h7.2 hg;omega
 ·cases hs:nth S v with
  | false=>exact absurd (m7 v hs h1) h2
  | true =>
   by_cases hf:(v:Int)∈F
   ·obtain⟨v',e,v1,v2,v3,v4,v5,v6⟩:=I.front _ hf
    obtain rfl:v=v':=by omega
    refine⟨?_,fun hg w hw=>(m3 w).2 (.inr ⟨v,hf,hg,hw⟩)⟩
    rw [m4 v hv]
    unfold toldW
    by_cases hg:good v=true
    ·rw [if_pos ⟨hf,hg⟩,if_pos hg,v3,v6 hg]
    ·rw [if_neg fun hc=>hg hc.2,if_neg hg,v3]
   ·have hp:=I.past v hv hs hf
    refine⟨?_,fun hg w hw=>(m3 w).2 (.inl (hp.2 hg w hw))⟩
    rw [m4 v hv,if_neg fun hc=>hf hc.1,hp.1]
 ·have hs:nth S v=false:=by
   cases hs:nth S v with
   | false=>rfl
   | true=>rw [(m3 v).2 (.inl hs)] at h1;cases h1
  have h7:=I.new v hv hs
  refine⟨?_,fun hg=>?_⟩
  ·rw [m4 v hv,if_neg fun hc=>hunF v hs hc.1,h7.1]
  ·have h8:=h7.2 hg
   have h0:=I.d0
   by_cases e:dd v=d+1
   ·exfalso
    obtain⟨u,hu,hgu,hdu,hvu⟩:=H.back v hv hg (by omega)
    cases hsu:nth S u with
    | false=>have:=(I.new u hu hsu).2 hgu;omega
    | true =>
     by_cases hfu:(u:Int)∈F
     ·rw [(m3 v).2 (.inr ⟨u,hfu,hgu,hvu⟩)] at h1;cases h1
     ·have:=(I.past u hu hsu hfu).2 hgu v hvu
      rw [hs] at this;cases this
   ·omega
 ·have hb:=I.bd
  rw [if_neg hF] at hb
  by_cases e:A1=[]
  ·rw [if_pos e]
   subst e
   simp only [List.length_nil] at m8
   omega
  ·rw [if_neg e]
   have:0<A1.length:=List.length_pos_iff.2 e
   omega
theorem SInv.done (H:SrW nx near n h T0 good dd) {d:Int} {S:List Bool} {T:SrT} (I:SInv nx n h T0 good dd d S T []):T=(List.range n).map fun v=>toldW h T0 good dd v:=by
 have hall:∀ (k v:Nat),v<n→good v=true→dd v=k→nth S v=true:=by
  intro k
  induction k with
  | zero =>
   intro v hv hg hd
   have:=(H.lev.zero v hv).1 (by omega)
   subst this;exact I.h0
  | succ k ih =>
   intro v hv hg hd
   obtain⟨u,hu,h1,h2,h3⟩:=H.back v hv hg (by omega)
   exact(I.past u hu (ih u hu h1 (by omega)) (by simp)).2 h1 v h3
 refine List.ext_getElem (by rw [I.lenT];simp) fun v h1 h2=>?_
 have hv:v<n:=by rw [← I.lenT];exact h1
 rw [List.getElem_map,List.getElem_range,← nth_eq h1]
 cases hs:nth S v with
 | true=>exact(I.past v hv hs (by simp)).1
 | false =>
  have h3:=I.new v hv hs
  rw [h3.1]
  unfold toldW
  by_cases hg:good v=true
  ·have h4:=H.ge v hv hg
   have:=hall (dd v).toNat v hv hg (by omega)
   rw [hs] at this;cases this
  ·rw [if_neg hg]
end
end
section
open Go Go.RowKit
def Both (out inn:List (Int × Int)) (x:Int):Prop:=∃ a∈out,∃ b∈inn,a.1=b.1∧x=a.2+b.2
def LeastOk (C:Int→Prop) (r:Int × Bool):Prop:=(r.2=false→r.1=0∧∀ x,¬ C x)∧(r.2=true→C r.1∧∀ x,C x→r.1≤x)
theorem LeastOk.of {C D:Int→Prop} {r:Int × Bool} (h:LeastOk C r) (e:∀ x,C x↔D x):LeastOk D r :=
 ⟨fun k=>⟨(h.1 k).1,fun x hx=>(h.1 k).2 x ((e x).2 hx)⟩,fun k=>⟨(e _).1 (h.2 k).1,fun x hx=>(h.2 k).2 x ((e x).2 hx)⟩⟩
theorem Both.comm {out inn:List (Int × Int)} {x:Int} (h:Both out inn x):Both inn out x:=by
 obtain⟨a,ha,b,hb,e,rfl⟩:=h
 exact⟨b,hb,a,ha,e.symm,by omega⟩
end
section
open Go Go.RowKit
attribute [local go_sem ↓] Go.wp_at_zero Go.wp_at_succ
theorem encH_set (l:List Hd) (k:Nat) (p:Option Addr) (n c:Nat):(encH l).set k (.slice p n c)=encH (l.set k ⟨p,n,c⟩):=by simp [encH,List.map_set,Hd.v]
end
section
open Go Go.RowKit
structure NearQ (C:Nat) (x:Int) (b:Bool) (i:Nat) (v:Value) (_:World):Prop where
 a:i=C→v=.tuple #[.int .i64 x,.bool b]
 b':i=C+1→v=.tuple #[.int .i64 x,.bool b]
 c1:i=C+2→v=.int .i64 x
 c2:i=C+3→v=.bool b
 d1:i=C+4→v=.int .i64 x
 d2:i=C+5→v=.bool b
theorem NearQ.of {C:Nat} {a:Int} {b:Bool} {i:Nat} {v:Value} {w:World} (h:(i=C∨i=C+1)∧v=.tuple #[.int .i64 a,.bool b]∨(i=C+2∨i=C+4)∧v=.int .i64 a∨(i=C+3∨i=C+5)∧v=.bool b):NearQ C a b i v w:=by
 rcases h with ⟨h1,h2⟩ | ⟨h1,h2⟩ | ⟨h1,h2⟩
 ·exact⟨fun _=>h2,fun _=>h2,fun e=>by omega,fun e=>by omega,fun e=>by omega,fun e=>by omega⟩
 ·exact⟨fun e=>by omega,fun e=>by omega,fun _=>h2,fun e=>by omega,fun _=>h2,fun e=>by omega⟩
 ·exact⟨fun e=>by omega,fun e=>by omega,fun e=>by omega,fun _=>h2,fun e=>by omega,fun _=>h2⟩
end
section
open Go Go.RowKit
theorem nth_setHd (H:List Hd) {i:Nat} (j:Nat) (x:Hd) (hi:i<H.length):nth (H.set i x) j=if i=j then x else nth H j:=by
 unfold nth
 rw [List.getD_eq_getElem?_getD,List.getD_eq_getElem?_getD,List.getElem?_set]
 by_cases e:i=j
 ·subst e;simp [hi]
 ·simp [e]
end
section
open Go Go.RowKit
attribute [local go_sem ↓] Go.wp_at_zero Go.wp_at_succ
def rowsB (wk:Nat) (hs:List Hd) (M:List Sq):List Pc:=(List.range wk).map fun h=>.own 138 4 (nth hs h).p (nth hs h).n (nth hs h).c (encQ (boxQ M wk h))
theorem rowsB_at {wk:Nat} {hs:List Hd} {M:List Sq} {h:Nat} (hh:h<wk):(rowsB wk hs M)[h]?=some (.own 138 4 (nth hs h).p (nth hs h).n (nth hs h).c (encQ (boxQ M wk h))):=by simp [rowsB,hh]
theorem rowsB_set {wk:Nat} {hs:List Hd} {M:List Sq} {x:Sq} {p:Option Addr} {m c:Nat} (hh:homeV x.v wk<wk) (hl:hs.length=wk) :
  (rowsB wk hs M).set (homeV x.v wk) (.own 138 4 p m c (encQ (boxQ M wk (homeV x.v wk) ++ [x])))=rowsB wk (hs.set (homeV x.v wk) ⟨p,m,c⟩) (M ++ [x]):=by
 apply List.ext_getElem
 ·simp [rowsB]
 ·intro j h1 h2
  have hj:j<wk:=by simpa [rowsB] using h2
  rw [List.getElem_set]
  simp only [rowsB,List.getElem_map,List.getElem_range]
  rw [nth_setHd hs j _ (by omega),boxQ_snoc]
  by_cases e:homeV x.v wk=j
  ·subst e;simp
  ·simp [e]
theorem infMls:(Tryz.prog.info? 83).map (fun i=>(i.zero,i.size,i.bytes))=some (some (.slice none 0 0),1,24):=by kernel_rfl
theorem made_encH (n:Nat):(madeCells (Value.slice none 0 0).cells (n*1)).toList=encH (List.replicate n ⟨none,0,0⟩):=by
 apply List.ext_getElem
 ·simp [madeCells,encH]
 ·intro i h1 h2
  simp [madeCells,Value.cells,Nat.mod_one,encH,Hd.v]
theorem Sep.nilB {w0 w:World} {Γ:List Pc} (S:Sep w0 w Γ) (e:TypeId) (size:Nat):∀ n,Sep w0 w (Γ ++ List.replicate n (.own e size none 0 0 []))
 | 0=>by simpa using S
 | n+1=>by
  have h:=((S.nilB e size n).nilrow e size)
  exact h.perm (by rw [List.replicate_succ];exact List.perm_middle)
theorem rowsB_nil (wk:Nat):rowsB wk (List.replicate wk ⟨none,0,0⟩) []=List.replicate wk (.own 138 4 none 0 0 []):=by
 apply List.ext_getElem
 ·simp [rowsB]
 ·intro i h1 h2
  have hi:i<wk:=by simpa using h2
  have e:nth (List.replicate wk (⟨none,0,0⟩:Hd)) i=⟨none,0,0⟩:=by rw [nth_eq (by simpa using hi)];simp
  simp only [rowsB,List.getElem_map,List.getElem_range,List.getElem_replicate,e,boxQ_nil]
  rfl
theorem SplitG (p:Option Addr) (n c:Nat) (M:List Sq) (wk:Nat) (w:World) (hl:Rd w 4 p n (encQ M)) (hm:∀ x∈M,mayB x=true) (h1:1≤wk) (h16:wk≤16) (hn:n≤100000) :
  Calls Tryz.prog 140 #[.slice p n c,.int .i64 wk] w fun e w'=>∃ q hs,hs.length=wk∧e=.returned (.tuple #[.slice q wk wk,.int .i64 0])∧Sep w w' (.own 83 1 q wk wk (encH hs) :: rowsB wk hs M):=by
 obtain⟨j0,ji0,jz0,jz1,jz2⟩:=info_parts infMls
 obtain⟨i0,hi0,hz0,hz1,hz2⟩:=info_parts infMail
 have p1:=hl.ptr
 have n1:=hl.small
 have L1:=Lib.hid hl.nQ
 have HM:=Lib.hid hm
 have HL:=Lib.hid hl
 have HC:=Lib.hid (CheckM p n c M w hl hm)
 have HH:=Lib.hid (fun (v:Int) W (a:0≤v) (b:v≤1000000)=>HomeG v wk W a b h1 h16)
 clear hl hm
 go_enter Tryz.func140,Tryz.ntmps140
 go_wp2_with (first
  | (at_make;have _t:=HE;go_must (refine wpList_make_sep rfl _ _ _ rfl 83 j0 _ 1 Tryz.underlying197 ji0 jz0 jz1 (wk:Int) wk rfl rfl rfl (by rw [jz2];omega) (by unfold maxLen;omega) ((Sep.start w).call HE.out) ?_;intro w2 S';rw [made_encH] at S';have S2:=Lib.hid (S'.nilB 138 4 wk);clear S'))
  | (go_at_call 143;go_must (refine HC.out.mono ?_;rintro e w1 ⟨rfl,hb⟩;have HE:=Lib.hid hb;clear hb))
  | (go_at_call 50;go_must (refine(HH.out 0 _ (by omega) (by omega)).mono ?_;rintro e w1 ⟨rfl,rfl⟩)))
 rw [← rowsB_nil] at S2
 generalize (some ⟨w1.heap.size,0,none⟩:Option Addr)=q at *
 go_loopw [10,11,12,29] (fun _ _ _ i wr=>∃ (k:Nat) (hs:List Hd),k≤n∧i=.int .i64 k∧hs.length=wk∧Hid (Sep w wr (.own 83 1 q wk wk (encH hs) :: rowsB wk hs (M.take k)))) (fun _ _ _ i _=>n - (intOf i).toNat)
 case atStart=>exact⟨0,_,Nat.zero_le _,rfl,by simp,S2⟩
 case round =>
  clear S2
  obtain⟨k,hs,hk,rfl,HHL,S⟩:=hrel
  by_cases hlt:k<n
  ·obtain⟨g1,g2,g3,g4⟩:=(HL.out.ext S.out.ext).cQ hlt
   have hkl:k<M.length:=by rw [← L1.out];exact hlt
   have hx:=HM.out (nth M k) (nth_mem hkl)
   have HT:=Lib.hid (take_succ_nth M k hkl)
   have hbl:=boxQ_len (M.take k) wk
   have HBL:Hid (∀ h,(boxQ (M.take k) wk h).length≤100000):=fun h=>by
    have:=hbl h
    rw [List.length_take] at this
    omega
   obtain⟨x,hxl⟩:∃ x,nth M k=x:=⟨_,rfl⟩
   rw [hxl] at g1 g2 g3 g4 hx HT
   obtain⟨m1,m2,m3,m4,m5,m6,m7⟩:=mayB_iff.1 hx
   have hhw:homeV x.v wk<wk:=homeV_lt (by omega)
   have HSET:=Lib.hid (fun p m c=>rowsB_set (hs:=hs) (M:=M.take k) (p:=p) (m:=m) (c:=c) hhw HHL)
   have HHX:=Lib.hid (fun W=>HH.out x.v W m4 (by omega))
   obtain⟨h,hhe⟩:∃ h,homeV x.v wk=h:=⟨_,rfl⟩
   rw [hhe] at HHX hhw HSET
   obtain⟨row,hrow⟩:∃ row,boxQ (M.take k) wk h=row:=⟨_,rfl⟩
   rw [hrow] at HSET
   have hrl:row.length≤100000:=by rw [← hrow];exact HBL.out h
   have hat:=rowsB_at (hs:=hs) (M:=M.take k) hhw
   rw [hrow] at hat
   have d1:(0:Int)≤h:=by omega
   have d2:(h:Int)<wk:=by omega
   have hR:=S.out.rdx (h+1) (by rw [List.getElem?_cons_succ];exact hat)
   have hnl:(nth hs h).n=row.length:=hR.nQ
   obtain⟨hd,hhd⟩:∃ hd,nth hs h=hd:=⟨_,rfl⟩
   rw [hhd] at hat hnl
   obtain⟨hp,hn',hc⟩:=hd
   simp only at hat hnl
   subst hnl
   have S1:=Lib.hid (S.out.al #[.int .i64 x.s,.int .i64 x.r,.int .i64 x.v,.int .i64 x.d] 138 wr.heap.size rfl)
   have pq:=(S1.out.rdx 1 rfl).ptr
   obtain⟨a0,a1,a2,a3,az⟩:=bkc0c1c2c3l (S1.out.blk 0 rfl)
   have gh:=(S1.out.rdx 1 rfl).cH hhw
   rw [hhd] at gh
   have HHD:=Lib.hid hhd
   have HHW:=Lib.hid hhw
   have HAT:=Lib.hid hat
   have dk1:(0:Int)≤k:=by omega
   have dk2:(k:Int)<n:=by omega
   clear hx hxl hkl hbl hhe hrow hat hR hhd hhw m1 m2 m3 m4 m5 m6 m7 S
   go_wp2_with (go_at_call 50;go_must (refine(HHX.out _).mono ?_;rintro e w3 ⟨rfl,rfl⟩))
   obtain⟨w1,hw1⟩:∃ w1,wr.alloc (.cells #[.int .i64 x.s,.int .i64 x.r,.int .i64 x.v,.int .i64 x.d] 138)=w1:=⟨_,rfl⟩
   rw [hw1] at S1 a0 a1 a2 a3 az gh ⊢
   clear hw1
   have S4:=Lib.hid (S1.out.alrw #[.int .i64 x.s,.int .i64 x.r,.int .i64 x.v,.int .i64 x.d] 138 4 1 w1.heap.size rfl (by decide) (by simp)).drew
   obtain⟨q',c',w7,hrun,S'⟩:=S4.out.appended (h+3) 83 83 138 i0 _ 4 32 Tryz.underlying83 hi0 hz0 hz1 hz2 rfl (by omega) hp row.length hc (encQ row) HAT.out (some ⟨w1.heap.size,0,none⟩) 1 1 (encQ [x]) (S4.out.rdx 0 rfl) (one_encQ _) (by omega) (by omega)
   rw [← encQ_append] at S'
   have S5:Sep w w7 (.own 138 4 (some ⟨w1.heap.size,0,none⟩) 1 1 (encQ [x]) :: .blk wr.heap.size 138 #[.int .i64 x.s,.int .i64 x.r,.int .i64 x.v,.int .i64 x.d] :: .own 83 1 q wk wk (encH hs) :: rowsB wk (hs.set h ⟨q',row.length+1,c'⟩) (M.take k ++ [x])):=by rw [← HSET.out];exact S'
   obtain⟨k0,k1,k2,k3⟩:=bkc0c1c2c3 (S5.blk 1 rfl)
   have kfz:=own_frozen (S5.own 2 rfl) (by have:=HHW.out;omega) h
   have kg1:=(S5.rdx 2 rfl).cH HHW.out
   rw [HHD.out] at kg1
   have T:=S5.setRow 2 rfl h (by have:=HHW.out;omega) (.slice q' (row.length+1) c')
   rw [encH_set] at T
   obtain⟨t0,t1,t2,t3⟩:=bkc0c1c2c3 (T.blk 1 rfl)
   have g5:=(S4.out.rdx 2 rfl).cH HHW.out
   rw [HHD.out] at g5
   have TF:Hid (Sep w (w7.setCell (adr q h) (.slice q' (row.length+1) c')) (.own 83 1 q wk wk (encH (hs.set h ⟨q',row.length+1,c'⟩)) :: rowsB wk (hs.set h ⟨q',row.length+1,c'⟩) (M.take k ++ [x]))):=T.sub ((List.sublist_cons_self _ _).trans (List.sublist_cons_self _ _))
   clear S' S5 T S4 HHD HAT HSET HHX HBL
   simp at k0 k1 k2 k3 t0 t1 t2 t3 a0 a1 a2 a3
   have gb:=World.block_lt_of_cell? w1 _ gh
   simp only at kg1 g5 gh
   refine wp_region_held_drew (S:=fun w'=>w'.cell? ⟨wr.heap.size,0,none⟩=some (.int .i64 x.s)∧w'.cell? ⟨wr.heap.size,1,none⟩=some (.int .i64 x.r)∧w'.cell? ⟨wr.heap.size,2,none⟩=some (.int .i64 x.v)∧w'.cell? ⟨wr.heap.size,3,none⟩=some (.int .i64 x.d)) (by kernel_rfl) (by(try dsimp only);go_keep) (fun hHeld=>?_)
   refine wpAnyH_take (i:=0) (v:=.slice q wk wk) rfl (by kernel_rfl) (by kernel_rfl) (by kernel_rfl) (fun _ _ _ h=>h) (Or.inl ⟨by rfl,fun W hSw=>by obtain⟨h1,h2,h3,h4⟩:=hSw;go_simp⟩) hHeld ?_
   refine wpAnyH_take (i:=1) (v:=.int .i64 h) rfl (by kernel_rfl) (by kernel_rfl) (by kernel_rfl) (fun _ _ _ h=>h) (Or.inl ⟨by rfl,fun W hSw=>by obtain⟨h1,h2,h3,h4⟩:=hSw;go_simp⟩) hHeld ?_
   refine wpAnyH_take (i:=2) (v:=.slice q wk wk) rfl (by kernel_rfl) (by kernel_rfl) (by kernel_rfl) (fun _ _ _ h=>h) (Or.inl ⟨by rfl,fun W hSw=>by obtain⟨h1,h2,h3,h4⟩:=hSw;go_simp⟩) hHeld ?_
   refine wpAnyH_take (i:=3) (v:=.int .i64 h) rfl (by kernel_rfl) (by kernel_rfl) (by kernel_rfl) (fun _ _ _ h=>h) (Or.inl ⟨by rfl,fun W hSw=>by obtain⟨h1,h2,h3,h4⟩:=hSw;go_simp⟩) hHeld ?_
   refine wpAnyH_take (i:=4) (v:=.pointer (some (adr q h))) rfl (by kernel_rfl) (by kernel_rfl) (by kernel_rfl) (fun _ _ _ h=>h) (Or.inl ⟨by rfl,fun W hSw=>by obtain⟨h1,h2,h3,h4⟩:=hSw;go_simp⟩) hHeld ?_
   refine wpAnyH_take (i:=6) (v:=.agg #[.int .i64 x.s,.int .i64 x.r,.int .i64 x.v,.int .i64 x.d]) rfl (by kernel_rfl) (by kernel_rfl) (by kernel_rfl) (fun _ _ _ h=>h) (Or.inl ⟨by rfl,fun W hSw=>by obtain⟨h1,h2,h3,h4⟩:=hSw;go_simp⟩) hHeld ?_
   refine wpAnyH_ready (rs:=[5,7]) (by kernel_rfl) (by simp) (AllReadyH.cons rfl (fun K hK=>?_) (AllReadyH.cons rfl (fun K hK=>?_) AllReadyH.nil))
   ·go_simp
    refine hK.out _ _ hHeld (fun hHeld=>?_)
    clear hK
    refine wpAnyH_ready (rs:=[7]) (by kernel_rfl) (by simp) (AllReadyH.cons rfl (fun K hK=>?_) AllReadyH.nil)
    go_simp
    refine hK.out _ _ (by((try dsimp only);go_keep)) (fun hHeld=>?_)
    clear hK
    refine wpAnyH_ready (rs:=[8]) (by kernel_rfl) (by simp) (AllReadyH.cons rfl (fun K hK=>?_) AllReadyH.nil)
    rw [if_pos (by rfl)]
    refine operwp_append (.tmp 48) (.tmp 50) 83 (by rfl) (by rfl) (by rfl) hrun ?_
    refine hK.out _ _ ⟨k0,k1,k2,k3⟩ (fun hHeld=>?_)
    clear hK
    refine wpAnyH_ready (rs:=[9]) (by kernel_rfl) (by simp) (AllReadyH.cons rfl (fun K hK=>?_) AllReadyH.nil)
    go_simp
    refine hK.out _ _ (by(exact⟨k0,k1,k2,k3⟩)) (fun hHeld=>?_)
    clear hK
    refine wpAnyH_ready (rs:=[10]) (by kernel_rfl) (by simp) (AllReadyH.cons rfl (fun K hK=>?_) AllReadyH.nil)
    go_simp
    refine hK.out _ _ (by(exact⟨t0,t1,t2,t3⟩)) (fun hHeld=>?_)
    clear hK
    refine wpAnyH_done (by kernel_rfl) ?_ _
    go_wp2
    go_roundw
    case rel=>exact⟨k+1,hs.set h ⟨q',row.length+1,c'⟩,by omega,by go_num,by rw [List.length_set];exact HHL,by rw [HT.out];exact TF⟩
    case measure=>simp [intOf];omega
   ·go_simp
    refine hK.out _ _ (by(try dsimp only);go_keep) (fun hHeld=>?_)
    clear hK
    refine wpAnyH_ready (rs:=[5]) (by kernel_rfl) (by simp) (AllReadyH.cons rfl (fun K hK=>?_) AllReadyH.nil)
    go_simp
    refine hK.out _ _ (by(exact hHeld)) (fun hHeld=>?_)
    clear hK
    refine wpAnyH_ready (rs:=[8]) (by kernel_rfl) (by simp) (AllReadyH.cons rfl (fun K hK=>?_) AllReadyH.nil)
    rw [if_pos (by rfl)]
    refine operwp_append (.tmp 48) (.tmp 50) 83 (by rfl) (by rfl) (by rfl) hrun ?_
    refine hK.out _ _ ⟨k0,k1,k2,k3⟩ (fun hHeld=>?_)
    clear hK
    refine wpAnyH_ready (rs:=[9]) (by kernel_rfl) (by simp) (AllReadyH.cons rfl (fun K hK=>?_) AllReadyH.nil)
    go_simp
    refine hK.out _ _ (by(exact⟨k0,k1,k2,k3⟩)) (fun hHeld=>?_)
    clear hK
    refine wpAnyH_ready (rs:=[10]) (by kernel_rfl) (by simp) (AllReadyH.cons rfl (fun K hK=>?_) AllReadyH.nil)
    go_simp
    refine hK.out _ _ (by(exact⟨t0,t1,t2,t3⟩)) (fun hHeld=>?_)
    clear hK
    refine wpAnyH_done (by kernel_rfl) ?_ _
    go_wp2
    go_roundw
    case rel=>exact⟨k+1,hs.set h ⟨q',row.length+1,c'⟩,by omega,by go_num,by rw [List.length_set];exact HHL,by rw [HT.out];exact TF⟩
    case measure=>simp [intOf];omega
  ·obtain rfl:k=n:=by omega
   rw [List.take_of_length_le (by rw [← L1.out];exact Nat.le_refl _)] at S
   go_wp2
   go_ret2
   exact⟨q,hs,HHL,rfl,S.out⟩
end
section
open Go Go.RowKit
theorem made_encQ (n:Nat):(madeCells (Value.agg #[.int .i64 0,.int .i64 0,.int .i64 0,.int .i64 0]).cells (n*4)).toList=encQ (List.replicate n ⟨0,0,0,0⟩):=by
 apply List.ext_getElem
 ·simp [madeCells,encQ_len]
 ·intro i h1 h2
  have h3:i<n*4:=by rw [encQ_len,List.length_replicate] at h2;exact h2
  obtain⟨g1,g2,g3,g4⟩:=encQ_get (List.replicate n ⟨0,0,0,0⟩) (i / 4) (by rw [List.length_replicate];omega)
  have e:nth (List.replicate n (⟨0,0,0,0⟩:Sq)) (i / 4)=⟨0,0,0,0⟩:=by rw [nth_eq (by rw [List.length_replicate];omega)];simp
  rw [e] at g1 g2 g3 g4
  have hz:(encQ (List.replicate n (⟨0,0,0,0⟩:Sq)))[i]'h2=.int .i64 0:=by
   have:(encQ (List.replicate n (⟨0,0,0,0⟩:Sq))).getD i undef=.int .i64 0:=by
    have h4:i=i / 4*4∨i=i / 4*4+1∨i=i / 4*4+2∨i=i / 4*4+3:=by omega
    rcases h4 with h4 | h4 | h4 | h4 <;> rw [h4] <;> assumption
   rw [List.getD_eq_getElem?_getD,List.getElem?_eq_getElem h2] at this
   exact this
  rw [hz]
  have h5:i % 4=0∨i % 4=1∨i % 4=2∨i % 4=3:=by omega
  simp only [madeCells,Value.cells,Array.getElem_toList]
  rcases h5 with h5 | h5 | h5 | h5 <;> simp [h5]
theorem OrderedI (p:Option Addr) (n c:Nat) (L:List Int) (gi gp:Nat) (pp:Option Addr) (np cp:Nat) (ps:List Int) (w w0:World) (S:Sep w0 w [.blk gi 3 #[.int .i64 ((0:Int) - 1)],.blk gp 25 #[.slice pp np cp]]) (hl:Rd w0 1 p n (encI L)) (hps:Rd w0 1 pp np (encI ps)) (hn:n≤100000) :
  Calls Tryz.prog 204 #[.slice p n c,.func (.func 239) #[] #[.pointer (some ⟨gi,0,none⟩),.pointer (some ⟨gp,0,none⟩)]] w fun e w'=>∃ (P:List Int) (q:Option Addr) (c':Nat),P.Perm L∧e=.returned (.slice q n c')∧Sep w0 w' [.own 3 1 q n c' (encI P)]:=by
 obtain⟨i0,hi0,hz0,hz1,hz2⟩:=info_parts infI
 have n1:=hl.small
 have LL:=Lib.hid hl.nI
 have HPS:=Lib.hid hps
 have HL:=Lib.hid hl;clear hl
 have S0:=Lib.hid S;clear S
 clear hps
 go_enter Tryz.func204,Tryz.ntmps204
 go_wp2_with (first
  | (at_make;go_must (refine wpList_make_sep rfl _ _ _ rfl 3 i0 _ 1 Tryz.underlying25 hi0 hz0 hz1 (n:Int) n rfl rfl rfl (by rw [hz2];omega) (by unfold maxLen;omega) S0.out ?_;intro w1 S';rw [made_encI] at S';have S1:=Lib.hid S';clear S'))
  | (have _t:=S1;with_reducible show wpList _ _ _ (⟨some 13,_,_,_,_,_⟩:: _) _ _;go_must (refine wpList_copy_sep rfl _ _ 25 25 rfl 3 Tryz.underlying25 1 infI1 S1.out 0 rfl n 0 n n n c _ p rfl rfl (by show n=min n n;omega) (fun _=>by simp [adr]) (by omega) (encI L) (HL.out.ext S1.out.ext) (one_encI L) ?_;intro w2 S' hsz;have S2:=Lib.hid S';clear S' hsz)))
 have S3:Hid (Sep w0 w2 [.own 3 1 none 0 0 (encI []),.own 3 1 (some ⟨w.heap.size,0,none⟩) n n (encI L),.blk gi 3 #[.int .i64 ((((0:Nat):Int):Int) - 1)],.blk gp 25 #[.slice pp np cp]]):=by
  have h:=S2.out
  rw [Nat.zero_mul,splice_all (by rw [encI_len,encI_len,List.length_replicate,← LL.out])] at h
  exact(h.nilrow 3 1)
 clear S2 S1 S0
 generalize w.heap.size=g0 at *
 go_loopg [5,6,7] n (fun gg v5 v6 _ wr=>∃ (out left:List Int) (q ql:Option Addr) (m k d cl:Nat),v5=.slice ql k cl∧v6=.slice q m d∧m+k=n∧k≤gg∧Hid ((out ++ left).Perm L)∧Hid (Sep w0 wr [.own 3 1 q m d (encI out),.own 3 1 ql k cl (encI left),.blk gi 3 #[.int .i64 (((m:Int):Int) - 1)],.blk gp 25 #[.slice pp np cp]]))
 case atStart=>exact⟨[],L,none,_,0,n,0,n,rfl,rfl,by omega,Nat.le_refl _,by rw [List.nil_append];exact List.Perm.refl _,S3⟩
 case round =>
  clear S3
  obtain⟨out,left,q,ql,m,k,d,cl,rfl,rfl,hmk,hgg,HP,S⟩:=hrel
  have lk:=(S.out.rdx 1 rfl).nI
  have HLK:=Lib.hid lk
  clear lk
  by_cases hk:k=0
  ·subst hk
   have hle:left=[]:=List.eq_nil_of_length_eq_zero HLK.out.symm
   have hm:m=n:=by omega
   subst hle hm
   have HP2:=Lib.hid (show out.Perm L by have:=HP.out;rwa [List.append_nil] at this)
   clear HP hmk
   go_wp2
   go_ret
   exact⟨out,q,d,HP2.out,rfl,S.out.pick [0] (by decide) rfl⟩
  ·have k1:(1:Int)≤(k:Int):=by omega
   have hmn:m≤100000:=by omega
   have HO:=Lib.hid (ofOne gi gp pp np cp ps m k wr w0 _ 2 3 S.out rfl rfl (by decide) HPS.out (by omega) (by omega) (by omega))
   go_wp2_with (first
    | (go_at_call 239;go_must (refine HO.out.mono ?_;rintro e w3 ⟨at_,hat,rfl,S'⟩;have S4:Hid (Sep w0 w3 [.own 3 1 q m d (encI out),.own 3 1 ql k cl (encI left),.blk gi 3 #[.int .i64 ((((m+1:Nat):Int):Int) - 1)],.blk gp 25 #[.slice pp np cp]]):=S';have pl:=(S'.rdx 1 rfl).ptr;have g1:=(S'.rdx 1 rfl).cI hat;have HX:=Lib.hid (perm_take HP.out (show at_<left.length by rw [← HLK.out];exact hat));have dd1:(0:Int)≤(at_:Int):=(by omega);have dd2:(at_:Int)<(k:Int):=(by omega);clear S'))
    | (at_builtin;have _t:=S4;go_must (refine wpList_append_sep rfl _ _ _ rfl 3 i0 _ 1 8 Tryz.underlying25 hi0 hz0 hz1 hz2 rfl (by omega) (S4.out.junk _) 0 q m d _ rfl rfl _ 1 1 _ rfl (Rd.oneI _ _ _) (one_encI _) (by omega) (by omega) ?_;intro q5 d5 w5 S' hsz;obtain⟨w6,hrun,T⟩:=copy_shift S'.drew 1 rfl 25 25 3 3 Tryz.underlying25 infI1 (by omega) (one_encI left) at_ hat;have S6:Hid (Sep w0 w6 [.own 3 1 q5 (m+1) d5 (encI (out ++ [nth left at_])),.own 3 1 ql (k - 1) cl (encI (left.eraseIdx at_)),.blk gi 3 #[.int .i64 ((((m+1:Nat):Int):Int) - 1)],.blk gp 25 #[.slice pp np cp]]):=(by rw [encI_append,encI_eraseIdx];exact T);clear S' T hsz)))
   have kc:k≤cl:=own_cap (S4.out.own 1 rfl)
   obtain⟨b,hb⟩:∃ b,b=at_+1:=⟨_,rfl⟩
   have hc:cutp ql cl at_ 1=ql.map (fun x=>x.add at_):=by unfold cutp;rw [if_neg (by omega)];try simp
   rw [← hb] at hrun
   have hrun2:=hrun
   rw [hc] at hrun2
   clear hc
   have e1:(at_:Int)+1=(b:Int):=by omega
   have dd3:(b:Int)≤(k:Int):=by omega
   have dd5:b≤k:=by omega
   have dd4:(0:Int)≤(b:Int):=by omega
   have dw:IntKind.i64.wrap (b:Int)=(b:Int):=by rw [IntKind.wrap_i64];omega
   have dd8:(b:Int)≤100000:=by omega
   have dd9:at_≤k:=by omega
   have dd10:¬ cl=at_:=by omega
   have dd6:b≤cl:=by omega
   have dd7:(b:Int)≤(cl:Int):=by omega
   clear S S4 HP HO hb
   go_region_with fail
   go_wp2
   go_roundg (gk - 1)
   case measure=>omega
   case rel=>exact⟨out ++ [nth left at_],left.eraseIdx at_,q5,ql,m+1,k - 1,d5,cl,rfl,rfl,by omega,by omega,HX,S6⟩
theorem OrderedQ (p:Option Addr) (n c:Nat) (L:List Sq) (gi gp:Nat) (pp:Option Addr) (np cp:Nat) (ps:List Int) (w w0:World) (S:Sep w0 w [.blk gi 3 #[.int .i64 ((0:Int) - 1)],.blk gp 25 #[.slice pp np cp]]) (hl:Rd w0 4 p n (encQ L)) (hps:Rd w0 1 pp np (encI ps)) (hn:n≤100000) :
  Calls Tryz.prog 211 #[.slice p n c,.func (.func 239) #[] #[.pointer (some ⟨gi,0,none⟩),.pointer (some ⟨gp,0,none⟩)]] w fun e w'=>∃ (P:List Sq) (q:Option Addr) (c':Nat),P.Perm L∧e=.returned (.slice q n c')∧Sep w0 w' [.own 138 4 q n c' (encQ P)]:=by
 obtain⟨i0,hi0,hz0,hz1,hz2⟩:=info_parts infMail
 have n1:=hl.small
 have LL:=Lib.hid hl.nQ
 have HPS:=Lib.hid hps
 have HL:=Lib.hid hl;clear hl
 have S0:=Lib.hid S;clear S
 clear hps
 go_enter Tryz.func211,Tryz.ntmps211
 go_wp2_with (first
  | (at_make;go_must (refine wpList_make_sep rfl _ _ _ rfl 138 i0 _ 4 Tryz.underlying83 hi0 hz0 hz1 (n:Int) n rfl rfl rfl (by rw [hz2];omega) (by unfold maxLen;omega) S0.out ?_;intro w1 S';rw [made_encQ] at S';have S1:=Lib.hid S';clear S'))
  | (have _t:=S1;with_reducible show wpList _ _ _ (⟨some 13,_,_,_,_,_⟩:: _) _ _;go_must (refine wpList_copy_sep rfl _ _ 83 83 rfl 138 Tryz.underlying83 4 infQ S1.out 0 rfl n 0 n n n c _ p rfl rfl (by show n=min n n;omega) (fun _=>by simp [adr]) (by omega) (encQ L) (HL.out.ext S1.out.ext) (one_encQ L) ?_;intro w2 S' hsz;have S2:=Lib.hid S';clear S' hsz)))
 have S3:Hid (Sep w0 w2 [.own 138 4 none 0 0 (encQ []),.own 138 4 (some ⟨w.heap.size,0,none⟩) n n (encQ L),.blk gi 3 #[.int .i64 ((((0:Nat):Int):Int) - 1)],.blk gp 25 #[.slice pp np cp]]):=by
  have h:=S2.out
  rw [Nat.zero_mul,splice_all (by rw [encQ_len,encQ_len,List.length_replicate,← LL.out])] at h
  exact(h.nilrow 138 4)
 clear S2 S1 S0
 generalize w.heap.size=g0 at *
 go_loopg [5,6,7] n (fun gg v5 v6 _ wr=>∃ (out left:List Sq) (q ql:Option Addr) (m k d cl:Nat),v5=.slice ql k cl∧v6=.slice q m d∧m+k=n∧k≤gg∧Hid ((out ++ left).Perm L)∧Hid (Sep w0 wr [.own 138 4 q m d (encQ out),.own 138 4 ql k cl (encQ left),.blk gi 3 #[.int .i64 (((m:Int):Int) - 1)],.blk gp 25 #[.slice pp np cp]]))
 case atStart=>exact⟨[],L,none,_,0,n,0,n,rfl,rfl,by omega,Nat.le_refl _,by rw [List.nil_append];exact List.Perm.refl _,S3⟩
 case round =>
  clear S3
  obtain⟨out,left,q,ql,m,k,d,cl,rfl,rfl,hmk,hgg,HP,S⟩:=hrel
  have lk:=(S.out.rdx 1 rfl).nQ
  have HLK:=Lib.hid lk
  clear lk
  by_cases hk:k=0
  ·subst hk
   have hle:left=[]:=List.eq_nil_of_length_eq_zero HLK.out.symm
   have hm:m=n:=by omega
   subst hle hm
   have HP2:=Lib.hid (show out.Perm L by have:=HP.out;rwa [List.append_nil] at this)
   clear HP hmk
   go_wp2
   go_ret
   exact⟨out,q,d,HP2.out,rfl,S.out.pick [0] (by decide) rfl⟩
  ·have k1:(1:Int)≤(k:Int):=by omega
   have hmn:m≤100000:=by omega
   have HO:=Lib.hid (ofOne gi gp pp np cp ps m k wr w0 _ 2 3 S.out rfl rfl (by decide) HPS.out (by omega) (by omega) (by omega))
   go_wp2_with (first
    | (go_at_call 239;go_must (refine HO.out.mono ?_;rintro e w3 ⟨at_,hat,rfl,S'⟩;have S4:Hid (Sep w0 w3 [.own 138 4 q m d (encQ out),.own 138 4 ql k cl (encQ left),.blk gi 3 #[.int .i64 ((((m+1:Nat):Int):Int) - 1)],.blk gp 25 #[.slice pp np cp]]):=S';have pl:=(S'.rdx 1 rfl).ptr;obtain⟨g1,g2,g3,g4⟩:=(S'.rdx 1 rfl).cQ hat;have HX:=Lib.hid (perm_take HP.out (show at_<left.length by rw [← HLK.out];exact hat));have dd1:(0:Int)≤(at_:Int):=(by omega);have dd2:(at_:Int)<(k:Int):=(by omega);clear S'))
    | (at_builtin;have _t:=S4;go_must (refine wpList_append_sep rfl _ _ _ rfl 138 i0 _ 4 32 Tryz.underlying83 hi0 hz0 hz1 hz2 rfl (by omega) (S4.out.junk _) 0 q m d _ rfl rfl _ 1 1 _ rfl (Rd.oneQ _ _ (nth left at_)) (one_encQ _) (by omega) (by omega) ?_;intro q5 d5 w5 S' hsz;obtain⟨w6,hrun,T⟩:=copy_shift S'.drew 1 rfl 83 83 3 138 Tryz.underlying83 infQ (by omega) (one_encQ left) at_ hat;have S6:Hid (Sep w0 w6 [.own 138 4 q5 (m+1) d5 (encQ (out ++ [nth left at_])),.own 138 4 ql (k - 1) cl (encQ (left.eraseIdx at_)),.blk gi 3 #[.int .i64 ((((m+1:Nat):Int):Int) - 1)],.blk gp 25 #[.slice pp np cp]]):=(by rw [encQ_append,encQ_eraseIdx];exact T);clear S' T hsz)))
   have kc:k≤cl:=own_cap (S4.out.own 1 rfl)
   obtain⟨b,hb⟩:∃ b,b=at_+1:=⟨_,rfl⟩
   have hc:cutp ql cl at_ 4=ql.map (fun x=>x.add (at_*4)):=by unfold cutp;rw [if_neg (by omega)];try simp
   rw [← hb] at hrun
   have hrun2:=hrun
   rw [hc] at hrun2
   clear hc
   have e1:(at_:Int)+1=(b:Int):=by omega
   have dd3:(b:Int)≤(k:Int):=by omega
   have dd5:b≤k:=by omega
   have dd4:(0:Int)≤(b:Int):=by omega
   have dw:IntKind.i64.wrap (b:Int)=(b:Int):=by rw [IntKind.wrap_i64];omega
   have dd8:(b:Int)≤100000:=by omega
   have dd9:at_≤k:=by omega
   have dd10:¬ cl=at_:=by omega
   have dd6:b≤cl:=by omega
   have dd7:(b:Int)≤(cl:Int):=by omega
   clear S S4 HP HO hb
   go_region_with fail
   go_wp2
   go_roundg (gk - 1)
   case measure=>omega
   case rel=>exact⟨out ++ [nth left at_],left.eraseIdx at_,q5,ql,m+1,k - 1,d5,cl,rfl,rfl,by omega,by omega,HX,S6⟩
end
section
open Go Go.RowKit
theorem OfG (pp:Option Addr) (np cp:Nat) (w:World):Calls Tryz.prog 205 #[.slice pp np cp] w fun e w'=>e=.returned (.func (.func 239) #[] #[.pointer (some ⟨w.heap.size+1,0,none⟩),.pointer (some ⟨w.heap.size,0,none⟩)])∧w'=((w.alloc (.cells #[.slice pp np cp] 25)).alloc (.cells #[.int .i64 (-1)] 3)):=by
 go_enter Tryz.func205,Tryz.ntmps205
 go_wp2
 go_ret
 exact⟨rfl,rfl⟩
theorem MailsG (p:Option Addr) (n c:Nat) (L:List Sq) (pp:Option Addr) (np cp:Nat) (ps:List Int) (w:World) (hl:Rd w 4 p n (encQ L)) (hps:Rd w 1 pp np (encI ps)) (hn:n≤100000) :
  Calls Tryz.prog 146 #[.slice p n c,.slice pp np cp] w fun e w'=>∃ (P:List Sq) (q:Option Addr) (c':Nat),P.Perm L∧e=.returned (.slice q n c')∧Sep w w' [.own 138 4 q n c' (encQ P)]:=by
 have S0:=Lib.hid (((Sep.start w).al #[.slice pp np cp] 25 w.heap.size rfl).al #[.int .i64 (-1)] 3 (w.heap.size+1) (by simp))
 have HO:=Lib.hid (OrderedQ p n c L (w.heap.size+1) w.heap.size pp np cp ps _ w S0.out hl hps hn)
 clear hl hps
 go_enter Tryz.func146,Tryz.ntmps146
 go_wp2_with (first | (go_at_call 205;refine(OfG _ _ _ _).mono ?_;rintro e w9 ⟨rfl,rfl⟩) | (go_at_call 211;go_must (refine HO.out.mono ?_;rintro e w1 ⟨P,q,c1,hP,rfl,Z⟩;have HP:=Lib.hid hP;have S1:=Lib.hid Z;clear hP Z)))
 go_ret
 exact⟨P,q,c1,HP.out,rfl,S1.out⟩
def upTo (n k:Nat):List Int:=(List.range n).map fun v=>if v<k then (v:Int) else 0
theorem upTo_len (n k:Nat):(upTo n k).length=n:=by simp [upTo]
theorem upTo_zero (n:Nat):upTo n 0=List.replicate n 0:=by
 apply List.ext_getElem <;> simp [upTo]
theorem upTo_all (n:Nat):upTo n n=(List.range n).map fun v:Nat=>(v:Int):=by
 apply List.ext_getElem
 ·simp [upTo]
 ·intro i h1 h2
  have h3:i<n:=by rw [upTo_len] at h1;exact h1
  simp [upTo,h3]
theorem upTo_set {n k:Nat} (_:k<n):(encI (upTo n k)).set k (.int .i64 k)=encI (upTo n (k+1)):=by
 apply List.ext_getElem
 ·simp [encI,upTo]
 ·intro i h1 h2
  have h3:i<n:=by rw [encI_len,upTo_len] at h2;exact h2
  rw [List.getElem_set]
  by_cases e:k=i
  ·subst e;simp [encI,upTo]
  ·rw [if_neg e]
   simp only [encI,upTo,List.getElem_map,List.getElem_range]
   by_cases h4:i<k
   ·rw [if_pos h4,if_pos (by omega)]
   ·rw [if_neg h4,if_neg (by omega)]
theorem OrderG (n:Nat) (pp:Option Addr) (np cp:Nat) (ps:List Int) (w:World) (hps:Rd w 1 pp np (encI ps)) (hn:n≤1000) :
  Calls Tryz.prog 139 #[.int .i64 n,.slice pp np cp] w fun e w'=>∃ (P:List Int) (q:Option Addr) (c':Nat),P.Perm ((List.range n).map fun v:Nat=>(v:Int))∧e=.returned (.tuple #[.slice q n c',.int .i64 0])∧Sep w w' [.own 3 1 q n c' (encI P)]:=by
 obtain⟨i0,hi0,hz0,hz1,hz2⟩:=info_parts infI
 have d1:decide ((n:Int)<0)=false:=by simp
 have d2:decide (1000<(n:Int))=false:=by simp;omega
 have HPS:=Lib.hid hps
 clear hps
 go_enter Tryz.func139,Tryz.ntmps139
 go_wp2_with (at_make;go_must (refine wpList_make_sep rfl _ _ _ rfl 3 i0 _ 1 Tryz.underlying25 hi0 hz0 hz1 (n:Int) n rfl rfl rfl (by rw [hz2];omega) (by unfold maxLen;omega) (Sep.start w) ?_;intro w1 S';rw [made_encI,← upTo_zero] at S';have S1:=Lib.hid S';clear S'))
 generalize (some ⟨w.heap.size,0,none⟩:Option Addr)=q at *
 go_loopw [7,18] (fun _ i wr=>∃ k:Nat,k≤n∧i=.int .i64 k∧Sep w wr [.own 3 1 q n n (encI (upTo n k))]) (fun _ i _=>n - (intOf i).toNat)
 case atStart=>exact⟨0,Nat.zero_le _,rfl,S1.out⟩
 case round =>
  clear S1
  obtain⟨k,hk,rfl,S⟩:=hrel
  have pq:=(S.rdx 0 rfl).ptr
  by_cases hlt:k<n
  ·have d3:(0:Int)≤k:=by omega
   have d4:(k:Int)<n:=by omega
   have fz:=own_frozen (S.own 0 rfl) (by omega) k
   have cz:=own_cell (S.own 0 rfl) (k:=k) (by omega)
   have HS:=Lib.hid (S.setRow 0 rfl k (by omega) (.int .i64 k))
   rw [upTo_set hlt] at HS
   clear S
   go_wp2
   go_roundw
   case rel=>exact⟨k+1,by omega,by go_num,HS.out⟩
   case measure=>simp [intOf];omega
  ·obtain rfl:k=n:=by omega
   have S2:=Lib.hid (((Sep.start wr).al #[.slice pp np cp] 25 wr.heap.size rfl).al #[.int .i64 (-1)] 3 (wr.heap.size+1) (by simp))
   have HO:=Lib.hid (OrderedI q k k (upTo k k) (wr.heap.size+1) wr.heap.size pp np cp ps _ wr S2.out (S.rdx 0 rfl) (HPS.out.ext S.ext) (by omega))
   rw [upTo_all] at HO
   have SH:=Lib.hid S;clear S
   clear pq
   go_wp2_with (first | (go_at_call 205;refine(OfG _ _ _ _).mono ?_;rintro e w9 ⟨rfl,rfl⟩) | (go_at_call 204;go_must (refine HO.out.mono ?_;rintro e w4 ⟨P,q1,c1,hP,rfl,Z⟩;have HP:=Lib.hid hP;have S3:=Lib.hid (SH.out.comp Z);clear hP Z)))
   go_ret2
   exact⟨P,q1,c1,HP.out,rfl,S3.out.pick [0] (by decide) rfl⟩
end
section
open Go Go.RowKit Go.Sort
theorem ext_grow (W:World) (q:Nat) (os:Array Obj):Ext W (grow (W.drewN q) os) :=
 ⟨rfl,rfl,rfl,by show W.heap.size≤(W.heap ++ os).size;simp,fun k hk=>by show (W.heap ++ os)[k]?=W.heap[k]?;rw [Array.getElem?_append_left hk]⟩
theorem comparedE (x y:Ky) (W:World):Calls Tryz.prog 150 #[.agg #[.int .i64 x.s,.int .i64 x.r,.int .i64 x.v],.agg #[.int .i64 y.s,.int .i64 y.r,.int .i64 y.v]] W fun e w'=>e=.returned (.int .i64 (cmpK x y))∧Ext W w' :=
 (comparedG x y W).mono fun _ _ ⟨h,q,os,h2⟩=>⟨h,h2 ▸ ext_grow W q os⟩
theorem cmpK_lt {x y:Sq} (h:keyLt x y=true):cmpK x.ky y.ky<0:=by
 have:=ltOf_ky x y
 rw [h] at this
 unfold ltOf at this
 simpa using this
theorem stMayG (x:Sq) (w:World) (h:mayB x=true):Calls Tryz.prog 109 #[.agg #[.int .i64 x.s,.int .i64 x.r,.int .i64 x.v,.int .i64 x.d]] w fun e w'=>e=.returned (.bool true)∧Ext w w':=by
 have S0:=Lib.hid ((Sep.start w).al #[.int .i64 x.s,.int .i64 x.r,.int .i64 x.v,.int .i64 x.d] 146 w.heap.size rfl)
 have HE:=Lib.hid ((S0.out.alrw #[.int .i64 x.s,.int .i64 x.r,.int .i64 x.v,.int .i64 x.d] 138 4 1 (w.heap.size+1) (by simp) (by decide) (by simp)))
 have HC:=Lib.hid (CheckM (some ⟨w.heap.size+1,0,none⟩) 1 1 [x] _ (HE.out.rdx 0 rfl) (fun y hy=>by rw [List.mem_singleton] at hy;subst hy;exact h))
 clear h
 go_enter Tryz.func109,Tryz.ntmps109
 go_wp2_with (go_at_call 143;go_must (refine HC.out.mono ?_;rintro e w' ⟨rfl,hb⟩;have HX:=Lib.hid (HE.out.call hb).ext;clear hb))
 go_ret
 exact⟨rfl,HX.out⟩
theorem rightG (p:Option Addr) (n c:Nat) (l:List Sq) (N:Nat) (w:World) (hl:Rd w 4 p n (encQ l)) (hu:KeysUp l) (hm:∀ x∈l,mayB x=true∧x.v<N) (hn:n≤100000) :
  Calls Tryz.prog 142 #[.slice p n c,.int .i64 N] w fun e w'=>e=.returned (.bool true)∧Ext w w':=by
 have p1:=hl.ptr
 have n1:=hl.small
 have L1:=Lib.hid hl.nQ
 have HM:=Lib.hid hm
 have HU:=Lib.hid hu
 have HL:=Lib.hid hl
 clear hl hm hu
 go_enter Tryz.func142,Tryz.ntmps142
 go_wp2
 go_loopw [5,6,9] (fun _ _ i wr=>∃ k:Nat,k≤n∧i=.int .i64 k∧Ext w wr) (fun _ _ i _=>n - (intOf i).toNat)
 case atStart=>exact⟨0,Nat.zero_le _,rfl,Below.refl _ _⟩
 case round =>
  obtain⟨k,hk,rfl,hE⟩:=hrel
  have HE:=Lib.hid hE
  by_cases hlt:k<n
  ·obtain⟨g1,g2,g3,g4⟩:=(HL.out.ext hE).cQ hlt
   have hkl:k<l.length:=by rw [← L1.out];exact hlt
   obtain⟨hx,hv⟩:=HM.out (nth l k) (nth_mem hkl)
   obtain⟨x,hxl⟩:∃ x,nth l k=x:=⟨_,rfl⟩
   rw [hxl] at g1 g2 g3 g4 hx hv
   have S1:=Lib.hid (((Sep.start w).call hE).al #[.int .i64 x.s,.int .i64 x.r,.int .i64 x.v,.int .i64 x.d] 146 wr.heap.size rfl)
   have HC:=Lib.hid (fun W=>stMayG x W hx)
   have d1:(0:Int)≤k:=by omega
   have d2:(k:Int)<n:=by omega
   have e1:decide ((N:Int)≤x.v)=false:=by simpa using hv
   have HXL:=Lib.hid hxl
   clear hE hx hv hxl
   by_cases hk0:k=0
   ·subst hk0
    clear HXL hkl
    go_wp2
    obtain⟨W1,hW1⟩:∃ W1,wr.alloc (.cells #[.int .i64 x.s,.int .i64 x.r,.int .i64 x.v,.int .i64 x.d] 146)=W1:=⟨_,rfl⟩
    rw [hW1]
    rw [hW1] at S1
    obtain⟨a0,a1,a2,a3⟩:=bkc0c1c2c3 (S1.out.blk 0 rfl)
    simp at a0 a1 a2 a3
    have u0:=fun x:ExtOf W1=>x.ext.cell a0
    have u1:=fun x:ExtOf W1=>x.ext.cell a1
    have u2:=fun x:ExtOf W1=>x.ext.cell a2
    have u3:=fun x:ExtOf W1=>x.ext.cell a3
    clear hW1
    refine wp_region_ext (by kernel_rfl) (by kernel_rfl) ?_
    repeat (go_big_quiet_step (((go_at_call 109;exact Calls.ext_of (HC.out _)))))
    refine wpQuiet_nil ?_
    rintro w9 ⟨⟨_,hb9⟩,rfl⟩
    have HX:=Lib.hid (Ext.trans S1.out.ext hb9)
    clear hb9
    go_wp2
    go_roundw
    case rel=>exact⟨1,by omega,by go_num,HX.out⟩
    case measure=>simp [intOf];omega
   ·obtain⟨j,hj⟩:∃ j,k=j+1:=⟨k - 1,by omega⟩
    have q1:(k:Int) - 1=(j:Int):=by omega
    have q2:(0:Int)≤(j:Int):=by omega
    have q3:(j:Int)≤100000:=by omega
    have q4:(j:Int)<n:=by omega
    have q5:(0:Int)<(k:Int):=by omega
    have q6:decide ((0:Int)<(k:Int))=true:=by simpa using q5
    have q7:decide (0<k)=true:=by simp;omega
    have hjl:j<l.length:=by omega
    have hkj:keyLt (nth l j) (nth l k)=true:=by
     rw [nth_eq hjl,nth_eq hkl]
     exact(List.pairwise_iff_getElem.1 HU.out) j k hjl hkl (by omega)
    rw [HXL.out] at hkj
    have HCC:=Lib.hid (fun W=>comparedE (nth l j).ky x.ky W)
    have hcc:=cmpK_lt hkj
    obtain⟨cc,hcce⟩:∃ cc,cmpK (nth l j).ky x.ky=cc:=⟨_,rfl⟩
    rw [hcce] at HCC hcc
    have e2:decide (0≤cc)=false:=by simpa using hcc
    obtain⟨y1,y2,y3,y4⟩:=(HL.out.ext S1.out.ext).cQ (k:=j) (by omega)
    have hjn:j<n:=by omega
    clear hcc hcce hkj HXL hkl hjl hj hk0
    generalize nth l j=y at *
    go_wp2
    obtain⟨W1,hW1⟩:∃ W1,wr.alloc (.cells #[.int .i64 x.s,.int .i64 x.r,.int .i64 x.v,.int .i64 x.d] 146)=W1:=⟨_,rfl⟩
    rw [hW1]
    rw [hW1] at S1 y1 y2 y3 y4
    obtain⟨a0,a1,a2,a3⟩:=bkc0c1c2c3 (S1.out.blk 0 rfl)
    simp at a0 a1 a2 a3
    have u0:=fun x:ExtOf W1=>x.ext.cell a0
    have u1:=fun x:ExtOf W1=>x.ext.cell a1
    have u2:=fun x:ExtOf W1=>x.ext.cell a2
    have u3:=fun x:ExtOf W1=>x.ext.cell a3
    have v1:=fun x:ExtOf W1=>x.ext.cell y1
    have v2:=fun x:ExtOf W1=>x.ext.cell y2
    have v3:=fun x:ExtOf W1=>x.ext.cell y3
    clear hW1
    refine wp_region_ext (by kernel_rfl) (by kernel_rfl) ?_
    repeat (go_big_quiet_step (((first | (go_at_call 109;exact Calls.ext_of (HC.out _)) | (go_at_call 150;exact Calls.ext_of (HCC.out _))))))
    refine wpQuiet_nil ?_
    rintro w9 ⟨⟨_,hb9⟩,rfl⟩
    have HX:=Lib.hid (Ext.trans S1.out.ext hb9)
    clear hb9
    go_wp2
    go_roundw
    case rel=>exact⟨k+1,by omega,by go_num,HX.out⟩
    case measure=>simp [intOf];omega
  ·clear hE
   go_wp2
   go_ret
   exact⟨rfl,HE.out⟩
theorem beyondCl (gn:Nat) (x:Sq) (N:Nat) (w:World) (hB:Blk w gn 3 #[.int .i64 N]) (hv:x.v<N):Calls Tryz.prog 138 #[.agg #[.int .i64 x.s,.int .i64 x.r,.int .i64 x.v,.int .i64 x.d],.pointer (some ⟨gn,0,none⟩)] w fun e w'=>e=.returned (.bool false)∧Ext w w':=by
 have b0:w.cell? ⟨gn,0,none⟩=some (.int .i64 N):=hB.cell 0
 have bz:=hB.lt
 have HE:=Lib.hid ((Sep.start w).al #[.int .i64 x.s,.int .i64 x.r,.int .i64 x.v,.int .i64 x.d] 138 w.heap.size rfl).ext
 have e1:decide ((N:Int)≤x.v)=false:=by simpa using hv
 clear hB hv
 go_enter Tryz.func138,Tryz.ntmps138
 go_wp2
 go_ret
 exact⟨rfl,HE.out⟩
theorem IndexBeyond (p:Option Addr) (n c gn:Nat) (l:List Sq) (N:Nat) (w:World) (hl:Rd w 4 p n (encQ l)) (hB:Blk w gn 3 #[.int .i64 N]) (hv:∀ x∈l,x.v<N) :
  Calls Tryz.prog 210 #[.slice p n c,.func (.func 138) #[] #[.pointer (some ⟨gn,0,none⟩)]] w fun e w'=>e=.returned (.int .i64 (-1))∧Ext w w':=by
 have p1:=hl.ptr
 have n1:=hl.small
 have L1:=Lib.hid hl.nQ
 have HV:=Lib.hid hv
 have HL:=Lib.hid hl
 have HB:=Lib.hid hB
 clear hl hB hv
 go_enter Tryz.func210,Tryz.ntmps210
 go_wp2
 go_loopw [5,8] (fun _ i wr=>∃ k:Nat,k≤n∧i=.int .i64 k∧Ext w wr) (fun _ i _=>n - (intOf i).toNat)
 case atStart=>exact⟨0,Nat.zero_le _,rfl,Below.refl _ _⟩
 case round =>
  obtain⟨k,hk,rfl,hE⟩:=hrel
  have HE:=Lib.hid hE
  by_cases hlt:k<n
  ·obtain⟨g1,g2,g3,g4⟩:=(HL.out.ext hE).cQ hlt
   have hkl:k<l.length:=by rw [← L1.out];exact hlt
   have HC:=Lib.hid (beyondCl gn (nth l k) N wr (HB.out.ext hE) (HV.out _ (nth_mem hkl)))
   have d1:(0:Int)≤k:=by omega
   have d2:(k:Int)<n:=by omega
   clear hE hkl
   generalize nth l k=x at *
   go_wp2_with (go_at_call 138;go_must (refine HC.out.mono ?_;rintro e w' ⟨rfl,hb⟩;have HX:=Lib.hid (Ext.trans HE.out hb);clear hb))
   go_roundw
   case rel=>exact⟨k+1,by omega,by go_num,HX.out⟩
   case measure=>simp [intOf];omega
  ·clear hE
   go_wp2
   go_ret
   exact⟨rfl,HE.out⟩
theorem ContainsBeyond (p:Option Addr) (n c gn:Nat) (l:List Sq) (N:Nat) (w:World) (hl:Rd w 4 p n (encQ l)) (hB:Blk w gn 3 #[.int .i64 N]) (hv:∀ x∈l,x.v<N) :
  Calls Tryz.prog 144 #[.slice p n c,.func (.func 138) #[] #[.pointer (some ⟨gn,0,none⟩)]] w fun e w'=>e=.returned (.bool false)∧Ext w w':=by
 have HC:=Lib.hid (IndexBeyond p n c gn l N w hl hB hv)
 clear hl hB hv
 go_enter Tryz.func144,Tryz.ntmps144
 go_wp2_with (go_at_call 210;refine HC.out.mono ?_;rintro e w' ⟨rfl,hb⟩;have HX:=Lib.hid hb;clear hb)
 go_ret
 exact⟨rfl,HX.out⟩
end
section
open Go Go.RowKit
structure SameX (B:Nat) (X:Nat→Prop) (w w':World):Prop where
 os:w'.os=w.os
 tape:w'.tape=w.tape
 output:w'.output=w.output
 block:∀ k,k<B→¬ X k→w'.heap[k]?=w.heap[k]?
theorem SameX.refl (B:Nat) (X:Nat→Prop) (w:World):SameX B X w w:=⟨rfl,rfl,rfl,fun _ _ _=>rfl⟩
theorem SameX.mono {B B':Nat} {X:Nat→Prop} {w w':World} (h:SameX B X w w') (hB:B'≤B):SameX B' X w w':=⟨h.os,h.tape,h.output,fun k hk hx=>h.block k (by omega) hx⟩
theorem SameX.trans {B:Nat} {X:Nat→Prop} {w w1 w2:World} (h:SameX B X w w1) (g:SameX B X w1 w2):SameX B X w w2:=⟨g.os.trans h.os,g.tape.trans h.tape,g.output.trans h.output,fun k hk hx=>(g.block k hk hx).trans (h.block k hk hx)⟩
theorem SameX.symm {B:Nat} {X:Nat→Prop} {w w1:World} (h:SameX B X w w1):SameX B X w1 w:=⟨h.os.symm,h.tape.symm,h.output.symm,fun k hk hx=>(h.block k hk hx).symm⟩
theorem SameX.of_below {B:Nat} {X:Nat→Prop} {w w1:World} (h:Below B w w1):SameX B X w w1:=⟨h.os,h.tape,h.output,fun k hk _=>h.block k hk⟩
def FarX {β:Type} (B:Nat) (X:Nat→Prop) (I:β→World→Prop):Prop :=
 ∀ s W W',B≤W.heap.size→B≤W'.heap.size→SameX B X W W'→I s W→I s W'
theorem FarX.below {β:Type} {B:Nat} {X:Nat→Prop} {I:β→World→Prop} (h:FarX B X I) {s:β} {W W':World} (hB:B≤W.heap.size) (hb:Below B W W') (hs:I s W):I s W':=h s W W' hB (by have:=hb.size;omega) (.of_below hb) hs
theorem FarX.putObj {β:Type} {B:Nat} {X:Nat→Prop} {I:β→World→Prop} (h:FarX B X I) {s:β} {W:World} {l:Nat} {o:Obj} (o':Obj) (hs:I s W) (hB:B≤l) (hl:W.heap[l]?=some o):I s (W.putObj l o') :=
 h.below (by have:=(Array.getElem?_eq_some_iff.1 hl).1;omega) ((Below.refl B W).grown (grownBy_putObj' W l o') (by have:=(Array.getElem?_eq_some_iff.1 hl).1;omega) (fun k e=>by cases e;exact hB)) hs
end
section
open Go Go.RowKit
def SeqC {α:Type} (F:Fence) (n:Nat) (P:Program) (g:Nat) (lb:Array Value) (encs:α→Array Value) (A:World→List α→α→World→Prop) (Kp:World→World→Prop) (S Sp Q:List α→Prop) (w:World):Prop :=
 ∀ (l:Nat) (J Jx:List α→World→Prop) (W:World),Below w.heap.size w W→OwnFrom W.heap.size J→OwnFrom W.heap.size Jx →
  (∀ pre V,J pre V→Q pre) →
  (∀ pre x V0 V,J pre V0→Ext V0 V→A V0 pre x V→YieldAt F (n - 1) P l (encs x) V fun e V' =>
   (e=.returned (.bool true)∧J (pre ++ [x]) V'∧Kp V V')∨(e=.returned (.bool false)∧Jx (pre ++ [x]) V')) →
  J [] W→CallsIn F n P g (#[.func (.yield l) #[] #[]] ++ lb) W fun e V=>(∃ v,e=.returned v)∧((∃ xs,S xs∧J xs V)∨(∃ pre,Sp pre∧Jx pre V))
section
variable {F:Fence} {n:Nat} {P:Program} {w:World}
theorem wpIn_rangeFunc_toldC {α:Type} {g:Operand} {ps:Array Tmp} {assign body:Code} {Q:Exit→Act→World→Prop} {a:Act}
  (hro:F.round=none) (h1:1≤n) {gf:Nat} {lb:Array Value} (hg:a.eval g=.func (.func gf) #[] lb) (hF:F.fn gf) (eg:∀ args w,(callFunc gf args).run P w=.ok (.enter gf args) w)
  {encs:α→Array Value} {A:World→List α→α→World→Prop} {Kp:World→World→Prop} {S Sp Q':List α→Prop} {w0:World} (hseq:SeqC F (n - 1) P gf lb encs A Kp S Sp Q' w0)
  (hKt:∀ {X Y Z:World},Kp X Y→Kp Y Z→Kp X Z) (hKb:∀ (W:World) (l:Nat) (o o':Obj),w.heap.size≤l→W.heap[l]?=some o→o.isCells=false→o.isWalk=false→Kp W (W.putObj l o')) (hb0:Below w0.heap.size w0 w) (hps:∀ x,(encs x).size=ps.size)
  (I:List α→World→Prop) (Ix:Code→List α→World→Prop) (hI:OwnFrom w.heap.size I) (hIx:∀ c,OwnFrom w.heap.size (Ix c)) (hQ:∀ pre W,I pre W→Q' pre) (h0:I [] w)
  (Ax:List α→α→Act→World→Prop) (hAx:∀ pre x a',OwnFrom w.heap.size (fun (_:Unit) W=>Ax pre x a' W))
  (hassign:∀ (l:Nat) (pre:List α) (x:α) (V0 W:World) (K:Act→World→Prop),I pre V0→Ext V0 W→A V0 pre x W→(∀ a' W',KeepsFrom w.heap.size W W'→Kp W W'→I pre W'→Ax pre x a' W'→K a' W') →
   assign.wpIn (F.inRound l) (n - 1 - 1) P (Exit.then K (fun _ _ _=>False)) { tmps:=(ps.zip (encs x)).foldl (fun t (p,v)=>t.setIfInBounds p v) a.tmps,defers:=[] } W)
  (hbody:∀ (l:Nat) (pre:List α) (x:α) (a':Act) (W:World),I pre W→Ax pre x a' W→body.wpIn (F.inRound l) (n - 1 - 1) P (ownPostG w.heap.size Kp I Ix (pre ++ [x]) W) a' W)
  (hdone:∀ (D:Nat) (xs:List α) (W:World),w.heap.size≤D→S xs→I xs W→W.heap[D]?=some (.deferred (some []))→Q .normal { a with defers:={ target:=.collected D,args:=#[] } :: a.defers } W)
  (hstop:∀ (D:Nat) (c:Code) (pre:List α) (W:World),w.heap.size≤D→Sp pre→Ix c pre W→W.heap[D]?=some (.deferred (some []))→c.wpIn F n P Q { a with defers:={ target:=.collected D,args:=#[] } :: a.defers } W) :
  (Code.rangeFunc g ps assign body).wpIn F n P Q a w:=by
 refine wpIn_rangeFunc fun fn hfn=>?_
 rw [hro]
 have hB:w.heap.size≤w.heap.size+1:=Nat.le_succ _
 obtain⟨mk,hmk⟩:∃ mk:LoopState→Option Code→Loop,mk=fun st pe=>{ state:=st,pending:=pe,fn,tmps:=a.tmps,params:=ps,assign,body,defers:=w.heap.size }:=⟨_,rfl⟩
 obtain⟨V,hV⟩:∃ V,(w.alloc (.deferred (some []))).alloc (.loop (mk .ready none))=V:=⟨_,rfl⟩
 have hVl:V.heap[w.heap.size+1]?=some (.loop (mk .ready none)):=by
  have h:=World.alloc_heap_new (w.alloc (.deferred (some []))) (.loop (mk .ready none))
  rw [World.size_alloc] at h
  rw [← hV];exact h
 have hVd:V.heap[w.heap.size]?=some (.deferred (some [])):=by
  rw [← hV];exact(Below.heap_alloc _ _ _ (by simp)).trans (World.alloc_heap_new w _)
 have hVb:Below w0.heap.size w0 V:=by
  rw [← hV];exact hb0.trans ((((Below.refl _ w).alloc (Nat.le_refl _) _).alloc (by simp) _).mono hb0.size)
 have hVs:w.heap.size≤V.heap.size:=by have:=(Array.getElem?_eq_some_iff.1 hVd).1;omega
 have hV0:I [] V:=by rw [← hV];exact(hI.alloc _ (hI.alloc _ h0))
 have lV:w.heap.size+1<V.heap.size:=(Array.getElem?_eq_some_iff.1 hVl).1
 have keep:∀ {Y Z:World} {row:Option Nat} {k:Nat} {o:Obj},Y.grownBy Z row→(∀ r,row=some r→V.heap.size≤r∧∃ o:Obj,Y.heap[r]?=some o∧o.isCells=false)→k<V.heap.size→Y.heap[k]?=some o→Z.heap[k]?=some o:=fun {Y Z row k o} hg hr hk hY=>(hg.block k (Array.getElem?_eq_some_iff.1 hY).1 (fun e=>by have:=(hr k e.symm).1;omega)).trans hY
 have loose:∀ {Y:World} {row:Option Nat},(∀ r,row=some r→V.heap.size≤r∧∃ o:Obj,Y.heap[r]?=some o∧o.isCells=false)→∀ r,row=some r→w.heap.size≤r∧∃ o:Obj,Y.heap[r]?=some o∧o.isCells=false:=fun hr r e=>⟨Nat.le_trans hVs (hr r e).1,(hr r e).2⟩
 refine⟨w.heap.size+1,[{ target:=.collected w.heap.size,args:=#[] }],V,{ target:=.fn (.func gf) lb,args:=#[.func (.yield (w.heap.size+1)) #[] #[]] },V,gf,#[.func (.yield (w.heap.size+1)) #[] #[]] ++ lb,V,?_,?_,?_,?_,fun _=>h1,?_⟩
 ·rw [← hV,hmk];exact run_enterLoop_outer _ _ _ _ _
 ·simp only [resolve,hg];simp [go_sem]
 ·intro f' hf';simp [Target.leads] at hf';subst hf';exact hF
 ·simp [invoke,go_sem,eg]
 refine(hseq (w.heap.size+1)
  (fun pre W=>I pre W∧W.heap[w.heap.size+1]?=some (.loop (mk .ready none))∧W.heap[w.heap.size]?=some (.deferred (some [])))
  (fun pre W=>∃ c,Ix c pre W∧W.heap[w.heap.size+1]?=some (.loop (mk .done (some c)))∧W.heap[w.heap.size]?=some (.deferred (some []))) V hVb
  (fun s Y Z row h hg hr=>⟨hI s Y Z row h.1 hg (loose hr),keep hg hr lV h.2.1,keep hg hr (by omega) h.2.2⟩)
  (fun s Y Z row h hg hr=>h.elim fun c h=>⟨c,hIx c s Y Z row h.1 hg (loose hr),keep hg hr lV h.2.1,keep hg hr (by omega) h.2.2⟩)
  (fun pre W h=>hQ pre W h.1) ?_ ⟨hV0,hVl,hVd⟩).mono ?_
 ·rintro pre x V0 W ⟨hi0,hl0,hk0⟩ hE0 hax
  have hl:W.heap[w.heap.size+1]?=some (.loop (mk .ready none)):=(hE0.block _ (Array.getElem?_eq_some_iff.1 hl0).1).trans hl0
  have hk:W.heap[w.heap.size]?=some (.deferred (some [])):=(hE0.block _ (Array.getElem?_eq_some_iff.1 hk0).1).trans hk0
  have hlt:w.heap.size+1<W.heap.size:=(Array.getElem?_eq_some_iff.1 hl).1
  have hy:=run_yield (P:=P) (args:=encs x) hl (by rw [hmk];exact hps x)
  rw [hmk] at hy
  refine⟨fn,_,assign,body,hy,roundIn_of_wpIn hfn (hassign _ pre x V0 W _ hi0 hE0 hax fun a' W1 hK1 hp1 hi1 hax1=>?_)⟩
  have hl1:W1.heap[w.heap.size+1]?=some (.loop (mk .ready none)):=hK1.same _ _ hB hl rfl
  have hk1:W1.heap[w.heap.size]?=some (.deferred (some [])):=hK1.same _ _ (Nat.le_refl _) hk rfl
  have hlt1:w.heap.size+1<W1.heap.size:=(Array.getElem?_eq_some_iff.1 hl1).1
  refine⟨_,run_beginRound hl1 (by rw [hmk]),?_⟩
  have l2:(W1.putObj (w.heap.size+1) (.loop { mk .ready none with state:=.busy })).heap[w.heap.size+1]?=some (.loop { mk .ready none with state:=.busy }):=World.putObj_heap_same hlt1
  have k2:(W1.putObj (w.heap.size+1) (.loop { mk .ready none with state:=.busy })).heap[w.heap.size]?=some (.deferred (some [])):=(World.putObj_heap_other (by omega)).trans hk1
  have p2:Kp W (W1.putObj (w.heap.size+1) (.loop { mk .ready none with state:=.busy })):=hKt hp1 (hKb _ _ _ _ hB hl1 rfl rfl)
  refine wpIn_mono (hbody _ pre x a' _ (hI.putObj _ hi1 hB hl1 rfl) ((hAx pre x a').putObj (s:=()) _ hax1 hB hl1 rfl)) ?_
  have fin:∀ (jump:Option Code) (Y:World),KeepsFrom w.heap.size (W1.putObj (w.heap.size+1) (.loop { mk .ready none with state:=.busy })) Y →
    (Instr.endRound (w.heap.size+1) jump).run P Y=.ok (.bool jump.isNone) (Y.putObj (w.heap.size+1) (.loop (mk (if jump.isNone then .ready else .done) jump))) ∧
    Y.heap[w.heap.size+1]?=some (.loop { mk .ready none with state:=.busy }) ∧
    (Y.putObj (w.heap.size+1) (.loop (mk (if jump.isNone then .ready else .done) jump))).heap[w.heap.size+1]?=some (.loop (mk (if jump.isNone then .ready else .done) jump)) ∧
    (Y.putObj (w.heap.size+1) (.loop (mk (if jump.isNone then .ready else .done) jump))).heap[w.heap.size]?=some (.deferred (some [])):=fun jump Y hY=>by
   have l3:=hY.same _ _ hB l2 rfl
   have hr:=run_endRound (P:=P) jump l3
   rw [hmk] at hr l3 ⊢
   exact⟨hr,l3,World.putObj_heap_same (Array.getElem?_eq_some_iff.1 l3).1,(World.putObj_heap_other (by omega)).trans (hY.same _ _ (Nat.le_refl _) k2 rfl)⟩
  rintro e a3 Y hp
  cases e with
  | normal =>
   obtain⟨hY,hkp,hi3⟩:=hp
   obtain⟨r1,r2,r3,r4⟩:=fin none Y hY
   exact⟨_,_,r1,.inl ⟨rfl,⟨hI.putObj _ hi3 hB r2 rfl,r3,r4⟩,hKt (hKt p2 hkp) (hKb _ _ _ _ hB r2 rfl rfl)⟩⟩
  | ret =>
   obtain⟨r1,r2,r3,r4⟩:=fin (some .ret) Y hp.1
   exact⟨_,_,r1,.inr ⟨rfl,.ret,(hIx _).putObj _ hp.2 hB r2 rfl,r3,r4⟩⟩
  | exit id =>
   obtain⟨r1,r2,r3,r4⟩:=fin (some (.exit id)) Y hp.1
   exact⟨_,_,r1,.inr ⟨rfl,.exit id,(hIx _).putObj _ hp.2 hB r2 rfl,r3,r4⟩⟩
  | goto t =>
   obtain⟨r1,r2,r3,r4⟩:=fin (some (.goto t)) Y hp.1
   exact⟨_,_,r1,.inr ⟨rfl,.goto t,(hIx _).putObj _ hp.2 hB r2 rfl,r3,r4⟩⟩
  | panic ch=>exact hp.elim
  | outgrown=>exact hp.elim
 ·rintro e Y ⟨⟨v,rfl⟩,(⟨xs,hS,hi,hl,hk⟩ | ⟨pre,hSp,c,hi,hl,hk⟩)⟩
  ·have hr:=run_endLoop (P:=P) hl (by rw [hmk];simp)
   rw [hmk] at hr
   exact⟨none,_,hr,hdone _ xs _ (Nat.le_refl _) hS (hI.putObj _ hi hB hl (by rw [hmk];rfl)) ((World.putObj_heap_other (by omega)).trans hk)⟩
  ·have hr:=run_endLoop (P:=P) hl (by rw [hmk];simp)
   rw [hmk] at hr
   exact⟨some c,_,hr,hstop _ c pre _ (Nat.le_refl _) hSp ((hIx c).putObj _ hi hB hl (by rw [hmk];rfl)) ((World.putObj_heap_other (by omega)).trans hk)⟩
end
end
section
open Go Go.RowKit
structure Chg (M:Nat→Prop) (W W':World):Prop where
 os:W'.os=W.os
 tape:W'.tape=W.tape
 output:W'.output=W.output
 size:W.heap.size≤W'.heap.size
 block:∀ k,k<W.heap.size→¬ M k→W'.heap[k]?=W.heap[k]?
theorem Chg.refl (M:Nat→Prop) (W:World):Chg M W W:=⟨rfl,rfl,rfl,Nat.le_refl _,fun _ _ _=>rfl⟩
end
section
open Go Go.RowKit
attribute [local go_sem] Oper.semAt_some
structure LowF (n₀ b1 b2 b3:Nat) (w W:World):Prop where
 low:Below n₀ w W
 x1:W.heap[b1]?=w.heap[b1]?
 x2:W.heap[b2]?=w.heap[b2]?
 x3:W.heap[b3]?=w.heap[b3]?
theorem LowF.far {n₀ b1 b2 b3 B:Nat} {w Z W W':World} (h:LowF n₀ b1 b2 b3 w W) (h0:n₀≤B) (h1:b1<B) (h2:b2<B) (h3:b3<B) (hB:w.heap.size≤Z.heap.size) (k1:Below B Z W) (k2:Below B Z W'):LowF n₀ b1 b2 b3 w W' :=
 have e:∀ k,k<B→W'.heap[k]?=W.heap[k]?:=fun k hk=>(k2.block k hk).trans (k1.block k hk).symm
 ⟨⟨k2.os.trans (k1.os.symm.trans h.low.os),k2.tape.trans (k1.tape.symm.trans h.low.tape),k2.output.trans (k1.output.symm.trans h.low.output),Nat.le_trans hB k2.size,fun k hk=>(e k (by omega)).trans (h.low.block k hk)⟩,
  (e b1 h1).trans h.x1,(e b2 h2).trans h.x2,(e b3 h3).trans h.x3⟩
end
section
open Go Go.RowKit
attribute [local go_sem] Oper.semAt_some
structure KeptW (Ks:Nat→Prop) (w W:World):Prop where
 os:W.os=w.os
 tape:W.tape=w.tape
 output:W.output=w.output
 size:w.heap.size≤W.heap.size
 block:∀ k,Ks k→W.heap[k]?=w.heap[k]?
theorem KeptW.trans {Ks:Nat→Prop} {a b c:World} (h:KeptW Ks a b) (g:KeptW Ks b c):KeptW Ks a c:=⟨g.os.trans h.os,g.tape.trans h.tape,g.output.trans h.output,Nat.le_trans h.size g.size,fun k hk=>(g.block k hk).trans (h.block k hk)⟩
theorem KeptW.of_below {Ks:Nat→Prop} {B:Nat} {a b:World} (hl:∀ k,Ks k→k<B) (h:Below B a b):KeptW Ks a b:=⟨h.os,h.tape,h.output,h.size,fun k hk=>h.block k (hl k hk)⟩
structure YwT where
 x:Sq
 q:Option Addr
 c:Nat
def ywE (F:Sq→List Sq) (y:YwT):Array Value:=#[.agg #[.int .i64 y.x.s,.int .i64 y.x.r,.int .i64 y.x.v,.int .i64 y.x.d],.slice y.q (F y.x).length y.c]
def ywA (F:Sq→List Sq) (M:List Sq) (V0:World) (pre:List YwT) (y:YwT) (V:World):Prop:=Sep V0 V [.own 138 4 y.q (F y.x).length y.c (encQ (F y.x))]∧(pre ++ [y]).map (·.x)=M.take (pre.length+1)∧pre.length<M.length
theorem WorkG (gw:Nat) (w:World):Calls Tryz.prog 147 #[.pointer (some ⟨gw,0,none⟩)] w fun e w'=>e=.returned (.func (.func 212) #[] #[.pointer (some ⟨w.heap.size,0,none⟩)])∧w'=w.alloc (.cells #[.pointer (some ⟨gw,0,none⟩)] 203):=by
 go_enter Tryz.func147,Tryz.ntmps147
 go_wp2
 go_ret
 exact⟨rfl,rfl⟩
theorem workIt (n1:Nat) (hn1:1≤n1) (k f t:Int) (pw:Option Addr) (nw cw:Nat) (rad most:Int) (po:Option Addr) (no co:Nat) (pt:Option Addr) (nt ct:Nat) (pr:Option Addr) (nr cr:Nat) (pv:Option Addr) (nv cv:Nat) (gb gw:Nat) (pm:Option Addr) (nm cm:Nat) (M:List Sq) (F:Sq→List Sq) (Ks:Nat→Prop) (w:World) (hKl:∀ k,Ks k→k<w.heap.size)
  (hF:∀ W,KeptW Ks w W→Blk W gb 203 #[.pointer (some ⟨gw,0,none⟩)]∧Blk W gw 206 #[.int .i64 k,.int .i64 f,.int .i64 t,.slice pw nw cw,.int .i64 rad,.int .i64 most,.slice po no co,.slice pt nt ct,.slice pr nr cr,.slice pv nv cv,.slice pm nm cm,.int .i64 0]∧Rd W 4 pm nm (encQ M))
  (HN:∀ x∈M,∀ W,KeptW Ks w W→Calls Tryz.prog 213 #[.agg #[.int .i64 k,.int .i64 f,.int .i64 t,.slice pw nw cw,.int .i64 rad,.int .i64 most],.agg #[.slice po no co,.slice pt nt ct,.slice pr nr cr,.slice pv nv cv],.agg #[.int .i64 x.s,.int .i64 x.r,.int .i64 x.v,.int .i64 x.d]] W fun e w'=>∃ q c,e=.returned (.tuple #[.slice q (F x).length c,.int .i64 0])∧Sep W w' [.own 138 4 q (F x).length c (encQ (F x))]) :
  SeqC Fence.wide n1 Tryz.prog 212 #[.pointer (some ⟨gb,0,none⟩)] (ywE F) (ywA F M) (KeptW Ks) (fun xs=>xs.map (·.x)=M) (fun _=>True) (fun _=>True) w:=by
 intro l J Jx W hW hJ hJx _ hY h0
 have hKW:KeptW Ks w W:=.of_below hKl hW
 have hws:=hW.size
 obtain⟨B1,B2,hM⟩:=hF W hKW
 have c10:=B1.cell 0
 have c20:=B2.cell 10
 have z1:=B1.lt
 have z2:=B2.lt
 have p1:=hM.ptr
 have n2:=hM.small
 have LM:=Lib.hid hM.nQ
 have HF:=Lib.hid hF
 have HNX:=Lib.hid HN
 have HKL:=Lib.hid hKl
 have HJ:=Lib.hid hJ;clear hJ
 have HY:=Lib.hid hY;clear hY
 clear hJx hW HN hF hM B1 B2 hKl
 simp at c10 c20
 refine callsIn_of_wp Tryz.func212 rfl trivial ?_ rfl
 simp only [Tryz.ntmps212,List.size_toArray,List.length_cons,List.length_nil,Nat.reduceAdd,Nat.reduceSub,Array.replicate_succ,Array.replicate_zero,List.push_toArray,List.append_toArray,List.nil_append,List.cons_append]
 refine wpIn_seq_k fun K hK=>wpIn_wide.2 ?_
 go_wp2
 gi_wp2
 gi_loopw [4,5,6,7,13] (fun _ _ _ _ v13 wr=>∃ (j:Nat) (pre:List YwT),j≤nm∧v13=.int .i64 j∧Hid (pre.map (·.x)=M.take j∧pre.length=j)∧Hid (J pre wr)∧Hid (KeptW Ks w wr)∧W.heap.size≤wr.heap.size) (fun _ _ _ _ v13 _=>nm - (intOf v13).toNat)
 case atStart=>exact⟨0,[],Nat.zero_le _,rfl,⟨rfl,rfl⟩,h0,hKW,Nat.le_refl _⟩
 case round =>
  clear h0 hKW c10 c20 z1 z2
  obtain⟨j,pre,hj,rfl,HP,HJ1,HK1,hsz⟩:=hrel
  by_cases hlt:j<nm
  ·obtain⟨B1,B2,hMr⟩:=HF.out wr HK1.out
   obtain⟨g1,g2,g3,g4⟩:=hMr.cQ hlt
   have hjl:j<M.length:=by rw [← LM.out];exact hlt
   have HT:=Lib.hid (take_succ_nth M j hjl)
   have HNJ:=Lib.hid (HNX.out (nth M j) (nth_mem hjl))
   obtain⟨x,hxl⟩:∃ x,nth M j=x:=⟨_,rfl⟩
   rw [hxl] at g1 g2 g3 g4 HT HNJ
   have S1:=Lib.hid (((Sep.start wr).al #[.int .i64 x.s,.int .i64 x.r,.int .i64 x.v,.int .i64 x.d] 138 wr.heap.size rfl).al #[.int .i64 x.s,.int .i64 x.r,.int .i64 x.v,.int .i64 x.d] 146 (wr.heap.size+1) (by simp))
   have HB1:=Lib.hid (B1.ext S1.out.ext)
   have HB2:=Lib.hid (B2.ext S1.out.ext)
   have d1:(0:Int)≤j:=by omega
   have d2:(j:Int)<nm:=by omega
   clear hxl B1 B2 hMr hjl
   gi_wp2
   refine wpIn_wide.2 ?_
   obtain⟨X,hX⟩:∃ X,(wr.alloc (.cells #[.int .i64 x.s,.int .i64 x.r,.int .i64 x.v,.int .i64 x.d] 138)).alloc (.cells #[.int .i64 x.s,.int .i64 x.r,.int .i64 x.v,.int .i64 x.d] 146)=X:=⟨_,rfl⟩
   rw [hX] at S1 HB1 HB2 ⊢
   clear hX g1 g2 g3 g4
   refine wp_region_held_drew (S:=fun W=>Blk W gb 203 #[.pointer (some ⟨gw,0,none⟩)]∧Blk W gw 206 #[.int .i64 k,.int .i64 f,.int .i64 t,.slice pw nw cw,.int .i64 rad,.int .i64 most,.slice po no co,.slice pt nt ct,.slice pr nr cr,.slice pv nv cv,.slice pm nm cm,.int .i64 0]∧Blk W (wr.heap.size+1) 146 #[.int .i64 x.s,.int .i64 x.r,.int .i64 x.v,.int .i64 x.d]) (by kernel_rfl) ⟨HB1.out.ext (Below.refl _ _).drew,HB2.out.ext (Below.refl _ _).drew,S1.out.drew.blk 0 rfl⟩ (fun hHeld=>?_)
   have SD:=Lib.hid S1.out.drew
   have BD1:=Lib.hid (HB1.out.ext (Below.refl _ _).drew)
   have BD2:=Lib.hid (HB2.out.ext (Below.refl _ _).drew)
   clear S1 HB1 HB2
   generalize X.drew=D at SD BD1 BD2 hHeld ⊢
   clear X
   refine wpAnyH_take (i:=0) (v:=.pointer (some ⟨gw,0,none⟩)) rfl (by kernel_rfl) (by kernel_rfl) (by kernel_rfl) (fun _ _ _ h=>h) (Or.inl ⟨by kernel_rfl,fun W hSw=>by have h0:=hSw.1.cell 0;have hz:=hSw.1.lt;clear hSw;go_simp⟩) hHeld ?_
   refine wpAnyH_take (i:=1) (v:=.pointer (some ⟨gw,0,none⟩)) rfl (by kernel_rfl) (by kernel_rfl) (by kernel_rfl) (fun _ _ _ h=>h) (Or.inl ⟨by kernel_rfl,fun W hSw=>by have hz:=hSw.2.1.lt;have hy:=(show W.heap[gw]?=_ from hSw.2.1);clear hSw;go_simp⟩) hHeld ?_
   refine wpAnyH_take (i:=2) (v:=.pointer (some ⟨gw,0,none⟩)) rfl (by kernel_rfl) (by kernel_rfl) (by kernel_rfl) (fun _ _ _ h=>h) (Or.inl ⟨by kernel_rfl,fun W hSw=>by skip;clear hSw;go_simp⟩) hHeld ?_
   refine wpAnyH_take (i:=3) (v:=.agg #[.int .i64 k,.int .i64 f,.int .i64 t,.slice pw nw cw,.int .i64 rad,.int .i64 most]) rfl (by kernel_rfl) (by kernel_rfl) (by kernel_rfl) (fun _ _ _ h=>h) (Or.inl ⟨by kernel_rfl,fun W hSw=>by have h0:=hSw.2.1.cell 0;have h1:=hSw.2.1.cell 1;have h2:=hSw.2.1.cell 2;have h3:=hSw.2.1.cell 3;have h4:=hSw.2.1.cell 4;have h5:=hSw.2.1.cell 5;clear hSw;go_simp⟩) hHeld ?_
   refine wpAnyH_take (i:=4) (v:=.pointer (some ⟨gw,0,none⟩)) rfl (by kernel_rfl) (by kernel_rfl) (by kernel_rfl) (fun _ _ _ h=>h) (Or.inl ⟨by kernel_rfl,fun W hSw=>by have h0:=hSw.1.cell 0;have hz:=hSw.1.lt;clear hSw;go_simp⟩) hHeld ?_
   refine wpAnyH_take (i:=5) (v:=.pointer (some ⟨gw,0,none⟩)) rfl (by kernel_rfl) (by kernel_rfl) (by kernel_rfl) (fun _ _ _ h=>h) (Or.inl ⟨by kernel_rfl,fun W hSw=>by have hz:=hSw.2.1.lt;have hy:=(show W.heap[gw]?=_ from hSw.2.1);clear hSw;go_simp⟩) hHeld ?_
   refine wpAnyH_take (i:=6) (v:=.pointer (some ⟨gw,6,none⟩)) rfl (by kernel_rfl) (by kernel_rfl) (by kernel_rfl) (fun _ _ _ h=>h) (Or.inl ⟨by kernel_rfl,fun W hSw=>by skip;clear hSw;go_simp⟩) hHeld ?_
   refine wpAnyH_take (i:=7) (v:=.agg #[.slice po no co,.slice pt nt ct,.slice pr nr cr,.slice pv nv cv]) rfl (by kernel_rfl) (by kernel_rfl) (by kernel_rfl) (fun _ _ _ h=>h) (Or.inl ⟨by kernel_rfl,fun W hSw=>by have h0:=hSw.2.1.cell 6;have h1:=hSw.2.1.cell 7;have h2:=hSw.2.1.cell 8;have h3:=hSw.2.1.cell 9;clear hSw;go_simp⟩) hHeld ?_
   refine wpAnyH_take (i:=8) (v:=.agg #[.int .i64 x.s,.int .i64 x.r,.int .i64 x.v,.int .i64 x.d]) rfl (by kernel_rfl) (by kernel_rfl) (by kernel_rfl) (fun _ _ _ h=>h) (Or.inl ⟨by kernel_rfl,fun W hSw=>by have h0:=hSw.2.2.cell 0;have h1:=hSw.2.2.cell 1;have h2:=hSw.2.2.cell 2;have h3:=hSw.2.2.cell 3;clear hSw;go_simp⟩) hHeld ?_
   refine wpAnyH_ready (rs:=[9]) (by kernel_rfl) (by simp) (AllReadyH.cons rfl (fun K hK=>?_) AllReadyH.nil)
   go_simp
   have HKD:=Lib.hid (HK1.out.trans (.of_below (fun k hk=>Nat.lt_of_lt_of_le (HKL.out k hk) (Nat.le_trans hws hsz)) SD.out.ext))
   refine(HNJ.out D HKD.out).mono ?_
   rintro e w1 ⟨q,c,rfl,Z⟩
   have S2:=Lib.hid (SD.out.comp Z)
   have HB1:=Lib.hid (BD1.out.ext Z.ext)
   have HB2:=Lib.hid (BD2.out.ext Z.ext)
   clear Z SD BD1 BD2 HKD
   refine hK.out _ _ ⟨HB1.out,HB2.out,S2.out.blk 1 rfl⟩ (fun hHeld=>?_)
   clear hK
   refine wpAnyH_take (i:=10) (v:=.tuple #[.slice q (F x).length c,.int .i64 0]) rfl (by kernel_rfl) (by kernel_rfl) (by kernel_rfl) (fun _ _ _ h=>h) (Or.inl ⟨by kernel_rfl,fun W hSw=>by skip;clear hSw;go_simp⟩) hHeld ?_
   refine wpAnyH_take (i:=11) (v:=.slice q (F x).length c) rfl (by kernel_rfl) (by kernel_rfl) (by kernel_rfl) (fun _ _ _ h=>h) (Or.inl ⟨by kernel_rfl,fun W hSw=>by skip;clear hSw;go_simp⟩) hHeld ?_
   refine wpAnyH_take (i:=12) (v:=.int .i64 0) rfl (by kernel_rfl) (by kernel_rfl) (by kernel_rfl) (fun _ _ _ h=>h) (Or.inl ⟨by kernel_rfl,fun W hSw=>by skip;clear hSw;go_simp⟩) hHeld ?_
   refine wpAnyH_take (i:=13) (v:=.slice q (F x).length c) rfl (by kernel_rfl) (by kernel_rfl) (by kernel_rfl) (fun _ _ _ h=>h) (Or.inl ⟨by kernel_rfl,fun W hSw=>by skip;clear hSw;go_simp⟩) hHeld ?_
   refine wpAnyH_take (i:=14) (v:=.int .i64 0) rfl (by kernel_rfl) (by kernel_rfl) (by kernel_rfl) (fun _ _ _ h=>h) (Or.inl ⟨by kernel_rfl,fun W hSw=>by skip;clear hSw;go_simp⟩) hHeld ?_
   refine wpAnyH_done (by kernel_rfl) ?_ _
   obtain⟨a0,a1,a2,a3,az⟩:=bkc0c1c2c3l (S2.out.blk 1 rfl)
   have HK2:=Lib.hid (HK1.out.trans (.of_below (fun k hk=>Nat.lt_of_lt_of_le (HKL.out k hk) (Nat.le_trans hws hsz)) S2.out.ext))
   have hs2:W.heap.size≤w1.heap.size:=Nat.le_trans hsz S2.out.ext.size
   have HP2:Hid ((pre ++ [(⟨x,q,c⟩:YwT)]).map (·.x)=M.take (j+1)∧(pre ++ [(⟨x,q,c⟩:YwT)]).length=j+1):=by
    refine⟨?_,by rw [List.length_append,HP.out.2];rfl⟩
    rw [List.map_append,HP.out.1,HT.out];rfl
   obtain⟨fn,tmps,assign,body,hy,hR⟩:=HY.out pre ⟨x,q,c⟩ wr w1 HJ1.out S2.out.ext ⟨S2.out.pick [0] (by decide) rfl,by rw [HP2.out.1,HP.out.2],by rw [HP.out.2,← LM.out];exact hlt⟩
   have hy2:(Instr.yield l #[.agg #[.int .i64 x.s,.int .i64 x.r,.int .i64 x.v,.int .i64 x.d],.slice q (F x).length c]).run Tryz.prog w1=_:=hy
   clear hHeld S2 HB1 HB2 hy
   simp [Act.put]
   gi_wp2
   refine hR.mono ?_
   rintro e W3 (⟨rfl,hJ3,hk3⟩ | ⟨rfl,hJx3⟩)
   ·have HJ3:=Lib.hid hJ3
    have HK3:=Lib.hid (HK2.out.trans hk3)
    have hs3:W.heap.size≤W3.heap.size:=Nat.le_trans hs2 hk3.size
    clear hJ3 hk3 hR hy2 HK2
    gi_wp2
    go_roundw
    case rel=>exact⟨j+1,pre ++ [⟨x,q,c⟩],by omega,by go_num,HP2,HJ3,HK3,hs3⟩
    case measure=>simp [intOf];omega
   ·have HX3:=Lib.hid hJx3
    clear hJx3 hR hy2 HK2
    gi_wp2
    refine bodyPost_ret (results_none rfl _ _ _) rfl ?_
    exact⟨⟨_,rfl⟩,.inr ⟨_,HX3.out⟩⟩
  ·obtain rfl:j=nm:=by omega
   have HPE:Hid (pre.map (·.x)=M):=by
    unfold Hid
    rw [HP.out.1,List.take_of_length_le (by rw [← LM.out];exact Nat.le_refl _)]
   gi_wp2
   go_end0
   exact⟨⟨_,rfl⟩,.inl ⟨pre,HPE.out,HJ1.out⟩⟩
end
section
open Go Go.RowKit
def markD (D:Nat):Deferred:={ target:=.collected D,args:=#[] }
def MarksB (B:Nat) (Ds:List Nat) (w:World):Prop:=Ds.Nodup∧∀ D∈Ds,B≤D∧w.heap[D]?=some (.deferred (some []))
theorem marks_nil (B:Nat) (w:World):MarksB B [] w:=⟨List.nodup_nil,fun _ h=>nomatch h⟩
theorem MarksB.keeps {B:Nat} {Ds:List Nat} {w w':World} (h:MarksB B Ds w) (k:KeepsOthers w w'):MarksB B Ds w':=⟨h.1,fun D hD=>⟨(h.2 D hD).1,k.same _ _ (h.2 D hD).2 rfl⟩⟩
theorem MarksB.ext {B:Nat} {Ds:List Nat} {w w':World} (h:MarksB B Ds w) (k:Ext w w'):MarksB B Ds w':=h.keeps (keeps_ext k)
theorem MarksB.lt {B:Nat} {Ds:List Nat} {w:World} (h:MarksB B Ds w):∀ D∈Ds,D<w.heap.size:=fun D hD=>(Array.getElem?_eq_some_iff.1 (h.2 D hD).2).1
theorem MarksB.cons {B D:Nat} {Ds:List Nat} {w:World} (h:MarksB B Ds w) (hD:D ∉ Ds) (hB:B≤D) (hw:w.heap[D]?=some (.deferred (some []))):MarksB B (D :: Ds) w :=
 ⟨List.nodup_cons.2 ⟨hD,h.1⟩,fun E hE=>by
  rcases List.mem_cons.1 hE with rfl | hE
  ·exact⟨hB,hw⟩
  ·exact h.2 E hE⟩
theorem leaves_marks {F:Fence} {n:Nat} {P:Program} {fn:Func} {tmps:Array Value} {R:Ending→World→Prop} (G:World→Prop) (B:Nat) (hG:∀ (w:World) D,B≤D→w.heap[D]?=some (.deferred (some []))→G w→G (w.putObj D (.deferred none)))
  (hR:∀ w,G w→∃ v,(results fn tmps).run P w=.ok v w∧R (.returned v) w):∀ (Ds:List Nat) (w:World),MarksB B Ds w→G w→LeavesInM F n P fn tmps R (Ds.map markD) .returning w
 | [],w,_,hg=>hR w hg
 | D :: Ds,w,hM,hg=>by
  obtain⟨h1,h2⟩:=hM
  obtain⟨hB,hD⟩:=h2 D (List.mem_cons_self ..)
  obtain⟨hn,hd⟩:=List.nodup_cons.1 h1
  exact⟨by simp,.inl ⟨D,_,rfl,run_takeDeferred hD,leaves_marks G B hG hR Ds _ ⟨hd,fun E hE=>⟨(h2 E (List.mem_cons_of_mem _ hE)).1,(World.putObj_heap_other (by intro e;subst e;exact hn hE)).trans (h2 E (List.mem_cons_of_mem _ hE)).2⟩⟩ (hG w D hB hD hg)⟩⟩
end
section
open Go Go.RowKit
theorem loopStep {P:Program} {Q:Exit→Act→World→Prop} {w:World} {c:Code} (x0 x1 x2 x3 x4 x5 x6 x7 x8 x9 x10 x11 x12 x13 x14 x15 x16 x17 x19 x20 x21 x22 x23 x29 x30 x31 x32 x33 x34 x35 x36 x37 x38 x39 x40 x41 x42 x43 x44 x45 x46 x47 x48 x49 x50 x51 x52 x53 x54 x55 x56 x57 x58 x59 x60 x61 x62 x63 x64 x65 x66 x67 x68 x69 x70 x71 x72 x73 x74 x75 x76 x111 x112 x113 x114 x115 x116 x117 x118 x119:Value) (y18 y24 y25 y26 y27 y28 y77 y78 y79 y80 y81 y82 y83 y84 y85 y86 y87 y88 y89 y90 y91 y92 y93 y94 y95 y96 y97 y98 y99 y100 y101 y102 y103 y104 y105 y106 y107 y108 y109 y110:Value) (ds0:List Deferred)
  (R:Nat→Value→Value→List Deferred→World→Prop) (n0:Nat) (h0:R n0 y18 y77 ds0 w)
  (round:∀ (n:Nat) (u18 u24 u25 u26 u27 u28 u77 u78 u79 u80 u81 u82 u83 u84 u85 u86 u87 u88 u89 u90 u91 u92 u93 u94 u95 u96 u97 u98 u99 u100 u101 u102 u103 u104 u105 u106 u107 u108 u109 u110:Value) (ds:List Deferred) (wr:World),R n u18 u77 ds wr→∀ K:Act→World→Prop,(∀ (n':Nat) (u18' u24' u25' u26' u27' u28' u77' u78' u79' u80' u81' u82' u83' u84' u85' u86' u87' u88' u89' u90' u91' u92' u93' u94' u95' u96' u97' u98' u99' u100' u101' u102' u103' u104' u105' u106' u107' u108' u109' u110':Value) (ds':List Deferred) (w':World),n'<n→R n' u18' u77' ds' w'→K { tmps:=#[x0,x1,x2,x3,x4,x5,x6,x7,x8,x9,x10,x11,x12,x13,x14,x15,x16,x17,u18',x19,x20,x21,x22,x23,u24',u25',u26',u27',u28',x29,x30,x31,x32,x33,x34,x35,x36,x37,x38,x39,x40,x41,x42,x43,x44,x45,x46,x47,x48,x49,x50,x51,x52,x53,x54,x55,x56,x57,x58,x59,x60,x61,x62,x63,x64,x65,x66,x67,x68,x69,x70,x71,x72,x73,x74,x75,x76,u77',u78',u79',u80',u81',u82',u83',u84',u85',u86',u87',u88',u89',u90',u91',u92',u93',u94',u95',u96',u97',u98',u99',u100',u101',u102',u103',u104',u105',u106',u107',u108',u109',u110',x111,x112,x113,x114,x115,x116,x117,x118,x119],defers:=ds' } w') →
   c.wp P (Exit.then K Q) { tmps:=#[x0,x1,x2,x3,x4,x5,x6,x7,x8,x9,x10,x11,x12,x13,x14,x15,x16,x17,u18,x19,x20,x21,x22,x23,u24,u25,u26,u27,u28,x29,x30,x31,x32,x33,x34,x35,x36,x37,x38,x39,x40,x41,x42,x43,x44,x45,x46,x47,x48,x49,x50,x51,x52,x53,x54,x55,x56,x57,x58,x59,x60,x61,x62,x63,x64,x65,x66,x67,x68,x69,x70,x71,x72,x73,x74,x75,x76,u77,u78,u79,u80,u81,u82,u83,u84,u85,u86,u87,u88,u89,u90,u91,u92,u93,u94,u95,u96,u97,u98,u99,u100,u101,u102,u103,u104,u105,u106,u107,u108,u109,u110,x111,x112,x113,x114,x115,x116,x117,x118,x119],defers:=ds } wr):(Code.loop c).wp P Q { tmps:=#[x0,x1,x2,x3,x4,x5,x6,x7,x8,x9,x10,x11,x12,x13,x14,x15,x16,x17,y18,x19,x20,x21,x22,x23,y24,y25,y26,y27,y28,x29,x30,x31,x32,x33,x34,x35,x36,x37,x38,x39,x40,x41,x42,x43,x44,x45,x46,x47,x48,x49,x50,x51,x52,x53,x54,x55,x56,x57,x58,x59,x60,x61,x62,x63,x64,x65,x66,x67,x68,x69,x70,x71,x72,x73,x74,x75,x76,y77,y78,y79,y80,y81,y82,y83,y84,y85,y86,y87,y88,y89,y90,y91,y92,y93,y94,y95,y96,y97,y98,y99,y100,y101,y102,y103,y104,y105,y106,y107,y108,y109,y110,x111,x112,x113,x114,x115,x116,x117,x118,x119],defers:=ds0 } w:=by
 refine wp_loop_ghost_k (fun n a w=>∃ u18 u24 u25 u26 u27 u28 u77 u78 u79 u80 u81 u82 u83 u84 u85 u86 u87 u88 u89 u90 u91 u92 u93 u94 u95 u96 u97 u98 u99 u100 u101 u102 u103 u104 u105 u106 u107 u108 u109 u110 ds,R n u18 u77 ds w∧a={ tmps:=#[x0,x1,x2,x3,x4,x5,x6,x7,x8,x9,x10,x11,x12,x13,x14,x15,x16,x17,u18,x19,x20,x21,x22,x23,u24,u25,u26,u27,u28,x29,x30,x31,x32,x33,x34,x35,x36,x37,x38,x39,x40,x41,x42,x43,x44,x45,x46,x47,x48,x49,x50,x51,x52,x53,x54,x55,x56,x57,x58,x59,x60,x61,x62,x63,x64,x65,x66,x67,x68,x69,x70,x71,x72,x73,x74,x75,x76,u77,u78,u79,u80,u81,u82,u83,u84,u85,u86,u87,u88,u89,u90,u91,u92,u93,u94,u95,u96,u97,u98,u99,u100,u101,u102,u103,u104,u105,u106,u107,u108,u109,u110,x111,x112,x113,x114,x115,x116,x117,x118,x119],defers:=ds }) n0 ⟨y18,y24,y25,y26,y27,y28,y77,y78,y79,y80,y81,y82,y83,y84,y85,y86,y87,y88,y89,y90,y91,y92,y93,y94,y95,y96,y97,y98,y99,y100,y101,y102,y103,y104,y105,y106,y107,y108,y109,y110,ds0,h0,rfl⟩ ?_
 rintro n a wr ⟨u18,u24,u25,u26,u27,u28,u77,u78,u79,u80,u81,u82,u83,u84,u85,u86,u87,u88,u89,u90,u91,u92,u93,u94,u95,u96,u97,u98,u99,u100,u101,u102,u103,u104,u105,u106,u107,u108,u109,u110,ds,hR,rfl⟩ J K hJ hK
 exact round n u18 u24 u25 u26 u27 u28 u77 u78 u79 u80 u81 u82 u83 u84 u85 u86 u87 u88 u89 u90 u91 u92 u93 u94 u95 u96 u97 u98 u99 u100 u101 u102 u103 u104 u105 u106 u107 u108 u109 u110 ds wr hR K fun n' u18' u24' u25' u26' u27' u28' u77' u78' u79' u80' u81' u82' u83' u84' u85' u86' u87' u88' u89' u90' u91' u92' u93' u94' u95' u96' u97' u98' u99' u100' u101' u102' u103' u104' u105' u106' u107' u108' u109' u110' ds' w' hlt hR'=>hK _ _ ⟨n',hlt,hJ _ _ _ ⟨u18',u24',u25',u26',u27',u28',u77',u78',u79',u80',u81',u82',u83',u84',u85',u86',u87',u88',u89',u90',u91',u92',u93',u94',u95',u96',u97',u98',u99',u100',u101',u102',u103',u104',u105',u106',u107',u108',u109',u110',ds',hR',rfl⟩⟩
def frStep (a21 a22 a27 a28:Value) (b:Act):Prop:=∃ u0 u1 u2 u3 u4 u5 u6 u7 u8 u9 u10 u11 u12 u13 u14 u15 u16 u17 u18 u19 u20 u23 u24 u25 u26 u29 u30 u31 u32 u33 u34 u35 u36 u37 u38 u39 u40 u41 u42 u43 u44 u45 u46 u47 u48 u49 u50 u51 u52 u53 u54 u55 u56 u57 u58 u59 u60 u61 u62 u63 u64 u65 u66 u67 u68 u69 u70 u71 u72 u73 u74 u75 u76 u77 u78 u79 u80 u81 u82 u83 u84 u85 u86 u87 u88 u89 u90 u91 u92 u93 u94 u95 u96 u97 u98 u99 u100 u101 u102 u103 u104 u105 u106 u107 u108 u109 u110 u111 u112 u113 u114 u115 u116 u117 u118 u119:Value,b={ tmps:=#[u0,u1,u2,u3,u4,u5,u6,u7,u8,u9,u10,u11,u12,u13,u14,u15,u16,u17,u18,u19,u20,a21,a22,u23,u24,u25,u26,a27,a28,u29,u30,u31,u32,u33,u34,u35,u36,u37,u38,u39,u40,u41,u42,u43,u44,u45,u46,u47,u48,u49,u50,u51,u52,u53,u54,u55,u56,u57,u58,u59,u60,u61,u62,u63,u64,u65,u66,u67,u68,u69,u70,u71,u72,u73,u74,u75,u76,u77,u78,u79,u80,u81,u82,u83,u84,u85,u86,u87,u88,u89,u90,u91,u92,u93,u94,u95,u96,u97,u98,u99,u100,u101,u102,u103,u104,u105,u106,u107,u108,u109,u110,u111,u112,u113,u114,u115,u116,u117,u118,u119],defers:=[] }
theorem frStep_of {a21 a22 a27 a28 u0 u1 u2 u3 u4 u5 u6 u7 u8 u9 u10 u11 u12 u13 u14 u15 u16 u17 u18 u19 u20 u23 u24 u25 u26 u29 u30 u31 u32 u33 u34 u35 u36 u37 u38 u39 u40 u41 u42 u43 u44 u45 u46 u47 u48 u49 u50 u51 u52 u53 u54 u55 u56 u57 u58 u59 u60 u61 u62 u63 u64 u65 u66 u67 u68 u69 u70 u71 u72 u73 u74 u75 u76 u77 u78 u79 u80 u81 u82 u83 u84 u85 u86 u87 u88 u89 u90 u91 u92 u93 u94 u95 u96 u97 u98 u99 u100 u101 u102 u103 u104 u105 u106 u107 u108 u109 u110 u111 u112 u113 u114 u115 u116 u117 u118 u119:Value}:frStep a21 a22 a27 a28 { tmps:=#[u0,u1,u2,u3,u4,u5,u6,u7,u8,u9,u10,u11,u12,u13,u14,u15,u16,u17,u18,u19,u20,a21,a22,u23,u24,u25,u26,a27,a28,u29,u30,u31,u32,u33,u34,u35,u36,u37,u38,u39,u40,u41,u42,u43,u44,u45,u46,u47,u48,u49,u50,u51,u52,u53,u54,u55,u56,u57,u58,u59,u60,u61,u62,u63,u64,u65,u66,u67,u68,u69,u70,u71,u72,u73,u74,u75,u76,u77,u78,u79,u80,u81,u82,u83,u84,u85,u86,u87,u88,u89,u90,u91,u92,u93,u94,u95,u96,u97,u98,u99,u100,u101,u102,u103,u104,u105,u106,u107,u108,u109,u110,u111,u112,u113,u114,u115,u116,u117,u118,u119],defers:=[] }:=⟨u0,u1,u2,u3,u4,u5,u6,u7,u8,u9,u10,u11,u12,u13,u14,u15,u16,u17,u18,u19,u20,u23,u24,u25,u26,u29,u30,u31,u32,u33,u34,u35,u36,u37,u38,u39,u40,u41,u42,u43,u44,u45,u46,u47,u48,u49,u50,u51,u52,u53,u54,u55,u56,u57,u58,u59,u60,u61,u62,u63,u64,u65,u66,u67,u68,u69,u70,u71,u72,u73,u74,u75,u76,u77,u78,u79,u80,u81,u82,u83,u84,u85,u86,u87,u88,u89,u90,u91,u92,u93,u94,u95,u96,u97,u98,u99,u100,u101,u102,u103,u104,u105,u106,u107,u108,u109,u110,u111,u112,u113,u114,u115,u116,u117,u118,u119,rfl⟩
end
section
open Go Go.RowKit
theorem ordw_len {ord:List Int} {w:Nat} (h:ord.Perm ((List.range w).map fun v:Nat=>(v:Int))):ord.length=w:=by rw [h.length_eq];simp
theorem ordw_nodup {ord:List Int} {w:Nat} (h:ord.Perm ((List.range w).map fun v:Nat=>(v:Int))):(ord.map Int.toNat).Perm (List.range w):=by
 have:=h.map Int.toNat
 rw [List.map_map] at this
 have e:(Int.toNat ∘ fun v:Nat=>(v:Int))=id:=by funext v;simp
 rw [e,List.map_id] at this
 exact this
theorem ordw_at {ord:List Int} {w j:Nat} (h:ord.Perm ((List.range w).map fun v:Nat=>(v:Int))) (hj:j<w) :
  ∃ k:Nat,nth ord j=(k:Int)∧k<w∧k ∉ (ord.take j).map Int.toNat∧(ord.take (j+1)).map Int.toNat=(ord.take j).map Int.toNat ++ [k]:=by
 have hl:=ordw_len h
 have hjl:j<ord.length:=by omega
 have hm:nth ord j∈ord:=by rw [nth_eq hjl];exact List.getElem_mem _
 obtain⟨k,hk,he⟩:=List.mem_map.1 (h.mem_iff.1 hm)
 have he:(k:Int)=nth ord j:=he
 have hn:=(ordw_nodup h).nodup_iff.2 List.nodup_range
 have e:(ord.take (j+1)).map Int.toNat=(ord.take j).map Int.toNat ++ [k]:=by
  rw [take_succ_nth ord j hjl,List.map_append,← he];rfl
 refine⟨k,he.symm,List.mem_range.1 hk,fun hin=>?_,e⟩
 have hd:((ord.take (j+1)).map Int.toNat).Nodup:=by
  rw [List.map_take];exact hn.sublist (List.take_sublist _ _)
 rw [e,List.nodup_append] at hd
 exact hd.2.2 _ hin _ (List.mem_singleton.2 rfl) rfl
theorem ordw_all {ord:List Int} {w:Nat} (h:ord.Perm ((List.range w).map fun v:Nat=>(v:Int))):((ord.take w).map Int.toNat).Perm (List.range w):=by
 rw [List.take_of_length_le (by rw [ordw_len h];exact Nat.le_refl _)]
 exact ordw_nodup h
end
section
open Go Go.RowKit Go.Shelf Go.Lib
attribute [local go_sem] Oper.semAt_some
theorem cell_eq {W W':World} {p:Addr} (h:W'.heap[p.block]?=W.heap[p.block]?):W'.cell? p=W.cell? p:=by unfold World.cell?;rw [h]
end
section
open Go Go.RowKit
structure Cur (gs:Nat) (t:TypeId) (W Z:World) (xs:List Value):Prop where
 size:Z.heap.size=W.heap.size
 chg:Chg (fun k=>k=gs) W Z
 blk:Blk Z gs t xs.toArray
 lt:gs<W.heap.size
theorem Cur.start {gs:Nat} {t:TypeId} {W:World} {xs:List Value} (h:Blk W gs t xs.toArray):Cur gs t W W xs:=⟨rfl,Chg.refl _ _,h,h.lt⟩
theorem Cur.set {gs a:Nat} {t:TypeId} {W Z:World} {xs:List Value} (h:Cur gs t W Z xs) (u:Value):Cur gs t W (Z.setCell ⟨gs,a,none⟩ u) (xs.set a u) :=
 ⟨by simpa using h.size,⟨h.chg.os,h.chg.tape,h.chg.output,by simpa using h.chg.size,fun k hk hne=>by
  rw [Below.heap_setCell Z ⟨gs,a,none⟩ u k hne];exact h.chg.block k hk hne⟩,by
  have:=h.blk.set_ a u
  simpa using this,h.lt⟩
theorem Cur.out {gs:Nat} {t:TypeId} {W Z wx:World} {xs:List Value} (h:Cur gs t W Z xs) (he:Ext Z wx):Chg (fun k=>k=gs) W wx :=
 ⟨he.os.trans h.chg.os,he.tape.trans h.chg.tape,he.output.trans h.chg.output,Nat.le_trans h.chg.size he.size,fun k hk hne=>(he.block k (by rw [h.size];exact hk)).trans (h.chg.block k hk hne)⟩
end
section
open Go Go.RowKit
attribute [local go_sem] Oper.semAt_some
structure KpM (n₀ b1 b2 b3:Nat) (M:Nat→Prop) (W W':World):Prop where
 low:Below n₀ W W'
 x1:W'.heap[b1]?=W.heap[b1]?
 x2:W'.heap[b2]?=W.heap[b2]?
 x3:W'.heap[b3]?=W.heap[b3]?
 up:∀ (k:Nat) (o:Obj),M k→W.heap[k]?=some o→o.isCells=true→W'.heap[k]?=some o
theorem KpM.trans {n₀ b1 b2 b3:Nat} {M:Nat→Prop} {X Y Z:World} (h:KpM n₀ b1 b2 b3 M X Y) (k:KpM n₀ b1 b2 b3 M Y Z):KpM n₀ b1 b2 b3 M X Z :=
 ⟨h.low.trans k.low,k.x1.trans h.x1,k.x2.trans h.x2,k.x3.trans h.x3,fun i o hM h1 h2=>k.up i o hM (h.up i o hM h1 h2) h2⟩
theorem LowF.chg {n₀ b1 b2 b3 gs:Nat} {w W W':World} (h:LowF n₀ b1 b2 b3 w W) (hc:Chg (fun k=>k=gs) W W') (hw:w.heap.size≤W.heap.size) (h0:n₀≤w.heap.size) (h1:b1<w.heap.size) (h2:b2<w.heap.size) (h3:b3<w.heap.size) (hg:w.heap.size≤gs):LowF n₀ b1 b2 b3 w W' :=
 have e:∀ k,k<w.heap.size→W'.heap[k]?=W.heap[k]?:=fun k hk=>hc.block k (by omega) (by omega)
 ⟨⟨hc.os.trans h.low.os,hc.tape.trans h.low.tape,hc.output.trans h.low.output,Nat.le_trans h.low.size hc.size,fun k hk=>(e k (by omega)).trans (h.low.block k hk)⟩,(e b1 h1).trans h.x1,(e b2 h2).trans h.x2,(e b3 h3).trans h.x3⟩
theorem Rd.same {W W':World} {size:Nat} {p:Option Addr} {n:Nat} {xs:List Value} (h:Rd W size p n xs) (he:0<n→W'.heap[(adr p 0).block]?=W.heap[(adr p 0).block]?):Rd W' size p n xs :=
 ⟨h.len,h.ptr,h.small,fun j hj=>by
  have hn:0<n:=by
   rcases Nat.eq_zero_or_pos n with e | e
   ·subst e;simp at hj
   ·exact e
  have e:W'.heap[(adr p j).block]?=W.heap[(adr p j).block]?:=by rw [adr_block];exact he hn
  rw [cell_eq e];exact h.cells j hj⟩
end
section
open Go Go.RowKit Go.Shelf Go.Lib
theorem Sep.chg {w W W':World} {Γ:List Pc} {M:Nat→Prop} (S:Sep w W Γ) (hf:∀ p∈Γ,∀ k,p.foot k→¬ M k) (hM:∀ k,M k→w.heap.size≤k) (hc:Chg M W W'):Sep w W' Γ :=
 ⟨⟨hc.os.trans S.ext.os,hc.tape.trans S.ext.tape,hc.output.trans S.ext.output,Nat.le_trans S.ext.size hc.size,fun k hk=>(hc.block k (Nat.lt_of_lt_of_le hk S.ext.size) fun h=>by have:=hM k h;omega).trans (S.ext.block k hk)⟩,
  fun p hp=>p.loc W W' (S.all p hp) fun k hk=>hc.block k (S.lt hp hk) (hf p hp k hk),S.new,S.apart⟩
def KeepM (w:World) (Γ:List Pc) (M:Nat→Prop) (W:World):Prop:=Sep w W Γ∧(∀ p∈Γ,∀ k,p.foot k→¬ M k)∧∀ k,M k→w.heap.size≤k
theorem KeepM.turn {w W W':World} {Γ:List Pc} {M:Nat→Prop} {row:Option Nat} {B:Nat} (h:KeepM w Γ M W) (hΓ:∀ p∈Γ,p.cells) (hB:w.heap.size≤B) (hg:W.grownBy W' row) (hr:∀ r,row=some r→B≤r∧∃ o:Obj,W.heap[r]?=some o∧o.isCells=false):KeepM w Γ M W':=⟨h.1.turn hΓ hB hg hr,h.2⟩
def Pc.fix (M:Nat→Prop) (W:World):Pc :=
 ⟨M,fun w=>∀ k,M k→k<w.heap.size∧w.heap[k]?=W.heap[k]?,fun w h k hk=>(h k hk).1,fun w w' h hk k hM=>by
  have e:=hk k hM
  obtain⟨h1,h2⟩:=h k hM
  refine⟨?_,e.trans h2⟩
  rw [Array.getElem?_eq_getElem h1] at e
  exact(Array.getElem?_eq_some_iff.1 e).1⟩
def Pc.obj (D:Nat) (o:Obj):Pc :=
 ⟨fun k=>k=D,fun w=>w.heap[D]?=some o,fun w h k hk=>by subst hk;exact(Array.getElem?_eq_some_iff.1 h).1,fun w w' h hk=>(hk D rfl).trans h⟩
theorem KeepM.fix {w W:World} {Γ:List Pc} {M:Nat→Prop} (h:KeepM w Γ M W) (hM:∀ k,M k→k<W.heap.size):Sep w W (Γ ++ [Pc.fix M W]):=by
 refine⟨h.1.ext,fun p hp=>?_,fun p hp k hk=>?_,?_⟩
 ·rcases List.mem_append.1 hp with hp | hp
  ·exact h.1.all p hp
  ·obtain rfl:=List.mem_singleton.1 hp
   exact fun k hk=>⟨hM k hk,rfl⟩
 ·rcases List.mem_append.1 hp with hp | hp
  ·exact h.1.new p hp k hk
  ·obtain rfl:=List.mem_singleton.1 hp
   exact h.2.2 k hk
 ·rw [List.pairwise_append]
  refine⟨h.1.apart,List.pairwise_singleton _ _,fun p hp q hq k hk hk2=>?_⟩
  obtain rfl:=List.mem_singleton.1 hq
  exact h.2.1 p hp k hk hk2
theorem Sep.obj {w W:World} {Γ:List Pc} {D:Nat} {o:Obj} (S:Sep w W Γ) (hΓ:∀ p∈Γ,p.cells) (hD:w.heap.size≤D) (hK:W.heap[D]?=some o) (ho:o.isCells=false):Sep w W (Γ ++ [Pc.obj D o]):=by
 refine⟨S.ext,fun p hp=>?_,fun p hp k hk=>?_,?_⟩
 ·rcases List.mem_append.1 hp with hp | hp
  ·exact S.all p hp
  ·obtain rfl:=List.mem_singleton.1 hp
   exact hK
 ·rcases List.mem_append.1 hp with hp | hp
  ·exact S.new p hp k hk
  ·obtain rfl:=List.mem_singleton.1 hp
   have:k=D:=hk
   omega
 ·rw [List.pairwise_append]
  refine⟨S.apart,List.pairwise_singleton _ _,fun p hp q hq k hk hk2=>?_⟩
  obtain rfl:=List.mem_singleton.1 hq
  have e:k=D:=hk2
  subst e
  obtain⟨o',h1,h2⟩:=hΓ p hp W (S.all p hp) k hk
  rw [hK] at h1
  cases h1
  rw [ho] at h2;cases h2
def BallI {nx:Nat→List Int} {n s:Nat} (w:World) (Γ:Option Addr→List Int→Nat→List Pc) (rad:Int) (pre:List (YlOf nx n s)) (M:Nat→Prop) (W:World):Prop:=∃ q2 c2,KeepM w (Γ q2 (ballP pre) c2) M W∧∀ x∈pre,(x.1.k:Int)≤rad
def BallX {nx:Nat→List Int} {n s:Nat} (w:World) (Γ:Option Addr→List Int→Nat→List Pc) (rad:Int) (pre:List (YlOf nx n s)) (M:Nat→Prop) (W:World):Prop:=∃ (pre':List (YlOf nx n s)) (x:YlOf nx n s),pre=pre' ++ [x]∧rad<(x.1.k:Int)∧BallI w Γ rad pre' M W
theorem BallI.own {nx:Nat→List Int} {n s B:Nat} {w:World} {Γ:Option Addr→List Int→Nat→List Pc} {rad:Int} (hΓ:∀ q l c,∀ p∈Γ q l c,p.cells) (hB:w.heap.size≤B) (M:Nat→Prop):OwnFrom B (fun pre:List (YlOf nx n s)=>BallI w Γ rad pre M):=fun pre _ _ _ h hg hr=>let ⟨q2,c2,h1,h2⟩:=h;⟨q2,c2,h1.turn (hΓ q2 (ballP pre) c2) hB hg hr,h2⟩
theorem BallX.own {nx:Nat→List Int} {n s B:Nat} {w:World} {Γ:Option Addr→List Int→Nat→List Pc} {rad:Int} (hΓ:∀ q l c,∀ p∈Γ q l c,p.cells) (hB:w.heap.size≤B) (M:Nat→Prop):OwnFrom B (fun pre:List (YlOf nx n s)=>BallX w Γ rad pre M):=fun _ W W' row h hg hr=>let ⟨pre',x,e1,e2,h1⟩:=h;⟨pre',x,e1,e2,BallI.own hΓ hB M pre' W W' row h1 hg hr⟩
end
section
open Go Go.RowKit
def footA (A:List Pc):Nat→Prop:=fun k=>∃ p∈A,p.foot k
theorem Sep.fixed {w0 w:World} {A B:List Pc} (S:Sep w0 w (A ++ B)):Sep w0 w (Pc.fix (footA A) w :: B):=by
 have ha:=List.pairwise_append.1 S.apart
 refine⟨S.ext,fun p hp=>?_,fun p hp k hk=>?_,List.pairwise_cons.2 ⟨fun q hq k hk hk2=>?_,ha.2.1⟩⟩
 ·rcases List.mem_cons.1 hp with rfl | hp
  ·exact fun k ⟨p,hp,hk⟩=>⟨S.lt (List.mem_append_left _ hp) hk,rfl⟩
  ·exact S.all p (List.mem_append_right _ hp)
 ·rcases List.mem_cons.1 hp with rfl | hp
  ·obtain⟨p,hp,hk⟩:=hk
   exact S.new p (List.mem_append_left _ hp) k hk
  ·exact S.new p (List.mem_append_right _ hp) k hk
 ·obtain⟨p,hp,hk⟩:=hk
  exact ha.2.2 p hp q hq k hk hk2
theorem fix_cells {w:World} {A:List Pc} (hA:∀ p∈A,p.cells) (h:∀ p∈A,p.holds w):(Pc.fix (footA A) w).cells:=fun W hW k ⟨p,hp,hk⟩=>by
 obtain⟨_,h2⟩:=hW k ⟨p,hp,hk⟩
 rw [h2]
 exact hA p hp w (h p hp) k hk
theorem marks_turn {B C:Nat} {Ds:List Nat} {W W':World} {row:Option Nat} (h:MarksB B Ds W) (hlt:∀ D∈Ds,D<C) (hg:W.grownBy W' row) (hr:∀ r,row=some r→C≤r∧∃ o:Obj,W.heap[r]?=some o∧o.isCells=false):MarksB B Ds W' :=
 ⟨h.1,fun D hD=>⟨(h.2 D hD).1,(hg.block D (h.lt D hD) (fun e=>by have:=(hr D e.symm).1;have:=hlt D hD;omega)).trans (h.2 D hD).2⟩⟩
theorem Sep.fixAt {w0 w W:World} {A B:List Pc} (S:Sep w0 W (Pc.fix (footA A) w :: B)) {p:Pc} (hp:p∈A) (h:p.holds w):p.holds W :=
 p.loc w W h fun k hk=>(S.all _ (List.mem_cons_self ..) k ⟨p,hp,hk⟩).2
end
section
open Go Go.RowKit
attribute [local go_sem] Oper.semAt_some
theorem Sep.marks {w0 w:World} {Γ:List Pc} (S:Sep w0 w Γ) (hΓ:∀ p∈Γ,p.cells):∀ (Ds:List Nat),MarksB w0.heap.size Ds w→Sep w0 w (Γ ++ Ds.map fun D=>Pc.obj D (.deferred (some [])))
 | [],_=>by simpa using S
 | D :: Ds,h=>by
  obtain⟨hn,hd⟩:=List.nodup_cons.1 h.1
  have ih:=S.marks hΓ Ds ⟨hd,fun E hE=>h.2 E (List.mem_cons_of_mem _ hE)⟩
  obtain⟨hB,hD⟩:=h.2 D (List.mem_cons_self ..)
  have key:Sep w0 w (Pc.obj D (.deferred (some [])) :: (Γ ++ Ds.map fun D=>Pc.obj D (.deferred (some [])))):=by
   refine⟨ih.ext,fun p hp=>?_,fun p hp k hk=>?_,List.pairwise_cons.2 ⟨fun q hq k hk hk2=>?_,ih.apart⟩⟩
   ·rcases List.mem_cons.1 hp with rfl | hp
    ·exact hD
    ·exact ih.all p hp
   ·rcases List.mem_cons.1 hp with rfl | hp
    ·have hk:k=D:=hk
     subst hk;exact hB
    ·exact ih.new p hp k hk
   ·have hk:k=D:=hk
    subst hk
    rcases List.mem_append.1 hq with hq | hq
    ·obtain⟨o,h1,h2⟩:=hΓ q hq w (S.all q hq) k hk2
     rw [hD] at h1;injection h1 with h1;subst h1;cases h2
    ·obtain⟨E,hE,rfl⟩:=List.mem_map.1 hq
     have hk2:k=E:=hk2
     subst hk2;exact hn hE
  exact key.perm (by rw [List.map_cons];exact List.perm_middle)
theorem Sep.unmarks {w0 w w':World} {Γ:List Pc} {Ds:List Nat} (h:MarksB w0.heap.size Ds w) (S:Sep w0 w' (Γ ++ Ds.map fun D=>Pc.obj D (.deferred (some [])))):Sep w0 w' Γ∧MarksB w0.heap.size Ds w' :=
 ⟨S.sub (List.sublist_append_left _ _),h.1,fun D hD=>⟨(h.2 D hD).1,S.all _ (List.mem_append_right _ (List.mem_map.2 ⟨D,hD,rfl⟩))⟩⟩
theorem rows_at (P:Pc) (wk:Nat) (hs:List Hd) (M:List Sq) (Γ:List Pc) (j:Nat) {p:Pc} (h:Γ[j]?=some p):((P :: rowsB wk hs M) ++ Γ)[wk+1+j]?=some p:=by
 rw [List.getElem?_append_right (by simp [rowsB])]
 simpa [rowsB] using h
theorem StepG (k f t:Int) (pw:Option Addr) (nw cw:Nat) (rad most:Int) (po:Option Addr) (no co:Nat) (pt:Option Addr) (nt ct:Nat) (pr:Option Addr) (nr cr:Nat) (pv:Option Addr) (nv cv:Nat) (n:Nat) (F:Sq→List Sq) (ps:Option Addr) (ns cs:Nat) (st:List Sq) (pm:Option Addr) (nm cm:Nat) (M:List Sq) (wk:Nat) (pp:Option Addr) (np cp:Nat) (pk:List Int) (w:World)
  (hno:no=n+1) (h200:n≤200) (h1:1≤wk) (h16:wk≤16) (hs:Rd w 4 ps ns (encQ st)) (hm:Rd w 4 pm nm (encQ M)) (hpk:Rd w 1 pp np (encI pk))
  (hku:KeysUp st) (hst:∀ x∈st,mayB x=true∧x.v<n) (hms:∀ x∈M,mayB x=true∧x.v<n) (hFl:∀ x∈M,(F x).length≤200∧∀ y∈F x,y.I) (hns:ns≤1000) (hnm:nm≤100000) (hKN:∀ x,x∈st∨x∈M→KeyN n x)
  (HCK0:∀ W,Ext w W→Calls Tryz.prog 82 #[.agg #[.slice po no co,.slice pt nt ct,.slice pr nr cr,.slice pv nv cv]] W fun e w'=>e=.returned (.bool true)∧Ext W w')
  (HN0:∀ x∈M,∀ W,Ext w W→Calls Tryz.prog 213 #[.agg #[.int .i64 k,.int .i64 f,.int .i64 t,.slice pw nw cw,.int .i64 rad,.int .i64 most],.agg #[.slice po no co,.slice pt nt ct,.slice pr nr cr,.slice pv nv cv],.agg #[.int .i64 x.s,.int .i64 x.r,.int .i64 x.v,.int .i64 x.d]] W fun e w'=>∃ q c,e=.returned (.tuple #[.slice q (F x).length c,.int .i64 0])∧Sep W w' [.own 138 4 q (F x).length c (encQ (F x))]) :
  Calls Tryz.prog 94 #[.agg #[.int .i64 k,.int .i64 f,.int .i64 t,.slice pw nw cw,.int .i64 rad,.int .i64 most],.agg #[.slice po no co,.slice pt nt ct,.slice pr nr cr,.slice pv nv cv],.slice ps ns cs,.slice pm nm cm,.int .i64 wk,.slice pp np cp] w fun e w'=>∃ q c q2 c2,e=.returned (.tuple #[.slice q (stepM F st M).1.length c,.slice q2 (stepM F st M).2.length c2,.int .i64 0]) ∧
   Sep w w' [.own 146 4 q (stepM F st M).1.length c (encQ (stepM F st M).1),.own 138 4 q2 (stepM F st M).2.length c2 (encQ (stepM F st M).2)]:=by
 obtain⟨i0,hi0,hz0,hz1,hz2⟩:=info_parts infMail
 obtain⟨j0,hj0,hy0,hy1,hy2⟩:=info_parts infStt
 have mayI:∀ x,mayB x=true→x.I:=fun x hx=>by
  obtain⟨a1,a2,a3,a4,a5,a6,a7⟩:=mayB_iff.1 hx
  unfold Sq.I I64
  have q1:IntKind.i64.min = -9223372036854775808:=rfl
  have q2:IntKind.i64.max=9223372036854775807:=rfl
  refine⟨?_,?_,?_,?_⟩ <;> (show (_ && _)=true;simp;omega)
 have en:((no:Int)) - 1=(n:Int):=by omega
 have HCK:=Lib.hid HCK0
 have HNX:=Lib.hid HN0
 have HOR:=Lib.hid (fun W (h:Ext w W)=>OrderG wk pp np cp pk W (hpk.ext h) (by omega))
 have hfr:=fun W (h:Ext w W)=>FreshG ps ns cs st pm nm cm M W (hs.ext h) (hm.ext h) (fun x hx=>mayI x (hst x hx).1) (fun x hx=>mayI x (hms x hx).1) (by omega) hnm
 have hfi:∀ x∈freshM st M,x∈M:=fun x hx=>(freshM_mem.1 hx).1.1
 have hfl:(freshM st M).length≤100000:=by
  have:=freshM_len st M
  have:=hm.nQ
  omega
 obtain⟨Fr,hFr⟩:∃ Fr,freshM st M=Fr:=⟨_,rfl⟩
 rw [hFr] at hfr hfi hfl
 have HFR:=Lib.hid hfr
 have HFI:=Lib.hid hfi
 have HFL:=Lib.hid hfl
 have HFM:=Lib.hid (fun x (hx:x∈Fr)=>(hms x (hfi x hx)).1)
 have HRG:=Lib.hid (fun W (h:Ext w W)=>rightG ps ns cs st n W (hs.ext h) hku hst (by omega))
 have HCM:=Lib.hid (fun W (h:Ext w W)=>CheckM pm nm cm M W (hm.ext h) (fun x hx=>(hms x hx).1))
 have HMR:=Lib.hid hm
 have HMB:=Lib.hid (fun x (hx:x∈M)=>(hms x hx).2)
 have HCL:=Lib.hid (fun W (h:Ext w W)=>CloneX ps ns cs st W (hs.ext h) (by omega))
 have HPK:=Lib.hid hpk
 have HKU:=Lib.hid hku
 have HKN:=Lib.hid hKN
 have HFN:=Lib.hid hFl
 have HFRE:=Lib.hid hFr
 have HST:=Lib.hid hs.nQ
 obtain⟨S',hS'⟩:∃ S',stepM F st M=S':=⟨_,rfl⟩
 rw [hS']
 have HS':=Lib.hid hS'
 have S0:=Lib.hid ((((Sep.start w).al #[.int .i64 k,.int .i64 f,.int .i64 t,.slice pw nw cw,.int .i64 rad,.int .i64 most] 24 w.heap.size rfl).al #[.slice po no co,.slice pt nt ct,.slice pr nr cr,.slice pv nv cv] 27 (w.heap.size+1) (by simp)).al #[.int .i64 (n:Int)] 3 (w.heap.size+1+1) (by simp))
 have HSI:=Lib.hid (fun x (hx:x∈st)=>mayI x (hst x hx).1)
 have HMI:=Lib.hid (fun x (hx:x∈M)=>mayI x (hms x hx).1)
 clear hs hm hpk hku hst hms hFl HCK0 HN0 hfr hfi hfl hFr hKN hS' mayI hno
 refine(callsIn_wide (n:=9)).1 ?_
 refine callsIn_of_wp_marks Tryz.func94 rfl trivial ?_ rfl
 simp only [Tryz.ntmps94,List.size_toArray,List.length_cons,List.length_nil,Nat.reduceAdd,Nat.reduceSub,Array.replicate_succ,Array.replicate_zero,List.push_toArray,List.append_toArray,List.nil_append,List.cons_append]
 refine wpIn_wide.2 ?_
 go_wp2
 go_step3
 go_wp2_with (first | (go_at_call 145;go_must (refine(HCL.out _ S7.out.ext).mono ?_;rintro e w8 ⟨qn,cn,rfl,Z⟩;have S8:=Lib.hid Z;clear Z)) | (go_at_call 144;go_must (refine HCB.out.mono ?_;rintro e w7 ⟨rfl,hb⟩;have S7:=Lib.hid (S6.out.call hb);clear hb)) | (go_at_call 143;go_must (refine(HCM.out _ S5.out.ext).mono ?_;rintro e w6 ⟨rfl,hb⟩;have S6:=Lib.hid (S5.out.call hb);have HCB:=Lib.hid (ContainsBeyond pm nm cm (w.heap.size+1+1) M n w6 (HMR.out.ext S6.out.ext) (S6.out.blk (wk+1+2) (rows_at _ wk hs Fr _ 2 rfl)) HMB.out);clear hb)) | (go_at_call 142;go_must (refine(HRG.out _ S4.out.ext).mono ?_;rintro e w5 ⟨rfl,hb⟩;have S5:=Lib.hid (S4.out.call hb);clear hb)) | (go_at_call 140;go_must (refine HSP.out.mono ?_;rintro e w4 ⟨qb,hs,hhl,rfl,Z⟩;have HHL:=Lib.hid hhl;have S4:=Lib.hid (S3.out.comp Z);obtain⟨n0,nz⟩:=bkc0l (S4.out.blk (wk+1+2) (rows_at _ wk hs Fr _ 2 rfl));clear Z hhl)) | (go_at_call 141;go_must (refine(HFR.out _ S2.out.ext).mono ?_;rintro e w3 ⟨qf,cf,rfl,Z⟩;have S3:=Lib.hid (S2.out.comp Z);have HSP:=Lib.hid (SplitG qf Fr.length cf Fr wk w3 (S3.out.rdx 0 rfl) HFM.out h1 h16 HFL.out);clear Z)) | (go_at_call 139;go_must (refine(HOR.out _ S1.out.ext).mono ?_;rintro e w2 ⟨ord,qo,co',hP,rfl,Z⟩;have HPO:=Lib.hid hP;have S2:=Lib.hid (S1.out.comp Z);clear Z hP)) | (go_at_call 82;go_must (refine(HCK.out _ S0.out.ext).mono ?_;rintro e w1 ⟨rfl,hb⟩;have S1:=Lib.hid (S0.out.call hb);clear hb)))
 go_step3
 go_wp2
 have S9:=Lib.hid ((((S8.out.al #[.slice qn ns cn] 85 w8.heap.size rfl).al #[.slice none 0 0] 83 (w8.heap.size+1) (by simp)).nilrow 138 4).pick [2,1,3,0] (by decide) rfl:Sep w7 _ [.blk w8.heap.size 85 #[.slice qn ns cn],.blk (w8.heap.size+1) 83 #[.slice none 0 0],.own 146 4 qn ns cn (encQ st),.own 138 4 none 0 0 []])
 have HE7:=Lib.hid S7.out.ext
 have HRO:=Lib.hid (S7.out.rdx (wk+1+1) (rows_at _ wk hs Fr _ 1 rfl))
 have HRH:=Lib.hid (S7.out.rdx 0 rfl)
 have HRB:=Lib.hid (fun h (hh:h<wk)=>S7.out.rdx (h+1) (by rw [List.cons_append,List.getElem?_cons_succ,List.getElem?_append_left (by simpa [rowsB] using hh)];exact rowsB_at hh))
 have HBR:=Lib.hid (S7.out.blk (wk+1+3) (rows_at _ wk hs Fr _ 3 rfl))
 have HBQ:=Lib.hid (S7.out.blk (wk+1+4) (rows_at _ wk hs Fr _ 4 rfl))
 have HGN:Hid (w7.heap.size≤w8.heap.size):=S8.out.ext.size
 clear S0 S1 S2 S3 S4 S5 S6 S7 S8 HCK HOR HFR HSP HRG HCM HCB HCL n0 nz
 obtain⟨gN,hgN⟩:∃ gN,w8.heap.size=gN:=⟨_,rfl⟩
 obtain⟨W9,hW9⟩:∃ W9,(w8.alloc (.cells #[.slice qn ns cn] 85)).alloc (.cells #[.slice none 0 0] 83)=W9:=⟨_,rfl⟩
 rw [hgN,hW9] at S9
 rw [hgN] at HGN
 rw [hW9,hgN]
 clear hgN hW9
 refine loopStep _ _ _ _ _ _ _ _ _ _ _ _ _ _ _ _ _ _ _ _ _ _ _ _ _ _ _ _ _ _ _ _ _ _ _ _ _ _ _ _ _ _ _ _ _ _ _ _ _ _ _ _ _ _ _ _ _ _ _ _ _ _ _ _ _ _ _ _ _ _ _ _ _ _ _ _ _ _ _ _ _ _ _ _ _ _ _ _ _ _ _ _ _ _ _ _ _ _ _ _ _ _ _ _ _ _ _ _ _ _ _ _ _ _ _ _ _ _ _ _ _ (n0:=wk) (R:=fun nn u18 u77 ds wr=>∃ (j:Nat) (P:List Sq) (Ds:List Nat) (q1:Option Addr) (c1:Nat) (q2:Option Addr) (c2:Nat),j+nn=wk∧u18=.int .i64 0∧u77=.int .i64 j∧ds=Ds.map markD∧Hid (DoneW Fr wk ((ord.take j).map Int.toNat) P)∧Hid (MarksB w7.heap.size Ds wr)∧Hid (Sep w7 wr [.blk gN 85 #[.slice q1 (st ++ P).length c1],.blk (gN+1) 83 #[.slice q2 (P.flatMap F).length c2],.own 146 4 q1 (st ++ P).length c1 (encQ (st ++ P)),.own 138 4 q2 (P.flatMap F).length c2 (encQ (P.flatMap F))])) (h0:=?_) (round:=?_)
 ·exact⟨0,[],[],qn,cn,none,0,by omega,rfl,rfl,rfl,doneW_nil _ _,marks_nil _ _,by rw [List.append_nil,← HST.out];exact S9.out⟩
 ·intro nn u18 u24 u25 u26 u27 u28 u77 u78 u79 u80 u81 u82 u83 u84 u85 u86 u87 u88 u89 u90 u91 u92 u93 u94 u95 u96 u97 u98 u99 u100 u101 u102 u103 u104 u105 u106 u107 u108 u109 u110 ds wr hrel K hK
  obtain⟨j,P,Ds,q1,c1,q2,c2,hj,rfl,rfl,rfl,HD,HM,S⟩:=hrel
  clear S9
  have HK:=Lib.hid hK
  clear hK
  by_cases hlt:j<wk
  ·obtain⟨h,hh1,hh2,hh3,hh4⟩:=ordw_at HPO.out hlt
   have g0:=(HRO.out.ext S.out.ext).cI hlt
   rw [hh1] at g0
   have pqo:=HRO.out.ptr
   have pqb:=HRH.out.ptr
   have gh:=HRH.out.cH hh2
   have hrb:=HRB.out h hh2
   have hnl:=hrb.nQ
   have hbl:=boxQ_len Fr wk h
   have HH3:=Lib.hid hh3
   have HH4:=Lib.hid hh4
   obtain⟨hd,hhd⟩:∃ hd,nth hs h=hd:=⟨_,rfl⟩
   rw [hhd] at gh hrb hnl
   obtain⟨hp,hn',hc⟩:=hd
   simp only at gh hrb hnl
   have HMA:=Lib.hid (fun W (hW:Ext w7 W)=>MailsG hp hn' hc (boxQ Fr wk h) pp np cp pk W (hrb.ext hW) (HPK.out.ext (Ext.trans HE7.out hW)) (by have:=HFL.out;omega))
   have HNL:=Lib.hid hnl
   have d1:(0:Int)≤j:=by omega
   have d2:(j:Int)<wk:=by omega
   have d3:(0:Int)≤h:=by omega
   have d4:(h:Int)<wk:=by omega
   have HGH:=Lib.hid gh
   clear hh1 hh3 hh4 hrb hnl hbl hhd gh
   go_wp2
   refine wp_region_noPanic ?_
   refine wp_region_held_drew (S:=fun W=>Blk W w.heap.size 24 #[.int .i64 k,.int .i64 f,.int .i64 t,.slice pw nw cw,.int .i64 rad,.int .i64 most]∧Blk W (w.heap.size+1) 27 #[.slice po no co,.slice pt nt ct,.slice pr nr cr,.slice pv nv cv]∧W.cell? (adr qb h)=some (.slice hp hn' hc)) (by kernel_rfl) ⟨(HBQ.out.ext S.out.ext).ext (Below.refl _ _).drew,(HBR.out.ext S.out.ext).ext (Below.refl _ _).drew,S.out.ext.cell HGH.out⟩ (fun hHeld=>?_)
   have SD:=Lib.hid S.out.drew
   have HMD:=Lib.hid (HM.out.ext (Below.refl wr.heap.size wr).drew)
   clear S g0
   generalize wr.drew=D at SD HMD hHeld ⊢
   refine wpAnyH_take (i:=0) (v:=.agg #[.int .i64 k,.int .i64 f,.int .i64 t,.slice pw nw cw,.int .i64 rad,.int .i64 most]) rfl (by kernel_rfl) (by kernel_rfl) (by kernel_rfl) (noPanic_q _ _) (Or.inl ⟨by kernel_rfl,fun W hSw=>by have h0:=hSw.1.cell 0;have h1:=hSw.1.cell 1;have h2:=hSw.1.cell 2;have h3:=hSw.1.cell 3;have h4:=hSw.1.cell 4;have h5:=hSw.1.cell 5;clear hSw;go_simp⟩) hHeld ?_
   refine wpAnyH_take (i:=1) (v:=.agg #[.slice po no co,.slice pt nt ct,.slice pr nr cr,.slice pv nv cv]) rfl (by kernel_rfl) (by kernel_rfl) (by kernel_rfl) (noPanic_q _ _) (Or.inl ⟨by kernel_rfl,fun W hSw=>by have h0:=hSw.2.1.cell 0;have h1:=hSw.2.1.cell 1;have h2:=hSw.2.1.cell 2;have h3:=hSw.2.1.cell 3;clear hSw;go_simp⟩) hHeld ?_
   refine wpAnyH_take (i:=2) (v:=.slice qb wk wk) rfl (by kernel_rfl) (by kernel_rfl) (by kernel_rfl) (noPanic_q _ _) (Or.inl ⟨by kernel_rfl,fun W hSw=>by skip;clear hSw;go_simp⟩) hHeld ?_
   refine wpAnyH_take (i:=3) (v:=.int .i64 h) rfl (by kernel_rfl) (by kernel_rfl) (by kernel_rfl) (noPanic_q _ _) (Or.inl ⟨by kernel_rfl,fun W hSw=>by skip;clear hSw;go_simp⟩) hHeld ?_
   refine wpAnyH_take (i:=4) (v:=.pointer (some (adr qb h))) rfl (by kernel_rfl) (by kernel_rfl) (by kernel_rfl) (noPanic_q _ _) (Or.inl ⟨by kernel_rfl,fun W hSw=>by skip;clear hSw;go_simp⟩) hHeld ?_
   refine wpAnyH_take (i:=5) (v:=.slice hp hn' hc) rfl (by kernel_rfl) (by kernel_rfl) (by kernel_rfl) (noPanic_q _ _) (Or.inl ⟨by kernel_rfl,fun W hSw=>by have h0:=hSw.2.2;clear hSw;go_simp⟩) hHeld ?_
   refine wpAnyH_take (i:=6) (v:=.slice pp np cp) rfl (by kernel_rfl) (by kernel_rfl) (by kernel_rfl) (noPanic_q _ _) (Or.inl ⟨by kernel_rfl,fun W hSw=>by skip;clear hSw;go_simp⟩) hHeld ?_
   refine wpAnyH_ready (rs:=[7]) (by kernel_rfl) (by simp) (AllReadyH.cons rfl (fun K hK=>?_) AllReadyH.nil)
   go_simp
   refine(HMA.out D SD.out.ext).mono ?_
   rintro e w10 ⟨Bx,qm,cm',hBx,rfl,Z⟩
   have HBX:=Lib.hid hBx
   have SE:=Lib.hid (SD.out.comp Z)
   have HME:=Lib.hid (HMD.out.ext Z.ext)
   have hS10:=hHeld
   have HQ10:=Lib.hid (HBQ.out.ext SE.out.ext)
   have HR10:=Lib.hid (HBR.out.ext SE.out.ext)
   have HG10:=Lib.hid (SE.out.ext.cell HGH.out)
   clear Z SD HMD hBx hS10
   refine hK.out _ _ ⟨HQ10.out,HR10.out,HG10.out⟩ (fun hHeld=>?_)
   clear hK
   refine wpAnyH_take (i:=8) (v:=.agg #[.int .i64 k,.int .i64 f,.int .i64 t,.slice pw nw cw,.int .i64 rad,.int .i64 most,.slice po no co,.slice pt nt ct,.slice pr nr cr,.slice pv nv cv,.slice qm hn' cm',.int .i64 0]) rfl (by kernel_rfl) (by kernel_rfl) (by kernel_rfl) (noPanic_q _ _) (Or.inl ⟨by kernel_rfl,fun W hSw=>by skip;clear hSw;go_simp⟩) hHeld ?_
   refine wpAnyH_ready (rs:=[9]) (by kernel_rfl) (by simp) (AllReadyH.cons rfl (fun K hK=>?_) AllReadyH.nil)
   go_simp
   have SG:=Lib.hid (SE.out.al #[.int .i64 k,.int .i64 f,.int .i64 t,.slice pw nw cw,.int .i64 rad,.int .i64 most,.slice po no co,.slice pt nt ct,.slice pr nr cr,.slice pv nv cv,.slice qm hn' cm',.int .i64 0] 206 w10.heap.size rfl)
   refine hK.out _ _ ⟨HQ10.out.ext (Ext.alloc (Below.refl _ _) _),HR10.out.ext (Ext.alloc (Below.refl _ _) _),(Ext.alloc (Below.refl _ _) _:Ext w10 _).cell HG10.out⟩ (fun hHeld=>?_)
   clear hK
   refine wpAnyH_take (i:=10) (v:=.pointer (some ⟨w10.heap.size,0,none⟩)) rfl (by kernel_rfl) (by kernel_rfl) (by kernel_rfl) (noPanic_q _ _) (Or.inl ⟨by kernel_rfl,fun W hSw=>by skip;clear hSw;go_simp⟩) hHeld ?_
   refine wpAnyH_done (by kernel_rfl) ?_ _
   refine noPanic_mk ?_
   have HMG:=Lib.hid (HME.out.ext (Ext.alloc (Below.refl _ _) (.cells #[.int .i64 k,.int .i64 f,.int .i64 t,.slice pw nw cw,.int .i64 rad,.int .i64 most,.slice po no co,.slice pt nt ct,.slice pr nr cr,.slice pv nv cv,.slice qm hn' cm',.int .i64 0] 206)))
   clear hHeld HQ10 HR10 HG10 HME SE HMA
   simp [Act.put]
   go_wp2_with (go_at_call 147;go_must (refine(WorkG _ _).mono ?_;rintro e w12 ⟨rfl,rfl⟩))
   have SA:=SG.out.al #[.pointer (some ⟨w10.heap.size,0,none⟩)] 203 (w10.heap.size+1) (by simp)
   obtain⟨W11,hW11⟩:∃ W11,(w10.alloc (.cells #[.int .i64 k,.int .i64 f,.int .i64 t,.slice pw nw cw,.int .i64 rad,.int .i64 most,.slice po no co,.slice pt nt ct,.slice pr nr cr,.slice pv nv cv,.slice qm hn' cm',.int .i64 0] 206)).alloc (.cells #[.pointer (some ⟨w10.heap.size,0,none⟩)] 203)=W11:=⟨_,rfl⟩
   have HM11:Hid (MarksB w7.heap.size Ds W11):=by rw [← hW11];exact HMG.out.ext (Ext.alloc (Below.refl _ _) _)
   rw [hW11] at SA ⊢
   clear hW11 HMG SG
   generalize w10.heap.size=gw at *
   obtain⟨AA,hAA⟩:∃ AA,AA=[Pc.blk (gw+1) 203 #[.pointer (some ⟨gw,0,none⟩)],.blk gw 206 #[.int .i64 k,.int .i64 f,.int .i64 t,.slice pw nw cw,.int .i64 rad,.int .i64 most,.slice po no co,.slice pt nt ct,.slice pr nr cr,.slice pv nv cv,.slice qm hn' cm',.int .i64 0],.own 138 4 qm hn' cm' (encQ Bx)]:=⟨_,rfl⟩
   have SFX:Hid (Sep w7 W11 (Pc.fix (footA AA) W11 :: [.blk gN 85 #[.slice q1 (st ++ P).length c1],.blk (gN+1) 83 #[.slice q2 (P.flatMap F).length c2],.own 146 4 q1 (st ++ P).length c1 (encQ (st ++ P)),.own 138 4 q2 (P.flatMap F).length c2 (encQ (P.flatMap F))])):=Sep.fixed (A:=AA) (by rw [hAA];exact SA)
   have HAH:Hid (∀ p∈AA,p.holds W11):=fun p hp=>SA.all p (by rw [hAA] at hp;simp only [List.mem_cons,List.not_mem_nil,or_false] at hp ⊢;rcases hp with rfl | rfl | rfl <;> simp)
   have HAL:Hid (∀ p∈AA,∀ kk,p.foot kk→kk<W11.heap.size):=fun p hp kk hk=>p.inh W11 (HAH.out p hp) kk hk
   have HAC:Hid (∀ p∈AA,p.cells):=fun p hp=>by
    rw [hAA] at hp
    exact cells_all (fun p hp=>by
     simp only [List.mem_cons,List.not_mem_nil,or_false] at hp
     rcases hp with rfl | rfl | rfl
     ·exact .inl ⟨_,_,_,rfl⟩
     ·exact .inl ⟨_,_,_,rfl⟩
     ·exact .inr ⟨_,_,_,_,_,_,rfl⟩) p hp
   have HB7:Hid (w7.heap.size≤W11.heap.size):=SA.ext.size
   have HEA:=Lib.hid SA.ext
   have HLT:=Lib.hid HM11.out.lt
   have HAA:=Lib.hid hAA
   clear SA hAA
   obtain⟨Ks,hKs⟩:∃ Ks:Nat→Prop,Ks=fun kk=>kk<w7.heap.size∨footA AA kk:=⟨_,rfl⟩
   have HKS:=Lib.hid hKs
   clear hKs
   have HKE:Hid (∀ W,KeptW Ks W11 W→Ext w7 W):=fun W h=>⟨h.os.trans HEA.out.os,h.tape.trans HEA.out.tape,h.output.trans HEA.out.output,Nat.le_trans HB7.out h.size,fun kk hk=>(h.block kk (by rw [HKS.out];exact .inl hk)).trans (HEA.out.block kk hk)⟩
   have HKH:Hid (∀ W,KeptW Ks W11 W→∀ p∈AA,p.holds W):=fun W h p hp=>p.loc W11 W (HAH.out p hp) fun kk hk=>h.block kk (by rw [HKS.out];exact .inr ⟨p,hp,hk⟩)
   refine wpIn_wide.1 (wpIn_rangeFunc_toldC (F:=Fence.wide) (n:=9) rfl (by omega) (gf:=212) (lb:=#[.pointer (some ⟨gw+1,0,none⟩)]) rfl trivial (enters_of Tryz.func212 (by kernel_rfl) rfl)
    (workIt 8 (by omega) k f t pw nw cw rad most po no co pt nt ct pr nr cr pv nv cv (gw+1) gw qm hn' cm' Bx F Ks W11 ?hKl ?hF ?hN)
    (fun h k=>h.trans k) ?hKb (Below.refl _ _) (fun _=>rfl)
    (fun pre W=>∃ q1 c1 q2 c2,MarksB w7.heap.size Ds W∧Sep w7 W [Pc.fix (footA AA) W11,.blk gN 85 #[.slice q1 (st ++ (P ++ pre.map (·.x))).length c1],.blk (gN+1) 83 #[.slice q2 ((P ++ pre.map (·.x)).flatMap F).length c2],.own 146 4 q1 (st ++ (P ++ pre.map (·.x))).length c1 (encQ (st ++ (P ++ pre.map (·.x)))),.own 138 4 q2 ((P ++ pre.map (·.x)).flatMap F).length c2 (encQ ((P ++ pre.map (·.x)).flatMap F))])
    (fun _ _ _=>False) ?hI (fun _ _ _ _ _ h _ _=>h.elim) (fun _ _ _=>trivial) ?h0
    (fun pre y a' W=>∃ gx,frStep (.pointer (some ⟨gN,0,none⟩)) (.pointer (some ⟨gN+1,0,none⟩)) (.pointer (some ⟨gx,0,none⟩)) (.slice y.q (F y.x).length y.c) a'∧(∃ q1 c1 q2 c2,MarksB w7.heap.size Ds W∧Sep w7 W (.blk gx 146 #[.int .i64 y.x.s,.int .i64 y.x.r,.int .i64 y.x.v,.int .i64 y.x.d] :: .own 138 4 y.q (F y.x).length y.c (encQ (F y.x)) :: [Pc.fix (footA AA) W11,.blk gN 85 #[.slice q1 (st ++ (P ++ pre.map (·.x))).length c1],.blk (gN+1) 83 #[.slice q2 ((P ++ pre.map (·.x)).flatMap F).length c2],.own 146 4 q1 (st ++ (P ++ pre.map (·.x))).length c1 (encQ (st ++ (P ++ pre.map (·.x)))),.own 138 4 q2 ((P ++ pre.map (·.x)).flatMap F).length c2 (encQ ((P ++ pre.map (·.x)).flatMap F))]))∧(pre ++ [y]).map (·.x)=Bx.take (pre.length+1)∧pre.length<Bx.length)
    ?hAx ?assign ?body ?done (fun D c pre W _ _ h _=>h.elim))
   case hKl =>
    intro kk hk
    rw [HKS.out] at hk
    rcases hk with hk | ⟨p,hp,hk⟩
    ·exact Nat.lt_of_lt_of_le hk HB7.out
    ·exact HAL.out p hp kk hk
   case hF =>
    intro W hW9
    have h3:=HKH.out W hW9
    rw [HAA.out] at h3
    refine⟨h3 _ (List.mem_cons_self ..),h3 _ (List.mem_cons_of_mem _ (List.mem_cons_self ..)),Rd.of_own (own_base (h3 (.own 138 4 qm hn' cm' (encQ Bx)) (by simp)) (Nat.le_refl _)) ?_⟩
    have:=HNL.out
    have:=boxQ_len Fr wk h
    have:=HFL.out
    omega
   case hN =>
    intro x hx W h
    exact HNX.out x (HFI.out x (boxQ_mem.1 (HBX.out.mem_iff.1 hx)).1) W (Ext.trans HE7.out (HKE.out W h))
   case hKb =>
    intro W l o o' hl ho _ _
    refine⟨rfl,rfl,rfl,by simp,fun kk hk=>World.putObj_heap_other ?_⟩
    rw [HKS.out] at hk
    rcases hk with hk | ⟨p,hp,hk⟩
    ·have:=HB7.out;omega
    ·have:=HAL.out p hp kk hk;omega
   case hI =>
    rintro pre W W' row ⟨q1,c1,q2,c2,hm,S⟩ hg hr
    exact⟨q1,c1,q2,c2,marks_turn hm HLT.out hg hr,S.turn (fun p hp=>by
     simp only [List.mem_cons,List.not_mem_nil,or_false] at hp
     rcases hp with rfl | rfl | rfl | rfl | rfl
     ·exact fix_cells HAC.out HAH.out
     ·exact Pc.blk_cells _ _ _
     ·exact Pc.blk_cells _ _ _
     ·exact Pc.own_cells _ _ _ _ _ _
     ·exact Pc.own_cells _ _ _ _ _ _) HB7.out hg hr⟩
   case h0=>exact⟨q1,c1,q2,c2,HM11.out,by rw [List.map_nil,List.append_nil];exact SFX.out⟩
   case hAx =>
    rintro pre y a' _ W W' row ⟨gx,hfr,⟨q1,c1,q2,c2,hm,S⟩,hp⟩ hg hr
    exact⟨gx,hfr,⟨q1,c1,q2,c2,marks_turn hm HLT.out hg hr,S.turn (fun p hp=>by
     simp only [List.mem_cons,List.not_mem_nil,or_false] at hp
     rcases hp with rfl | rfl | rfl | rfl | rfl | rfl | rfl
     ·exact Pc.blk_cells _ _ _
     ·exact Pc.own_cells _ _ _ _ _ _
     ·exact fix_cells HAC.out HAH.out
     ·exact Pc.blk_cells _ _ _
     ·exact Pc.blk_cells _ _ _
     ·exact Pc.own_cells _ _ _ _ _ _
     ·exact Pc.own_cells _ _ _ _ _ _) HB7.out hg hr⟩,hp⟩
   case assign =>
    rintro l pre y V0 W Kx ⟨q1,c1,q2,c2,hm,S⟩ hE ⟨hl,hp1,hp2⟩ hKx
    have HKX:=Lib.hid hKx
    have SY:=Lib.hid ((S.comp hl).al #[.int .i64 y.x.s,.int .i64 y.x.r,.int .i64 y.x.v,.int .i64 y.x.d] 146 W.heap.size rfl)
    have HM2:=Lib.hid ((hm.ext hE).ext (Ext.alloc (Below.refl _ W) (.cells #[.int .i64 y.x.s,.int .i64 y.x.r,.int .i64 y.x.v,.int .i64 y.x.d] 146)))
    have HKW:Hid (KeptW Ks W (W.alloc (.cells #[.int .i64 y.x.s,.int .i64 y.x.r,.int .i64 y.x.v,.int .i64 y.x.d] 146))):=by
     have hx:Ext W (W.alloc (.cells #[.int .i64 y.x.s,.int .i64 y.x.r,.int .i64 y.x.v,.int .i64 y.x.d] 146)):=Ext.alloc (Below.refl _ W) _
     refine⟨hx.os,hx.tape,hx.output,hx.size,fun kk hk=>hx.block kk ?_⟩
     rw [HKS.out] at hk
     rcases hk with hk | hk
     ·exact Nat.lt_of_lt_of_le hk (Nat.le_trans S.ext.size hE.size)
     ·exact Nat.lt_of_lt_of_le (S.all _ (List.mem_cons_self ..) kk hk).1 hE.size
    have HP1:=Lib.hid hp1
    have HP2:=Lib.hid hp2
    clear hKx S hm hl hp1 hp2 hE
    simp only [ywE]
    gi_wp2
    exact HKX.out _ _ ((keeps_ext (Ext.alloc (Below.refl _ _) _)).from _) HKW.out ⟨q1,c1,q2,c2,HM2.out,SY.out.pick [2,3,4,5,6] (by decide) rfl⟩ ⟨W.heap.size,frStep_of,⟨q1,c1,q2,c2,HM2.out,SY.out⟩,HP1.out,HP2.out⟩
   case body =>
    rintro l pre y a' W _ ⟨gx,hfr,⟨q1,c1,q2,c2,hm,S⟩,hp1,hp2⟩
    have hel:∀ x∈P ++ (pre ++ [y]).map (·.x),x∈M:=fun x hx=>by
     rcases List.mem_append.1 hx with hx | hx
     ·exact HFI.out x ((HD.out.mem x).1 hx).1
     ·rw [hp1] at hx
      exact HFI.out x (boxQ_mem.1 (HBX.out.mem_iff.1 (List.mem_of_mem_take hx))).1
    have hPl:P.length≤400:=by
     have:=noTwo_most (n:=n) HD.out.two fun x hx=>HKN.out x (.inr (HFI.out x ((HD.out.mem x).1 hx).1))
     omega
    have hbx:Bx.length≤100000:=by
     rw [HBX.out.length_eq]
     exact Nat.le_trans (boxQ_len Fr wk h) HFL.out
    have hst2:=HST.out
    have hml:((pre ++ [y]).map (·.x)).length=pre.length+1:=by simp
    have hXl:(st ++ (P ++ pre.map (·.x))).length≤200000:=by
     simp only [List.length_append,List.length_map];omega
    have hZl:((P ++ (pre ++ [y]).map (·.x)).flatMap F).length≤40000000:=by
     have h9:=flatMap_len (f:=F) (P:=P ++ (pre ++ [y]).map (·.x)) (b:=200) (fun x hx=>(HFN.out x (hel x hx)).1)
     rw [List.length_append,hml] at h9
     omega
    have hXE:st ++ (P ++ (pre ++ [y]).map (·.x))=(st ++ (P ++ pre.map (·.x))) ++ [y.x]:=by simp
    have hZE:(P ++ (pre ++ [y]).map (·.x)).flatMap F=((P ++ pre.map (·.x)).flatMap F) ++ F y.x:=by simp
    rw [hZE,List.length_append] at hZl
    obtain⟨X,hX⟩:∃ X,st ++ (P ++ pre.map (·.x))=X:=⟨_,rfl⟩
    obtain⟨Z,hZ⟩:∃ Z,(P ++ pre.map (·.x)).flatMap F=Z:=⟨_,rfl⟩
    obtain⟨FY,hFY⟩:∃ FY,F y.x=FY:=⟨_,rfl⟩
    rw [hX] at hXE hXl S
    rw [hZ] at hZE hZl S
    rw [hFY] at hZE hZl S hfr
    obtain⟨pre2,hpre⟩:∃ pre2,pre ++ [y]=pre2:=⟨_,rfl⟩
    rw [hpre] at hXE hZE ⊢
    obtain⟨yx,hyx⟩:∃ yx,y.x=yx:=⟨_,rfl⟩
    rw [hyx] at hXE S
    have HXE:=Lib.hid hXE
    have HZE:=Lib.hid hZE
    have HMW:=Lib.hid hm
    clear hXE hZE hX hZ hFY hpre hyx hel hp1 hp2 hml hm hPl hbx hst2
    have b0:W.cell? ⟨gN,0,none⟩=some (.slice q1 X.length c1):=(S.blk 3 rfl).cell 0
    have bz:=(S.blk 3 rfl).lt
    obtain⟨x0,x1,x2,x3,xz⟩:=bkc0c1c2c3l (S.blk 0 rfl)
    simp at x0 x1 x2 x3
    have SH:=Lib.hid S;clear S
    have kE:=Lib.hid (keeps_ext (Ext.alloc (Below.refl _ W) (.cells #[.int .i64 yx.s,.int .i64 yx.r,.int .i64 yx.v,.int .i64 yx.d] 146)))
    unfold frStep at hfr
    (repeat obtain⟨_,hfr⟩:=hfr)
    refine wpIn_block ?_
    refine wpIn_seq_k fun K2 hK2=>?_
    have HK2:=Lib.hid hK2
    clear hK2
    refine wpIn_region_list (by rintro⟨_,_,h⟩;exact h) (by kernel_rfl) ?_
    go_wp2_with (at_builtin;go_must (refine wpList_append_sepK rfl _ _ _ rfl 146 j0 _ 4 32 Tryz.underlying85 hj0 hy0 hy1 hy2 rfl (by omega) (SH.out.junk _) 5 q1 X.length c1 _ rfl rfl _ 1 1 _ rfl (Rd.newAt _ _ _ 1 4 _ (by simp) rfl (by omega)) (one_encQ [yx]) (by omega) (by omega) ?_;intro q5 c5 w5 S' hsz hK1;obtain⟨k4,kf,kz⟩:=bkc0z0l (S'.blk 3 rfl);have S5:=Lib.hid S';have K5:=Lib.hid hK1;clear S' hsz hK1))
    have S6:=S5.out.set 3 rfl 0 (.slice q5 (X.length+1) c5)
    have kS:=KeepsOthers.setCell w5 ⟨gN,0,none⟩ (.slice q5 (X.length+1) c5)
    refine HK2.out _ _ ?_
    clear b0 bz x0 x1 x2 x3 xz k4 kf kz
    obtain⟨W6,hW6⟩:∃ W6,w5.setCell ⟨gN,0,none⟩ (.slice q5 (X.length+1) c5)=W6:=⟨_,rfl⟩
    rw [hW6] at S6 kS ⊢
    have KS:=Lib.hid kS
    have b0:W6.cell? ⟨gN+1,0,none⟩=some (.slice q2 Z.length c2):=(S6.blk 4 rfl).cell 0
    have bz:=(S6.blk 4 rfl).lt
    have SI:=Lib.hid S6
    have HRY:=Lib.hid (S6.rdx 1 rfl)
    clear hW6 S6 kS S5 HK2
    refine wpIn_region_list (by rintro⟨_,_,h⟩;exact h) (by kernel_rfl) ?_
    go_wp2_with (at_builtin;go_must (refine wpList_append_sepK rfl _ _ _ rfl 138 i0 _ 4 32 Tryz.underlying83 hi0 hz0 hz1 hz2 rfl (by omega) SI.out 6 q2 Z.length c2 _ rfl rfl _ FY.length y.c _ rfl HRY.out (one_encQ FY) (by omega) (by omega) ?_;intro q7 c7 w7' S' hsz hK1;obtain⟨k4,kf,kz⟩:=bkc0z0l (S'.blk 4 rfl);have S7:=Lib.hid S';have K7:=Lib.hid hK1;clear S' hsz hK1))
    have S8:=S7.out.set 4 rfl 0 (.slice q7 (Z.length+FY.length) c7)
    have kS:=KeepsOthers.setCell w7' ⟨gN+1,0,none⟩ (.slice q7 (Z.length+FY.length) c7)
    have KA:=(((kE.out.trans K5.out).trans KS.out).trans K7.out).trans kS
    refine⟨KA.from _,⟨S8.ext.os.trans SH.out.ext.os.symm,S8.ext.tape.trans SH.out.ext.tape.symm,S8.ext.output.trans SH.out.ext.output.symm,KA.size,fun kk hk=>?_⟩,q5,c5,q7,c7,HMW.out.keeps KA,?_⟩
    ·rw [HKS.out] at hk
     rcases hk with hk | hk
     ·exact(S8.ext.block kk hk).trans (SH.out.ext.block kk hk).symm
     ·exact(S8.all (Pc.fix (footA AA) W11) (by simp) kk hk).2.trans (SH.out.all (Pc.fix (footA AA) W11) (by simp) kk hk).2.symm
    ·rw [HXE.out,HZE.out,List.length_append,List.length_append,encQ_append,encQ_append]
     exact S8.pick [2,3,4,5,6] (by decide) rfl
   case done =>
    rintro D ys W hD hys ⟨q3,c3,q4,c4,hm,S⟩ hK9
    rw [hys] at S
    have HBW:Blk W gw 206 #[.int .i64 k,.int .i64 f,.int .i64 t,.slice pw nw cw,.int .i64 rad,.int .i64 most,.slice po no co,.slice pt nt ct,.slice pr nr cr,.slice pv nv cv,.slice qm hn' cm',.int .i64 0]:=S.fixAt (p:=.blk gw 206 #[.int .i64 k,.int .i64 f,.int .i64 t,.slice pw nw cw,.int .i64 rad,.int .i64 most,.slice po no co,.slice pt nt ct,.slice pr nr cr,.slice pv nv cv,.slice qm hn' cm',.int .i64 0]) (by rw [HAA.out];simp) (HAH.out _ (by rw [HAA.out];simp))
    have b0:W.cell? ⟨gw,11,none⟩=some (.int .i64 0):=HBW.cell 11
    have bz:=HBW.lt
    have by_:=(show W.heap[gw]?=_ from HBW)
    have HDN:Hid (DoneW Fr wk ((ord.take (j+1)).map Int.toNat) (P ++ Bx)):=by
     rw [HH4.out]
     exact doneW_step (by rw [← HFRE.out];exact freshM_keyed _ _) HD.out HH3.out HBX.out
    have HMN:Hid (MarksB w7.heap.size (D :: Ds) W):=hm.cons (fun hin=>by have:=HLT.out D hin;omega) (Nat.le_trans HB7.out hD) hK9
    have HSN:=Lib.hid (S.pick [1,2,3,4] (by decide) rfl:Sep w7 W [.blk gN 85 #[.slice q3 (st ++ (P ++ Bx)).length c3],.blk (gN+1) 83 #[.slice q4 ((P ++ Bx).flatMap F).length c4],.own 146 4 q3 (st ++ (P ++ Bx)).length c3 (encQ (st ++ (P ++ Bx))),.own 138 4 q4 ((P ++ Bx).flatMap F).length c4 (encQ ((P ++ Bx).flatMap F))])
    clear hm S hK9 hys HBW
    go_wp2
    refine HK.out (nn - 1) _ _ _ _ _ _ _ _ _ _ _ _ _ _ _ _ _ _ _ _ _ _ _ _ _ _ _ _ _ _ _ _ _ _ _ _ _ _ _ _ _ _ (by omega) ⟨j+1,P ++ Bx,D :: Ds,q3,c3,q4,c4,by omega,rfl,by go_num,rfl,HDN,HMN,HSN⟩
  ·obtain rfl:wk=j:=by omega
   have hPM:=doneW_all (by omega) HD.out (ordw_all HPO.out)
   have hPl:P.length≤400:=by
    have:=noTwo_most (n:=n) HD.out.two fun x hx=>HKN.out x (.inr (HFI.out x ((HD.out.mem x).1 hx).1))
    omega
   obtain⟨e1,e2⟩:=stepM_sorted (f:=F) (M:=M) HKU.out (P:=P) (fun x=>by rw [HFRE.out];exact hPM x) HD.out.two
   rw [HS'.out] at e1 e2
   have h3:NoTwo (st ++ P):=noTwo_append.2 ⟨keyed_noTwo HKU.out,HD.out.two,fun x hx y hy e=>by
    have hy2:=(hPM y).1 hy
    rw [← HFRE.out] at hy2
    exact(freshM_mem.1 hy2).2 ⟨x,hx,e⟩⟩
   have hst2:=HST.out
   have hXl:(st ++ P).length≤100000:=by rw [List.length_append];omega
   have hZl:(P.flatMap F).length≤100000:=by
    have h9:=flatMap_len (f:=F) (P:=P) (b:=200) (fun x hx=>(HFN.out x (HFI.out x ((HD.out.mem x).1 hx).1)).1)
    omega
   have hSI:∀ x∈S'.1,x.I:=fun x hx=>by
    rw [← e1,sortK_mem] at hx
    rcases List.mem_append.1 hx with hx | hx
    ·exact HSI.out x hx
    ·exact HMI.out x (HFI.out x ((HD.out.mem x).1 hx).1)
   have hMI:∀ y∈P.flatMap F,y.I:=fun y hy=>by
    obtain⟨x,hx,hxy⟩:=List.mem_flatMap.1 hy
    exact(HFN.out x (HFI.out x ((HD.out.mem x).1 hx).1)).2 y hxy
   have hSL:(st ++ P).length=S'.1.length:=by rw [← e1,sortK_len]
   obtain⟨X,hX⟩:∃ X,st ++ P=X:=⟨_,rfl⟩
   obtain⟨Z,hZ⟩:∃ Z,P.flatMap F=Z:=⟨_,rfl⟩
   have SX:Sep w7 wr [.blk gN 85 #[.slice q1 X.length c1],.blk (gN+1) 83 #[.slice q2 Z.length c2],.own 146 4 q1 X.length c1 (encQ X),.own 138 4 q2 Z.length c2 (encQ Z)]:=by rw [← hX,← hZ];exact S.out
   rw [hX] at e1 h3 hXl hSL
   rw [hX,hZ] at e2
   rw [hZ] at hZl hMI
   have HSM:=Lib.hid (SX.marks (cells_all (fun p hp=>by
    simp only [List.mem_cons,List.not_mem_nil,or_false] at hp
    rcases hp with rfl | rfl | rfl | rfl
    ·exact .inl ⟨_,_,_,rfl⟩
    ·exact .inl ⟨_,_,_,rfl⟩
    ·exact .inr ⟨_,_,_,_,_,_,rfl⟩
    ·exact .inr ⟨_,_,_,_,_,_,rfl⟩)) Ds HM.out)
   have HSO:=Lib.hid (SortX_sep HSM.out 2 rfl h3 (by omega))
   rw [e1] at HSO
   have HFS:=Lib.hid (fun W (hs:Rd W 4 q1 X.length (encQ S'.1)) (hm:Rd W 4 q2 Z.length (encQ Z))=>FreshG q1 X.length c1 S'.1 q2 Z.length c2 Z W hs hm hSI hMI hXl hZl)
   have HE2:freshM S'.1 Z=S'.2:=by rw [← e2,e1]
   rw [HE2] at HFS
   have HSL:=Lib.hid hSL
   have b0:wr.cell? ⟨gN,0,none⟩=some (.slice q1 X.length c1):=(SX.blk 0 rfl).cell 0
   have bz:=(SX.blk 0 rfl).lt
   clear e1 e2 h3 hst2 hSI hMI hSL hPM hPl S SX hX hZ HE2 HD hXl hZl
   go_wp2_with (go_at_call 148;go_must (refine HSO.out.mono ?_;rintro e w12 ⟨rfl,Z12⟩;have SS:=Lib.hid (show Sep w7 w12 ([.blk gN 85 #[.slice q1 X.length c1],.blk (gN+1) 83 #[.slice q2 Z.length c2],.own 146 4 q1 X.length c1 (encQ S'.1),.own 138 4 q2 Z.length c2 (encQ Z)] ++ Ds.map fun D=>Pc.obj D (.deferred (some []))) from Z12);clear Z12))
   refine wp_region_noPanic ?_
   refine wp_region_held_drew (S:=fun W=>W.cell? ⟨gN,0,none⟩=some (.slice q1 X.length c1)∧W.cell? ⟨gN+1,0,none⟩=some (.slice q2 Z.length c2)) (by kernel_rfl) ⟨(SS.out.drew.blk 0 rfl).cell 0,(SS.out.drew.blk 1 rfl).cell 0⟩ (fun hHeld=>?_)
   have SD:=Lib.hid SS.out.drew
   clear SS HSO HSM b0 bz
   generalize w12.drew=D at SD hHeld ⊢
   refine wpAnyH_take (i:=0) (v:=.slice q1 X.length c1) rfl (by kernel_rfl) (by kernel_rfl) (by kernel_rfl) (noPanic_q _ _) (Or.inl ⟨by kernel_rfl,fun W hSw=>by have h0:=hSw.1;clear hSw;go_simp⟩) hHeld ?_
   refine wpAnyH_take (i:=1) (v:=.slice q1 X.length c1) rfl (by kernel_rfl) (by kernel_rfl) (by kernel_rfl) (noPanic_q _ _) (Or.inl ⟨by kernel_rfl,fun W hSw=>by have h0:=hSw.1;clear hSw;go_simp⟩) hHeld ?_
   refine wpAnyH_take (i:=2) (v:=.slice q2 Z.length c2) rfl (by kernel_rfl) (by kernel_rfl) (by kernel_rfl) (noPanic_q _ _) (Or.inl ⟨by kernel_rfl,fun W hSw=>by have h0:=hSw.2;clear hSw;go_simp⟩) hHeld ?_
   refine wpAnyH_ready (rs:=[3]) (by kernel_rfl) (by simp) (AllReadyH.cons rfl (fun K hK=>?_) AllReadyH.nil)
   go_simp
   refine(HFS.out D (SD.out.rdx 2 rfl) (SD.out.rdx 3 rfl)).mono ?_
   rintro e w13 ⟨q9,c9,rfl,Z13⟩
   have S13:=Lib.hid (SD.out.comp Z13)
   clear Z13 SD HFS
   refine hK.out _ _ ⟨(S13.out.blk 1 rfl).cell 0,(S13.out.blk 2 rfl).cell 0⟩ (fun hHeld=>?_)
   clear hK
   refine wpAnyH_take (i:=4) (v:=.slice q1 X.length c1) rfl (by kernel_rfl) (by kernel_rfl) (by kernel_rfl) (noPanic_q _ _) (Or.inl ⟨by kernel_rfl,fun W hSw=>by skip;clear hSw;go_simp⟩) hHeld ?_
   refine wpAnyH_take (i:=5) (v:=.slice q9 S'.2.length c9) rfl (by kernel_rfl) (by kernel_rfl) (by kernel_rfl) (noPanic_q _ _) (Or.inl ⟨by kernel_rfl,fun W hSw=>by skip;clear hSw;go_simp⟩) hHeld ?_
   refine wpAnyH_take (i:=6) (v:=.int .i64 0) rfl (by kernel_rfl) (by kernel_rfl) (by kernel_rfl) (noPanic_q _ _) (Or.inl ⟨by kernel_rfl,fun W hSw=>by skip;clear hSw;go_simp⟩) hHeld ?_
   refine wpAnyH_done (by kernel_rfl) ?_ _
   refine noPanic_mk ?_
   clear hHeld
   have SU:=Lib.hid (Sep.unmarks (Γ:=[.own 138 4 q9 S'.2.length c9 (encQ S'.2),.blk gN 85 #[.slice q1 X.length c1],.blk (gN+1) 83 #[.slice q2 Z.length c2],.own 146 4 q1 X.length c1 (encQ S'.1),.own 138 4 q2 Z.length c2 (encQ Z)]) (Ds:=Ds) (w:=wr) HM.out S13.out)
   simp [Act.put]
   go_wp2
   try rw [Exit.noGoto_ret]
   refine leaves_marks (fun W=>Sep w7 W [.own 138 4 q9 S'.2.length c9 (encQ S'.2),.own 146 4 q1 X.length c1 (encQ S'.1)]) w7.heap.size (fun W D hB hD hS=>hS.putObj (cells_all (fun p hp=>by
    simp only [List.mem_cons,List.not_mem_nil,or_false] at hp
    rcases hp with rfl | rfl
    ·exact .inr ⟨_,_,_,_,_,_,rfl⟩
    ·exact .inr ⟨_,_,_,_,_,_,rfl⟩)) (.deferred none) hB hD rfl) (fun W hS=>⟨.tuple #[.slice q1 X.length c1,.slice q9 S'.2.length c9,.int .i64 0],by simp [results,Tryz.results94,go_sem],?_⟩) Ds _ SU.out.2 (SU.out.1.pick [0,3] (by decide) rfl)
   rw [HSL.out] at hS ⊢
   exact⟨q1,c1,q9,c9,rfl,(((Sep.start w).call HE7.out).comp (hS.pick [1,0] (by decide) rfl:Sep w7 W [.own 146 4 q1 S'.1.length c1 (encQ S'.1),.own 138 4 q9 S'.2.length c9 (encQ S'.2)])).pick [0,1] (by decide) rfl⟩
end
section
open Go Go.RowKit
def nextC (ck:Bool) (O R:List Int) (x:Sq):Int:=nxC ck (outB ck (if x.r=1 then R else O) x.v) x
def nextL (k rad:Int) (ck:Bool) (O T R V:List Int) (x:Sq):List Sq:=nxL k rad (nextC ck O R x) x (if x.r=1 then outL ck R V x.v else outL ck O T x.v)
theorem outL_I {ck:Bool} {A B:List Int} {v:Int} (hB:B.length≤2000):(outL ck A B v).length≤2000:=by
 unfold outL
 split
 ·unfold rowL;rw [List.length_take,List.length_drop];omega
 ·simp
theorem NextIn (k f t:Int) (pw:Option Addr) (nw cw:Nat) (rad most:Int) (po:Option Addr) (no co:Nat) (O:List Int) (pt:Option Addr) (nt ct:Nat) (T:List Int) (pr:Option Addr) (nr cr:Nat) (R:List Int) (pv:Option Addr) (nv cv:Nat) (V:List Int) (w:World) (s v d:Int) (hO:Rd w 1 po no (encI O)) (hT:Rd w 1 pt nt (encI T)) (hR:Rd w 1 pr nr (encI R)) (hV:Rd w 1 pv nv (encI V)) (hct:nt≤ct) (hcv:nv≤cv) (hb:checkR O T R V=true→(outL (checkR O T R V) R V v).length≤100000) :
  Calls Tryz.prog 213 #[.agg #[.int .i64 k,.int .i64 f,.int .i64 t,.slice pw nw cw,.int .i64 rad,.int .i64 most],.agg #[.slice po no co,.slice pt nt ct,.slice pr nr cr,.slice pv nv cv],.agg #[.int .i64 s,.int .i64 1,.int .i64 v,.int .i64 d]] w fun e w'=>∃ q c,e=.returned (.tuple #[.slice q (nextL k rad (checkR O T R V) O T R V ⟨s,1,v,d⟩).length c,.int .i64 (nextC (checkR O T R V) O R ⟨s,1,v,d⟩)])∧Sep w w' [.own 138 4 q (nextL k rad (checkR O T R V) O T R V ⟨s,1,v,d⟩).length c (encQ (nextL k rad (checkR O T R V) O T R V ⟨s,1,v,d⟩))]:=by
 obtain⟨i0,hi0,hz0,hz1,hz2⟩:=info_parts infMail
 have S0:=Lib.hid ((((Sep.start w).al #[.int .i64 k,.int .i64 f,.int .i64 t,.slice pw nw cw,.int .i64 rad,.int .i64 most] 24 w.heap.size rfl).al #[.slice po no co,.slice pt nt ct,.slice pr nr cr,.slice pv nv cv] 27 (w.heap.size+1) (by simp)).al #[.int .i64 s,.int .i64 1,.int .i64 v,.int .i64 d] 146 (w.heap.size+1+1) (by simp))
 have HC:=Lib.hid (fun W1 (h:Ext w W1)=>CheckR po no co O pt nt ct T pr nr cr R pv nv cv V W1 (hO.ext h) (hT.ext h) (hR.ext h) (hV.ext h) hct hcv)
 have HG:=Lib.hid (fun W1 (h:Ext w W1)=>InG po no co O pt nt ct T pr nr cr R pv nv cv V W1 v (hO.ext h) (hT.ext h) (hR.ext h) (hV.ext h) hct hcv)
 unfold nextL nextC
 simp only [if_true]
 clear hO hT hR hV
 cases hck:checkR O T R V with
 | false =>
  rw [hck] at HC HG
  rw [nxC_40,nxL_no (Or.inl (by decide))]
  clear hck hb
  generalize outL false R V v=L at *
  generalize outB false R v=ob at *
  go_enter Tryz.func213,Tryz.ntmps213
  go_wp2_with (first | (go_at_call 82;go_must (refine(HC.out _ S1.out.ext).mono ?_;rintro e w2 ⟨rfl,hb⟩;have S2:=Lib.hid (S1.out.call hb);clear y0 y1 y2 y3 yz b0 b1 b2 b3 bz hb;obtain⟨y0,y1,y2,y3,yz⟩:=bkc0c1c2c3l (S2.out.blk 1 rfl);obtain⟨a0,a4,az⟩:=bkc0c4l (S2.out.blk 3 rfl))) | (go_at_call 245;go_must (refine(HG.out _ S0.out.ext).mono ?_;rintro e w1 ⟨q,c,rfl,Z⟩;have S1:=Lib.hid (S0.out.comp Z);obtain⟨y0,y1,y2,y3,yz⟩:=bkc0c1c2c3l (S1.out.blk 1 rfl);obtain⟨b0,b1,b2,b3,bz⟩:=bkc0c1c2c3l (S1.out.blk 2 rfl);clear Z)))
  go_ret2
  exact⟨none,0,rfl,(S2.out.nilrow _ _).pick [0] (by decide) rfl⟩
 | true =>
  rw [hck] at HC HG
  have hbL:=hb hck
  rw [hck] at hbL
  clear hck hb
  generalize outL true R V v=L at *
  cases hob:outB true R v with
  | false =>
   rw [hob] at HG
   rw [nxC_1 (fun h=>by cases h.1),nxL_no (Or.inl (by decide))]
   clear hob
   go_enter Tryz.func213,Tryz.ntmps213
   go_wp2_with (first | (go_at_call 82;go_must (refine(HC.out _ S1.out.ext).mono ?_;rintro e w2 ⟨rfl,hb⟩;have S2:=Lib.hid (S1.out.call hb);clear y0 y1 y2 y3 yz b0 b1 b2 b3 bz hb;obtain⟨y0,y1,y2,y3,yz⟩:=bkc0c1c2c3l (S2.out.blk 1 rfl);obtain⟨a0,a4,az⟩:=bkc0c4l (S2.out.blk 3 rfl))) | (go_at_call 245;go_must (refine(HG.out _ S0.out.ext).mono ?_;rintro e w1 ⟨q,c,rfl,Z⟩;have S1:=Lib.hid (S0.out.comp Z);obtain⟨y0,y1,y2,y3,yz⟩:=bkc0c1c2c3l (S1.out.blk 1 rfl);obtain⟨b0,b1,b2,b3,bz⟩:=bkc0c1c2c3l (S1.out.blk 2 rfl);clear Z)))
   go_ret2
   exact⟨none,0,rfl,(S2.out.nilrow _ _).pick [0] (by decide) rfl⟩
  | true =>
   rw [hob] at HG
   clear hob
   by_cases hd:0≤d∧d≤200
   ·rw [nxC_0 ⟨rfl,Or.inr rfl,hd⟩]
    obtain⟨hd0,hd1⟩:=hd
    by_cases h3:k=3∧rad≤d
    ·rw [nxL_no (Or.inr h3)]
     obtain⟨rfl,h3⟩:=h3
     go_enter Tryz.func213,Tryz.ntmps213
     go_wp2_with (first | (go_at_call 82;go_must (refine(HC.out _ S1.out.ext).mono ?_;rintro e w2 ⟨rfl,hb⟩;have S2:=Lib.hid (S1.out.call hb);clear y0 y1 y2 y3 yz b0 b1 b2 b3 bz hb;obtain⟨y0,y1,y2,y3,yz⟩:=bkc0c1c2c3l (S2.out.blk 1 rfl);obtain⟨a0,a4,az⟩:=bkc0c4l (S2.out.blk 3 rfl))) | (go_at_call 245;go_must (refine(HG.out _ S0.out.ext).mono ?_;rintro e w1 ⟨q,c,rfl,Z⟩;have S1:=Lib.hid (S0.out.comp Z);obtain⟨y0,y1,y2,y3,yz⟩:=bkc0c1c2c3l (S1.out.blk 1 rfl);obtain⟨b0,b1,b2,b3,bz⟩:=bkc0c1c2c3l (S1.out.blk 2 rfl);clear Z)))
     go_ret2
     exact⟨none,0,rfl,(S2.out.nilrow _ _).pick [0] (by decide) rfl⟩
    ·rw [nxL_yes rfl h3,List.length_map]
     have HL:=Lib.hid hbL
     clear hbL
     have H3:Hid (k=3→d<rad):=fun e=>Int.not_le.1 fun h=>h3 ⟨e,h⟩
     have hk3:(k == 3)=true∧decide (rad≤d)=false∨(k == 3)=false:=by
      by_cases e:k=3
      ·exact .inl ⟨by simpa using e,by simpa using H3.out e⟩
      ·exact .inr (by simpa using e)
     clear H3 h3
     rcases hk3 with ⟨k3,k4⟩ | k3
     ·obtain rfl:k=3:=by simpa using k3
      clear k3
      go_enter Tryz.func213,Tryz.ntmps213
      go_wp2_with (first | (go_at_call 82;go_must (refine(HC.out _ S1.out.ext).mono ?_;rintro e w2 ⟨rfl,hb⟩;have S2:=Lib.hid (S1.out.call hb);clear y0 y1 y2 y3 yz b0 b1 b2 b3 bz hb;obtain⟨y0,y1,y2,y3,yz⟩:=bkc0c1c2c3l (S2.out.blk 1 rfl);obtain⟨a0,a4,az⟩:=bkc0c4l (S2.out.blk 3 rfl))) | (go_at_call 245;go_must (refine(HG.out _ S0.out.ext).mono ?_;rintro e w1 ⟨q,c,rfl,Z⟩;have S1:=Lib.hid (S0.out.comp Z);obtain⟨y0,y1,y2,y3,yz⟩:=bkc0c1c2c3l (S1.out.blk 1 rfl);obtain⟨b0,b1,b2,b3,bz⟩:=bkc0c1c2c3l (S1.out.blk 2 rfl);clear Z)))
      have nL:=Lib.hid ((S2.out.rdx 0 rfl).nI)
      have pL:=(S2.out.rdx 0 rfl).ptr
      have sL:=(S2.out.rdx 0 rfl).small
      have S3:=Lib.hid ((S2.out.nilrow 138 4).pick [0,1,2] (by decide) rfl:Sep w w2 [.own 138 4 none 0 0 [],.own 3 1 q L.length c (encI L),.blk (w.heap.size+1+1) 146 #[.int .i64 s,.int .i64 1,.int .i64 v,.int .i64 d]])
      clear y0 y1 y2 y3 yz a0 a4 az S2 S1 S0 HC HG
      go_loopw [11,13,69] (fun m _ i wr=>∃ (j:Nat) (q':Option Addr) (c':Nat),j≤L.length∧i=.int .i64 j∧m=.slice q' j c'∧Sep w wr [.own 138 4 q' j c' (encQ ((L.take j).map fun v=>(⟨s,1,v,d+1⟩:Sq))),.own 3 1 q L.length c (encI L),.blk (w.heap.size+1+1) 146 #[.int .i64 s,.int .i64 1,.int .i64 v,.int .i64 d]]) (fun _ _ i _=>L.length - (intOf i).toNat)
      case atStart=>exact⟨0,none,0,Nat.zero_le _,rfl,rfl,S3.out⟩
      case round =>
       clear S3
       obtain⟨j,q',c',hj,rfl,rfl,S⟩:=hrel
       by_cases hlt:j<L.length
       ·have g1:=(S.rdx 1 rfl).cI hlt
        have HT:=Lib.hid (take_succ_nth L j hlt)
        have d1:(0:Int)≤j:=by omega
        have d2:(j:Int)<L.length:=by omega
        have hl:=HL.out
        have y0:=((Lib.hid S).out.blk 2 rfl).cell 0;have y1:=((Lib.hid S).out.blk 2 rfl).cell 1;have y2:=((Lib.hid S).out.blk 2 rfl).cell 2;have y3:=((Lib.hid S).out.blk 2 rfl).cell 3;have yz:=((Lib.hid S).out.blk 2 rfl).lt
        have SH:=Lib.hid S;clear S
        generalize nth L j=u at *
        go_wp2_with (at_builtin;go_must (refine wpList_append_sep rfl _ _ _ rfl 138 i0 _ 4 32 Tryz.underlying83 hi0 hz0 hz1 hz2 rfl (by omega) (SH.out.junk _) 0 q' j c' _ rfl rfl _ 1 1 _ rfl (Rd.oneQ _ _ ⟨s,1,u,d+1⟩) (one_encQ _) (by omega) (by omega) ?_;intro q7 c7 w7 S' hsz;have S7:=Lib.hid S';clear S' hsz))
        go_roundw
        case rel=>exact⟨j+1,q7,c7,by omega,by go_num,rfl,by rw [HT.out,List.map_append,encQ_append];exact S7.out⟩
        case measure=>simp [intOf];omega
       ·obtain rfl:j=L.length:=by omega
        rw [List.take_length] at S
        have SH:=Lib.hid S;clear S
        go_wp2
        go_ret2
        exact⟨q',c',rfl,SH.out.pick [0] (by decide) rfl⟩
     ·go_enter Tryz.func213,Tryz.ntmps213
      go_wp2_with (first | (go_at_call 82;go_must (refine(HC.out _ S1.out.ext).mono ?_;rintro e w2 ⟨rfl,hb⟩;have S2:=Lib.hid (S1.out.call hb);clear y0 y1 y2 y3 yz b0 b1 b2 b3 bz hb;obtain⟨y0,y1,y2,y3,yz⟩:=bkc0c1c2c3l (S2.out.blk 1 rfl);obtain⟨a0,a4,az⟩:=bkc0c4l (S2.out.blk 3 rfl))) | (go_at_call 245;go_must (refine(HG.out _ S0.out.ext).mono ?_;rintro e w1 ⟨q,c,rfl,Z⟩;have S1:=Lib.hid (S0.out.comp Z);obtain⟨y0,y1,y2,y3,yz⟩:=bkc0c1c2c3l (S1.out.blk 1 rfl);obtain⟨b0,b1,b2,b3,bz⟩:=bkc0c1c2c3l (S1.out.blk 2 rfl);clear Z)))
      have nL:=Lib.hid ((S2.out.rdx 0 rfl).nI)
      have pL:=(S2.out.rdx 0 rfl).ptr
      have sL:=(S2.out.rdx 0 rfl).small
      have S3:=Lib.hid ((S2.out.nilrow 138 4).pick [0,1,2] (by decide) rfl:Sep w w2 [.own 138 4 none 0 0 [],.own 3 1 q L.length c (encI L),.blk (w.heap.size+1+1) 146 #[.int .i64 s,.int .i64 1,.int .i64 v,.int .i64 d]])
      clear y0 y1 y2 y3 yz a0 a4 az S2 S1 S0 HC HG
      go_loopw [11,13,69] (fun m _ i wr=>∃ (j:Nat) (q':Option Addr) (c':Nat),j≤L.length∧i=.int .i64 j∧m=.slice q' j c'∧Sep w wr [.own 138 4 q' j c' (encQ ((L.take j).map fun v=>(⟨s,1,v,d+1⟩:Sq))),.own 3 1 q L.length c (encI L),.blk (w.heap.size+1+1) 146 #[.int .i64 s,.int .i64 1,.int .i64 v,.int .i64 d]]) (fun _ _ i _=>L.length - (intOf i).toNat)
      case atStart=>exact⟨0,none,0,Nat.zero_le _,rfl,rfl,S3.out⟩
      case round =>
       clear S3
       obtain⟨j,q',c',hj,rfl,rfl,S⟩:=hrel
       by_cases hlt:j<L.length
       ·have g1:=(S.rdx 1 rfl).cI hlt
        have HT:=Lib.hid (take_succ_nth L j hlt)
        have d1:(0:Int)≤j:=by omega
        have d2:(j:Int)<L.length:=by omega
        have hl:=HL.out
        have y0:=((Lib.hid S).out.blk 2 rfl).cell 0;have y1:=((Lib.hid S).out.blk 2 rfl).cell 1;have y2:=((Lib.hid S).out.blk 2 rfl).cell 2;have y3:=((Lib.hid S).out.blk 2 rfl).cell 3;have yz:=((Lib.hid S).out.blk 2 rfl).lt
        have SH:=Lib.hid S;clear S
        generalize nth L j=u at *
        go_wp2_with (at_builtin;go_must (refine wpList_append_sep rfl _ _ _ rfl 138 i0 _ 4 32 Tryz.underlying83 hi0 hz0 hz1 hz2 rfl (by omega) (SH.out.junk _) 0 q' j c' _ rfl rfl _ 1 1 _ rfl (Rd.oneQ _ _ ⟨s,1,u,d+1⟩) (one_encQ _) (by omega) (by omega) ?_;intro q7 c7 w7 S' hsz;have S7:=Lib.hid S';clear S' hsz))
        go_roundw
        case rel=>exact⟨j+1,q7,c7,by omega,by go_num,rfl,by rw [HT.out,List.map_append,encQ_append];exact S7.out⟩
        case measure=>simp [intOf];omega
       ·obtain rfl:j=L.length:=by omega
        rw [List.take_length] at S
        have SH:=Lib.hid S;clear S
        go_wp2
        go_ret2
        exact⟨q',c',rfl,SH.out.pick [0] (by decide) rfl⟩
   ·rw [nxC_1 (fun h=>hd h.2.2),nxL_no (Or.inl (by decide))]
    by_cases hd0:0≤d
    ·have e1:decide (d<0)=false:=by simpa using hd0
     have e2:decide (200<d)=true:=by simp;omega
     clear hd
     go_enter Tryz.func213,Tryz.ntmps213
     go_wp2_with (first | (go_at_call 82;go_must (refine(HC.out _ S1.out.ext).mono ?_;rintro e w2 ⟨rfl,hb⟩;have S2:=Lib.hid (S1.out.call hb);clear y0 y1 y2 y3 yz b0 b1 b2 b3 bz hb;obtain⟨y0,y1,y2,y3,yz⟩:=bkc0c1c2c3l (S2.out.blk 1 rfl);obtain⟨a0,a4,az⟩:=bkc0c4l (S2.out.blk 3 rfl))) | (go_at_call 245;go_must (refine(HG.out _ S0.out.ext).mono ?_;rintro e w1 ⟨q,c,rfl,Z⟩;have S1:=Lib.hid (S0.out.comp Z);obtain⟨y0,y1,y2,y3,yz⟩:=bkc0c1c2c3l (S1.out.blk 1 rfl);obtain⟨b0,b1,b2,b3,bz⟩:=bkc0c1c2c3l (S1.out.blk 2 rfl);clear Z)))
     go_ret2
     exact⟨none,0,rfl,(S2.out.nilrow _ _).pick [0] (by decide) rfl⟩
    ·have e1:decide (d<0)=true:=by simpa using hd0
     clear hd
     go_enter Tryz.func213,Tryz.ntmps213
     go_wp2_with (first | (go_at_call 82;go_must (refine(HC.out _ S1.out.ext).mono ?_;rintro e w2 ⟨rfl,hb⟩;have S2:=Lib.hid (S1.out.call hb);clear y0 y1 y2 y3 yz b0 b1 b2 b3 bz hb;obtain⟨y0,y1,y2,y3,yz⟩:=bkc0c1c2c3l (S2.out.blk 1 rfl);obtain⟨a0,a4,az⟩:=bkc0c4l (S2.out.blk 3 rfl))) | (go_at_call 245;go_must (refine(HG.out _ S0.out.ext).mono ?_;rintro e w1 ⟨q,c,rfl,Z⟩;have S1:=Lib.hid (S0.out.comp Z);obtain⟨y0,y1,y2,y3,yz⟩:=bkc0c1c2c3l (S1.out.blk 1 rfl);obtain⟨b0,b1,b2,b3,bz⟩:=bkc0c1c2c3l (S1.out.blk 2 rfl);clear Z)))
     go_ret2
     exact⟨none,0,rfl,(S2.out.nilrow _ _).pick [0] (by decide) rfl⟩
theorem NextOut (k f t:Int) (pw:Option Addr) (nw cw:Nat) (rad most:Int) (po:Option Addr) (no co:Nat) (O:List Int) (pt:Option Addr) (nt ct:Nat) (T:List Int) (pr:Option Addr) (nr cr:Nat) (R:List Int) (pv:Option Addr) (nv cv:Nat) (V:List Int) (w:World) (s v d:Int) (hO:Rd w 1 po no (encI O)) (hT:Rd w 1 pt nt (encI T)) (hR:Rd w 1 pr nr (encI R)) (hV:Rd w 1 pv nv (encI V)) (hct:nt≤ct) (hcv:nv≤cv) (hb:checkR O T R V=true→(outL (checkR O T R V) O T v).length≤100000) :
  Calls Tryz.prog 213 #[.agg #[.int .i64 k,.int .i64 f,.int .i64 t,.slice pw nw cw,.int .i64 rad,.int .i64 most],.agg #[.slice po no co,.slice pt nt ct,.slice pr nr cr,.slice pv nv cv],.agg #[.int .i64 s,.int .i64 0,.int .i64 v,.int .i64 d]] w fun e w'=>∃ q c,e=.returned (.tuple #[.slice q (nextL k rad (checkR O T R V) O T R V ⟨s,0,v,d⟩).length c,.int .i64 (nextC (checkR O T R V) O R ⟨s,0,v,d⟩)])∧Sep w w' [.own 138 4 q (nextL k rad (checkR O T R V) O T R V ⟨s,0,v,d⟩).length c (encQ (nextL k rad (checkR O T R V) O T R V ⟨s,0,v,d⟩))]:=by
 obtain⟨i0,hi0,hz0,hz1,hz2⟩:=info_parts infMail
 have S0:=Lib.hid ((((Sep.start w).al #[.int .i64 k,.int .i64 f,.int .i64 t,.slice pw nw cw,.int .i64 rad,.int .i64 most] 24 w.heap.size rfl).al #[.slice po no co,.slice pt nt ct,.slice pr nr cr,.slice pv nv cv] 27 (w.heap.size+1) (by simp)).al #[.int .i64 s,.int .i64 0,.int .i64 v,.int .i64 d] 146 (w.heap.size+1+1) (by simp))
 have HC:=Lib.hid (fun W1 (h:Ext w W1)=>CheckR po no co O pt nt ct T pr nr cr R pv nv cv V W1 (hO.ext h) (hT.ext h) (hR.ext h) (hV.ext h) hct hcv)
 have HG:=Lib.hid (fun W1 (h:Ext w W1)=>OutG po no co O pt nt ct T pr nr cr R pv nv cv V W1 v (hO.ext h) (hT.ext h) (hR.ext h) (hV.ext h) hct hcv)
 unfold nextL nextC
 have hdir:((0:Int)=1)=False:=by decide
 simp only [hdir,if_false]
 clear hdir
 clear hO hT hR hV
 cases hck:checkR O T R V with
 | false =>
  rw [hck] at HC HG
  rw [nxC_40,nxL_no (Or.inl (by decide))]
  clear hck hb
  generalize outL false O T v=L at *
  generalize outB false O v=ob at *
  go_enter Tryz.func213,Tryz.ntmps213
  go_wp2_with (first | (go_at_call 82;go_must (refine(HC.out _ S1.out.ext).mono ?_;rintro e w2 ⟨rfl,hb⟩;have S2:=Lib.hid (S1.out.call hb);clear y0 y1 y2 y3 yz b0 b1 b2 b3 bz hb;obtain⟨y0,y1,y2,y3,yz⟩:=bkc0c1c2c3l (S2.out.blk 1 rfl);obtain⟨a0,a4,az⟩:=bkc0c4l (S2.out.blk 3 rfl))) | (go_at_call 244;go_must (refine(HG.out _ S0.out.ext).mono ?_;rintro e w1 ⟨q,c,rfl,Z⟩;have S1:=Lib.hid (S0.out.comp Z);obtain⟨y0,y1,y2,y3,yz⟩:=bkc0c1c2c3l (S1.out.blk 1 rfl);obtain⟨b0,b1,b2,b3,bz⟩:=bkc0c1c2c3l (S1.out.blk 2 rfl);clear Z)))
  go_ret2
  exact⟨none,0,rfl,(S2.out.nilrow _ _).pick [0] (by decide) rfl⟩
 | true =>
  rw [hck] at HC HG
  have hbL:=hb hck
  rw [hck] at hbL
  clear hck hb
  generalize outL true O T v=L at *
  cases hob:outB true O v with
  | false =>
   rw [hob] at HG
   rw [nxC_1 (fun h=>by cases h.1),nxL_no (Or.inl (by decide))]
   clear hob
   go_enter Tryz.func213,Tryz.ntmps213
   go_wp2_with (first | (go_at_call 82;go_must (refine(HC.out _ S1.out.ext).mono ?_;rintro e w2 ⟨rfl,hb⟩;have S2:=Lib.hid (S1.out.call hb);clear y0 y1 y2 y3 yz b0 b1 b2 b3 bz hb;obtain⟨y0,y1,y2,y3,yz⟩:=bkc0c1c2c3l (S2.out.blk 1 rfl);obtain⟨a0,a4,az⟩:=bkc0c4l (S2.out.blk 3 rfl))) | (go_at_call 244;go_must (refine(HG.out _ S0.out.ext).mono ?_;rintro e w1 ⟨q,c,rfl,Z⟩;have S1:=Lib.hid (S0.out.comp Z);obtain⟨y0,y1,y2,y3,yz⟩:=bkc0c1c2c3l (S1.out.blk 1 rfl);obtain⟨b0,b1,b2,b3,bz⟩:=bkc0c1c2c3l (S1.out.blk 2 rfl);clear Z)))
   go_ret2
   exact⟨none,0,rfl,(S2.out.nilrow _ _).pick [0] (by decide) rfl⟩
  | true =>
   rw [hob] at HG
   clear hob
   by_cases hd:0≤d∧d≤200
   ·rw [nxC_0 ⟨rfl,Or.inl rfl,hd⟩]
    obtain⟨hd0,hd1⟩:=hd
    by_cases h3:k=3∧rad≤d
    ·rw [nxL_no (Or.inr h3)]
     obtain⟨rfl,h3⟩:=h3
     go_enter Tryz.func213,Tryz.ntmps213
     go_wp2_with (first | (go_at_call 82;go_must (refine(HC.out _ S1.out.ext).mono ?_;rintro e w2 ⟨rfl,hb⟩;have S2:=Lib.hid (S1.out.call hb);clear y0 y1 y2 y3 yz b0 b1 b2 b3 bz hb;obtain⟨y0,y1,y2,y3,yz⟩:=bkc0c1c2c3l (S2.out.blk 1 rfl);obtain⟨a0,a4,az⟩:=bkc0c4l (S2.out.blk 3 rfl))) | (go_at_call 244;go_must (refine(HG.out _ S0.out.ext).mono ?_;rintro e w1 ⟨q,c,rfl,Z⟩;have S1:=Lib.hid (S0.out.comp Z);obtain⟨y0,y1,y2,y3,yz⟩:=bkc0c1c2c3l (S1.out.blk 1 rfl);obtain⟨b0,b1,b2,b3,bz⟩:=bkc0c1c2c3l (S1.out.blk 2 rfl);clear Z)))
     go_ret2
     exact⟨none,0,rfl,(S2.out.nilrow _ _).pick [0] (by decide) rfl⟩
    ·rw [nxL_yes rfl h3,List.length_map]
     have HL:=Lib.hid hbL
     clear hbL
     have H3:Hid (k=3→d<rad):=fun e=>Int.not_le.1 fun h=>h3 ⟨e,h⟩
     have hk3:(k == 3)=true∧decide (rad≤d)=false∨(k == 3)=false:=by
      by_cases e:k=3
      ·exact .inl ⟨by simpa using e,by simpa using H3.out e⟩
      ·exact .inr (by simpa using e)
     clear H3 h3
     rcases hk3 with ⟨k3,k4⟩ | k3
     ·obtain rfl:k=3:=by simpa using k3
      clear k3
      go_enter Tryz.func213,Tryz.ntmps213
      go_wp2_with (first | (go_at_call 82;go_must (refine(HC.out _ S1.out.ext).mono ?_;rintro e w2 ⟨rfl,hb⟩;have S2:=Lib.hid (S1.out.call hb);clear y0 y1 y2 y3 yz b0 b1 b2 b3 bz hb;obtain⟨y0,y1,y2,y3,yz⟩:=bkc0c1c2c3l (S2.out.blk 1 rfl);obtain⟨a0,a4,az⟩:=bkc0c4l (S2.out.blk 3 rfl))) | (go_at_call 244;go_must (refine(HG.out _ S0.out.ext).mono ?_;rintro e w1 ⟨q,c,rfl,Z⟩;have S1:=Lib.hid (S0.out.comp Z);obtain⟨y0,y1,y2,y3,yz⟩:=bkc0c1c2c3l (S1.out.blk 1 rfl);obtain⟨b0,b1,b2,b3,bz⟩:=bkc0c1c2c3l (S1.out.blk 2 rfl);clear Z)))
      have nL:=Lib.hid ((S2.out.rdx 0 rfl).nI)
      have pL:=(S2.out.rdx 0 rfl).ptr
      have sL:=(S2.out.rdx 0 rfl).small
      have S3:=Lib.hid ((S2.out.nilrow 138 4).pick [0,1,2] (by decide) rfl:Sep w w2 [.own 138 4 none 0 0 [],.own 3 1 q L.length c (encI L),.blk (w.heap.size+1+1) 146 #[.int .i64 s,.int .i64 0,.int .i64 v,.int .i64 d]])
      clear y0 y1 y2 y3 yz a0 a4 az S2 S1 S0 HC HG
      go_loopw [11,13,69] (fun m _ i wr=>∃ (j:Nat) (q':Option Addr) (c':Nat),j≤L.length∧i=.int .i64 j∧m=.slice q' j c'∧Sep w wr [.own 138 4 q' j c' (encQ ((L.take j).map fun v=>(⟨s,0,v,d+1⟩:Sq))),.own 3 1 q L.length c (encI L),.blk (w.heap.size+1+1) 146 #[.int .i64 s,.int .i64 0,.int .i64 v,.int .i64 d]]) (fun _ _ i _=>L.length - (intOf i).toNat)
      case atStart=>exact⟨0,none,0,Nat.zero_le _,rfl,rfl,S3.out⟩
      case round =>
       clear S3
       obtain⟨j,q',c',hj,rfl,rfl,S⟩:=hrel
       by_cases hlt:j<L.length
       ·have g1:=(S.rdx 1 rfl).cI hlt
        have HT:=Lib.hid (take_succ_nth L j hlt)
        have d1:(0:Int)≤j:=by omega
        have d2:(j:Int)<L.length:=by omega
        have hl:=HL.out
        have y0:=((Lib.hid S).out.blk 2 rfl).cell 0;have y1:=((Lib.hid S).out.blk 2 rfl).cell 1;have y2:=((Lib.hid S).out.blk 2 rfl).cell 2;have y3:=((Lib.hid S).out.blk 2 rfl).cell 3;have yz:=((Lib.hid S).out.blk 2 rfl).lt
        have SH:=Lib.hid S;clear S
        generalize nth L j=u at *
        go_wp2_with (at_builtin;go_must (refine wpList_append_sep rfl _ _ _ rfl 138 i0 _ 4 32 Tryz.underlying83 hi0 hz0 hz1 hz2 rfl (by omega) (SH.out.junk _) 0 q' j c' _ rfl rfl _ 1 1 _ rfl (Rd.oneQ _ _ ⟨s,0,u,d+1⟩) (one_encQ _) (by omega) (by omega) ?_;intro q7 c7 w7 S' hsz;have S7:=Lib.hid S';clear S' hsz))
        go_roundw
        case rel=>exact⟨j+1,q7,c7,by omega,by go_num,rfl,by rw [HT.out,List.map_append,encQ_append];exact S7.out⟩
        case measure=>simp [intOf];omega
       ·obtain rfl:j=L.length:=by omega
        rw [List.take_length] at S
        have SH:=Lib.hid S;clear S
        go_wp2
        go_ret2
        exact⟨q',c',rfl,SH.out.pick [0] (by decide) rfl⟩
     ·go_enter Tryz.func213,Tryz.ntmps213
      go_wp2_with (first | (go_at_call 82;go_must (refine(HC.out _ S1.out.ext).mono ?_;rintro e w2 ⟨rfl,hb⟩;have S2:=Lib.hid (S1.out.call hb);clear y0 y1 y2 y3 yz b0 b1 b2 b3 bz hb;obtain⟨y0,y1,y2,y3,yz⟩:=bkc0c1c2c3l (S2.out.blk 1 rfl);obtain⟨a0,a4,az⟩:=bkc0c4l (S2.out.blk 3 rfl))) | (go_at_call 244;go_must (refine(HG.out _ S0.out.ext).mono ?_;rintro e w1 ⟨q,c,rfl,Z⟩;have S1:=Lib.hid (S0.out.comp Z);obtain⟨y0,y1,y2,y3,yz⟩:=bkc0c1c2c3l (S1.out.blk 1 rfl);obtain⟨b0,b1,b2,b3,bz⟩:=bkc0c1c2c3l (S1.out.blk 2 rfl);clear Z)))
      have nL:=Lib.hid ((S2.out.rdx 0 rfl).nI)
      have pL:=(S2.out.rdx 0 rfl).ptr
      have sL:=(S2.out.rdx 0 rfl).small
      have S3:=Lib.hid ((S2.out.nilrow 138 4).pick [0,1,2] (by decide) rfl:Sep w w2 [.own 138 4 none 0 0 [],.own 3 1 q L.length c (encI L),.blk (w.heap.size+1+1) 146 #[.int .i64 s,.int .i64 0,.int .i64 v,.int .i64 d]])
      clear y0 y1 y2 y3 yz a0 a4 az S2 S1 S0 HC HG
      go_loopw [11,13,69] (fun m _ i wr=>∃ (j:Nat) (q':Option Addr) (c':Nat),j≤L.length∧i=.int .i64 j∧m=.slice q' j c'∧Sep w wr [.own 138 4 q' j c' (encQ ((L.take j).map fun v=>(⟨s,0,v,d+1⟩:Sq))),.own 3 1 q L.length c (encI L),.blk (w.heap.size+1+1) 146 #[.int .i64 s,.int .i64 0,.int .i64 v,.int .i64 d]]) (fun _ _ i _=>L.length - (intOf i).toNat)
      case atStart=>exact⟨0,none,0,Nat.zero_le _,rfl,rfl,S3.out⟩
      case round =>
       clear S3
       obtain⟨j,q',c',hj,rfl,rfl,S⟩:=hrel
       by_cases hlt:j<L.length
       ·have g1:=(S.rdx 1 rfl).cI hlt
        have HT:=Lib.hid (take_succ_nth L j hlt)
        have d1:(0:Int)≤j:=by omega
        have d2:(j:Int)<L.length:=by omega
        have hl:=HL.out
        have y0:=((Lib.hid S).out.blk 2 rfl).cell 0;have y1:=((Lib.hid S).out.blk 2 rfl).cell 1;have y2:=((Lib.hid S).out.blk 2 rfl).cell 2;have y3:=((Lib.hid S).out.blk 2 rfl).cell 3;have yz:=((Lib.hid S).out.blk 2 rfl).lt
        have SH:=Lib.hid S;clear S
        generalize nth L j=u at *
        go_wp2_with (at_builtin;go_must (refine wpList_append_sep rfl _ _ _ rfl 138 i0 _ 4 32 Tryz.underlying83 hi0 hz0 hz1 hz2 rfl (by omega) (SH.out.junk _) 0 q' j c' _ rfl rfl _ 1 1 _ rfl (Rd.oneQ _ _ ⟨s,0,u,d+1⟩) (one_encQ _) (by omega) (by omega) ?_;intro q7 c7 w7 S' hsz;have S7:=Lib.hid S';clear S' hsz))
        go_roundw
        case rel=>exact⟨j+1,q7,c7,by omega,by go_num,rfl,by rw [HT.out,List.map_append,encQ_append];exact S7.out⟩
        case measure=>simp [intOf];omega
       ·obtain rfl:j=L.length:=by omega
        rw [List.take_length] at S
        have SH:=Lib.hid S;clear S
        go_wp2
        go_ret2
        exact⟨q',c',rfl,SH.out.pick [0] (by decide) rfl⟩
   ·rw [nxC_1 (fun h=>hd h.2.2),nxL_no (Or.inl (by decide))]
    by_cases hd0:0≤d
    ·have e1:decide (d<0)=false:=by simpa using hd0
     have e2:decide (200<d)=true:=by simp;omega
     clear hd
     go_enter Tryz.func213,Tryz.ntmps213
     go_wp2_with (first | (go_at_call 82;go_must (refine(HC.out _ S1.out.ext).mono ?_;rintro e w2 ⟨rfl,hb⟩;have S2:=Lib.hid (S1.out.call hb);clear y0 y1 y2 y3 yz b0 b1 b2 b3 bz hb;obtain⟨y0,y1,y2,y3,yz⟩:=bkc0c1c2c3l (S2.out.blk 1 rfl);obtain⟨a0,a4,az⟩:=bkc0c4l (S2.out.blk 3 rfl))) | (go_at_call 244;go_must (refine(HG.out _ S0.out.ext).mono ?_;rintro e w1 ⟨q,c,rfl,Z⟩;have S1:=Lib.hid (S0.out.comp Z);obtain⟨y0,y1,y2,y3,yz⟩:=bkc0c1c2c3l (S1.out.blk 1 rfl);obtain⟨b0,b1,b2,b3,bz⟩:=bkc0c1c2c3l (S1.out.blk 2 rfl);clear Z)))
     go_ret2
     exact⟨none,0,rfl,(S2.out.nilrow _ _).pick [0] (by decide) rfl⟩
    ·have e1:decide (d<0)=true:=by simpa using hd0
     clear hd
     go_enter Tryz.func213,Tryz.ntmps213
     go_wp2_with (first | (go_at_call 82;go_must (refine(HC.out _ S1.out.ext).mono ?_;rintro e w2 ⟨rfl,hb⟩;have S2:=Lib.hid (S1.out.call hb);clear y0 y1 y2 y3 yz b0 b1 b2 b3 bz hb;obtain⟨y0,y1,y2,y3,yz⟩:=bkc0c1c2c3l (S2.out.blk 1 rfl);obtain⟨a0,a4,az⟩:=bkc0c4l (S2.out.blk 3 rfl))) | (go_at_call 244;go_must (refine(HG.out _ S0.out.ext).mono ?_;rintro e w1 ⟨q,c,rfl,Z⟩;have S1:=Lib.hid (S0.out.comp Z);obtain⟨y0,y1,y2,y3,yz⟩:=bkc0c1c2c3l (S1.out.blk 1 rfl);obtain⟨b0,b1,b2,b3,bz⟩:=bkc0c1c2c3l (S1.out.blk 2 rfl);clear Z)))
     go_ret2
     exact⟨none,0,rfl,(S2.out.nilrow _ _).pick [0] (by decide) rfl⟩
end
section
open Go Go.RowKit
theorem NextBad (k f t:Int) (pw:Option Addr) (nw cw:Nat) (rad most:Int) (po:Option Addr) (no co:Nat) (O:List Int) (pt:Option Addr) (nt ct:Nat) (T:List Int) (pr:Option Addr) (nr cr:Nat) (R:List Int) (pv:Option Addr) (nv cv:Nat) (V:List Int) (w:World) (s r v d:Int) (hO:Rd w 1 po no (encI O)) (hT:Rd w 1 pt nt (encI T)) (hR:Rd w 1 pr nr (encI R)) (hV:Rd w 1 pv nv (encI V)) (hct:nt≤ct) (hcv:nv≤cv) (h0:r≠0) (h1:r≠1) :
  Calls Tryz.prog 213 #[.agg #[.int .i64 k,.int .i64 f,.int .i64 t,.slice pw nw cw,.int .i64 rad,.int .i64 most],.agg #[.slice po no co,.slice pt nt ct,.slice pr nr cr,.slice pv nv cv],.agg #[.int .i64 s,.int .i64 r,.int .i64 v,.int .i64 d]] w fun e w'=>∃ q c,e=.returned (.tuple #[.slice q (nextL k rad (checkR O T R V) O T R V ⟨s,r,v,d⟩).length c,.int .i64 (nextC (checkR O T R V) O R ⟨s,r,v,d⟩)])∧Sep w w' [.own 138 4 q (nextL k rad (checkR O T R V) O T R V ⟨s,r,v,d⟩).length c (encQ (nextL k rad (checkR O T R V) O T R V ⟨s,r,v,d⟩))]:=by
 have S0:=Lib.hid ((((Sep.start w).al #[.int .i64 k,.int .i64 f,.int .i64 t,.slice pw nw cw,.int .i64 rad,.int .i64 most] 24 w.heap.size rfl).al #[.slice po no co,.slice pt nt ct,.slice pr nr cr,.slice pv nv cv] 27 (w.heap.size+1) (by simp)).al #[.int .i64 s,.int .i64 r,.int .i64 v,.int .i64 d] 146 (w.heap.size+1+1) (by simp))
 have HC:=Lib.hid (fun W1 (h:Ext w W1)=>CheckR po no co O pt nt ct T pr nr cr R pv nv cv V W1 (hO.ext h) (hT.ext h) (hR.ext h) (hV.ext h) hct hcv)
 have HG:=Lib.hid (fun W1 (h:Ext w W1)=>OutG po no co O pt nt ct T pr nr cr R pv nv cv V W1 v (hO.ext h) (hT.ext h) (hR.ext h) (hV.ext h) hct hcv)
 unfold nextL nextC
 simp only [if_neg h1]
 clear hO hT hR hV
 have e1:(r == 1)=false:=by simpa using h1
 have e0:(r != 0)=true:=by simpa using h0
 have e2:(r != 1)=true:=by simpa using h1
 generalize hck:checkR O T R V=ck at *
 have HN:Hid (nxC ck (outB ck O v) ⟨s,r,v,d⟩=if ck=false then 40 else 1):=by
  unfold Hid nxC
  cases ck with
  | false=>rfl
  | true=>simp [h0,h1]
 rw [HN.out,nxL_no (Or.inl (by cases ck <;> decide))]
 clear HN h0 h1 hck
 generalize outL ck O T v=L at *
 generalize outB ck O v=ob at *
 cases ck with
 | false =>
  go_enter Tryz.func213,Tryz.ntmps213
  go_wp2_with (first | (go_at_call 82;go_must (refine(HC.out _ S1.out.ext).mono ?_;rintro e w2 ⟨rfl,hb⟩;have S2:=Lib.hid (S1.out.call hb);clear y0 y1 y2 y3 yz b0 b1 b2 b3 bz hb;obtain⟨y0,y1,y2,y3,yz⟩:=bkc0c1c2c3l (S2.out.blk 1 rfl);obtain⟨a0,a4,az⟩:=bkc0c4l (S2.out.blk 3 rfl))) | (go_at_call 244;go_must (refine(HG.out _ S0.out.ext).mono ?_;rintro e w1 ⟨q,c,rfl,Z⟩;have S1:=Lib.hid (S0.out.comp Z);obtain⟨y0,y1,y2,y3,yz⟩:=bkc0c1c2c3l (S1.out.blk 1 rfl);obtain⟨b0,b1,b2,b3,bz⟩:=bkc0c1c2c3l (S1.out.blk 2 rfl);clear Z)))
  go_ret2
  exact⟨none,0,rfl,(S2.out.nilrow _ _).pick [0] (by decide) rfl⟩
 | true =>
  cases ob with
  | false =>
   go_enter Tryz.func213,Tryz.ntmps213
   go_wp2_with (first | (go_at_call 82;go_must (refine(HC.out _ S1.out.ext).mono ?_;rintro e w2 ⟨rfl,hb⟩;have S2:=Lib.hid (S1.out.call hb);clear y0 y1 y2 y3 yz b0 b1 b2 b3 bz hb;obtain⟨y0,y1,y2,y3,yz⟩:=bkc0c1c2c3l (S2.out.blk 1 rfl);obtain⟨a0,a4,az⟩:=bkc0c4l (S2.out.blk 3 rfl))) | (go_at_call 244;go_must (refine(HG.out _ S0.out.ext).mono ?_;rintro e w1 ⟨q,c,rfl,Z⟩;have S1:=Lib.hid (S0.out.comp Z);obtain⟨y0,y1,y2,y3,yz⟩:=bkc0c1c2c3l (S1.out.blk 1 rfl);obtain⟨b0,b1,b2,b3,bz⟩:=bkc0c1c2c3l (S1.out.blk 2 rfl);clear Z)))
   go_ret2
   exact⟨none,0,rfl,(S2.out.nilrow _ _).pick [0] (by decide) rfl⟩
  | true =>
   go_enter Tryz.func213,Tryz.ntmps213
   go_wp2_with (first | (go_at_call 82;go_must (refine(HC.out _ S1.out.ext).mono ?_;rintro e w2 ⟨rfl,hb⟩;have S2:=Lib.hid (S1.out.call hb);clear y0 y1 y2 y3 yz b0 b1 b2 b3 bz hb;obtain⟨y0,y1,y2,y3,yz⟩:=bkc0c1c2c3l (S2.out.blk 1 rfl);obtain⟨a0,a4,az⟩:=bkc0c4l (S2.out.blk 3 rfl))) | (go_at_call 244;go_must (refine(HG.out _ S0.out.ext).mono ?_;rintro e w1 ⟨q,c,rfl,Z⟩;have S1:=Lib.hid (S0.out.comp Z);obtain⟨y0,y1,y2,y3,yz⟩:=bkc0c1c2c3l (S1.out.blk 1 rfl);obtain⟨b0,b1,b2,b3,bz⟩:=bkc0c1c2c3l (S1.out.blk 2 rfl);clear Z)))
   go_ret2
   exact⟨none,0,rfl,(S2.out.nilrow _ _).pick [0] (by decide) rfl⟩
theorem NextQ (k f t:Int) (pw:Option Addr) (nw cw:Nat) (rad most:Int) (po:Option Addr) (no co:Nat) (O:List Int) (pt:Option Addr) (nt ct:Nat) (T:List Int) (pr:Option Addr) (nr cr:Nat) (R:List Int) (pv:Option Addr) (nv cv:Nat) (V:List Int) (w:World) (x:Sq) (hO:Rd w 1 po no (encI O)) (hT:Rd w 1 pt nt (encI T)) (hR:Rd w 1 pr nr (encI R)) (hV:Rd w 1 pv nv (encI V)) (hct:nt≤ct) (hcv:nv≤cv) (hb:∀ v,checkR O T R V=true→(outL (checkR O T R V) O T v).length≤100000∧(outL (checkR O T R V) R V v).length≤100000) :
  Calls Tryz.prog 213 #[.agg #[.int .i64 k,.int .i64 f,.int .i64 t,.slice pw nw cw,.int .i64 rad,.int .i64 most],.agg #[.slice po no co,.slice pt nt ct,.slice pr nr cr,.slice pv nv cv],.agg #[.int .i64 x.s,.int .i64 x.r,.int .i64 x.v,.int .i64 x.d]] w fun e w'=>∃ q c,e=.returned (.tuple #[.slice q (nextL k rad (checkR O T R V) O T R V x).length c,.int .i64 (nextC (checkR O T R V) O R x)])∧Sep w w' [.own 138 4 q (nextL k rad (checkR O T R V) O T R V x).length c (encQ (nextL k rad (checkR O T R V) O T R V x))]:=by
 obtain⟨s,r,v,d⟩:=x
 by_cases h1:r=1
 ·subst h1
  exact NextIn k f t pw nw cw rad most po no co O pt nt ct T pr nr cr R pv nv cv V w s v d hO hT hR hV hct hcv (fun h=>(hb v h).2)
 ·by_cases h0:r=0
  ·subst h0
   exact NextOut k f t pw nw cw rad most po no co O pt nt ct T pr nr cr R pv nv cv V w s v d hO hT hR hV hct hcv (fun h=>(hb v h).1)
  ·exact NextBad k f t pw nw cw rad most po no co O pt nt ct T pr nr cr R pv nv cv V w s r v d hO hT hR hV hct hcv h0 h1
end
section
open Go Go.RowKit
theorem outB_iff {b:Bool} {A:List Int} {v:Int}:outB b A v=true↔b=true∧0≤v∧v<(A.length:Int) - 1:=by
 unfold outB
 rw [Bool.and_eq_true,Bool.and_eq_true,decide_eq_true_eq,decide_eq_true_eq]
 constructor
 ·rintro⟨⟨h1,h2⟩,h3⟩;exact⟨h1,h2,h3⟩
 ·rintro⟨h1,h2,h3⟩;exact⟨⟨h1,h2⟩,h3⟩
theorem nextL_mem {k rad:Int} {ck:Bool} {O T R V:List Int} {x y:Sq} (h:y∈nextL k rad ck O T R V x):y=⟨x.s,x.r,y.v,x.d+1⟩∧y.v∈(if x.r=1 then outL ck R V x.v else outL ck O T x.v):=by
 unfold nextL nxL at h
 split at h
 ·obtain⟨v,hv,rfl⟩:=List.mem_map.1 h
  exact⟨rfl,hv⟩
 ·cases h
theorem outL_rises {O T R V:List Int} (hck:checkR O T R V=true) (v:Int):Rises ltI (outL true O T v)∧Rises ltI (outL true R V v):=by
 obtain⟨e1,e2,e3,e4⟩:=checkR_half hck
 constructor
 ·cases hb:outB true O v with
  | false=>rw [outL_no hb];exact List.Pairwise.nil
  | true =>
   rw [outL_yes hb]
   obtain⟨_,v0,v1⟩:=outB_iff.1 hb
   exact row_rises e3 (by omega)
 ·cases hb:outB true R v with
  | false=>rw [outL_no hb];exact List.Pairwise.nil
  | true =>
   rw [outL_yes hb]
   obtain⟨_,v0,v1⟩:=outB_iff.1 hb
   exact row_rises e4 (by omega)
theorem next_rises {k rad:Int} {O T R V:List Int} {x:Sq} (hck:checkR O T R V=true):(nextL k rad true O T R V x).Pairwise fun a b=>a.v<b.v:=by
 unfold nextL nxL
 split
 ·refine List.Pairwise.map _ (R:=fun a b=>a<b) (fun a b h=>h) ?_
  have h:=outL_rises hck x.v
  split
  ·exact h.2.imp fun {a b} h=>by simpa [ltI] using h
  ·exact h.1.imp fun {a b} h=>by simpa [ltI] using h
 ·exact List.Pairwise.nil
theorem out_2000 {O T R V:List Int} (hck:checkR O T R V=true) (v:Int):(outL true O T v).length≤2000∧(outL true R V v).length≤2000:=by
 obtain⟨e1,e2,e3,e4⟩:=checkR_half hck
 obtain⟨r1,r2,r3,r4,r5,r6⟩:=offB_parts (halfB_off e3)
 exact⟨outL_I (by omega),outL_I (by omega)⟩
end
section
open Go Go.RowKit
def dirN (ρ:Int) (O T R V:List Int):Nat→List Int:=nxR (decide (ρ=1)) O T R V
theorem dirN_in {O T R V:List Int} {n:Nat} (hck:checkR O T R V=true) (hn:O.length=n+1) (ρ:Int):InN (dirN ρ O T R V) n:=by
 have:=nxR_in hck (decide (ρ=1))
 rw [hn] at this
 exact this
theorem next_leads {k rad:Int} {O T R V:List Int} {n:Nat} (hck:checkR O T R V=true) (hn:O.length=n+1):Leads n (nextL k rad true O T R V):=by
 intro x y hx hy
 obtain⟨e1,e2,e3,e4⟩:=checkR_half hck
 obtain⟨x1,x2,x3,x4⟩:=hx
 obtain⟨h1,h2⟩:=nextL_mem hy
 refine⟨h1,?_⟩
 have hv:x.v.toNat<n:=by omega
 have hin:=dirN_in hck hn x.r _ hv y.v
 unfold dirN nxR at hin
 by_cases h:x.r=1
 ·rw [if_pos h] at h2
  rw [if_pos (by simpa using h)] at hin
  have hb:outB true R x.v=true:=outB_iff.2 ⟨rfl,x3,by omega⟩
  rw [outL_yes hb] at h2
  exact hin h2
 ·rw [if_neg h] at h2
  rw [if_neg (by simpa using h)] at hin
  have hb:outB true O x.v=true:=outB_iff.2 ⟨rfl,x3,by omega⟩
  rw [outL_yes hb] at h2
  exact hin h2
theorem start_facts {k rad most:Int} {s t n:Nat} (hk:k=1∨k=2∨k=3) (hs:s<n) (ht:k=1→t<n) (_:rad=rad) (_:most=most) :
  KeysUp (startQ k s t 0)∧(∀ x∈startQ k s t 0,KeyN n x∧x.d=0)∧(∀ x,x.r=0→(x∈startQ k s t 0↔x=⟨0,0,s,0⟩))∧(k=1→∀ x,x.r=1→(x∈startQ k s t 0↔x=⟨0,1,t,0⟩))∧(k≠1→∀ x∈startQ k s t 0,x.r=0):=by
 unfold startQ
 by_cases h1:k=1
 ·rw [if_pos h1]
  have ht:=ht h1
  refine⟨keyed_cons.2 ⟨fun x hx=>?_,keyed_cons.2 ⟨fun x hx=>(by cases hx),keyed_nil⟩⟩,fun x hx=>?_,fun x hr=>?_,fun _ x hr=>?_,fun h=>absurd h1 h⟩
  ·rw [List.mem_singleton] at hx
   subst hx
   rfl
  ·simp only [List.mem_cons,List.not_mem_nil,or_false] at hx
   rcases hx with rfl | rfl
   ·exact⟨⟨rfl,Or.inl rfl,by simp only;omega,by simp only;omega⟩,rfl⟩
   ·exact⟨⟨rfl,Or.inr rfl,by simp only;omega,by simp only;omega⟩,rfl⟩
  ·simp only [List.mem_cons,List.not_mem_nil,or_false]
   constructor
   ·rintro(rfl | rfl)
    ·rfl
    ·simp at hr
   ·exact Or.inl
  ·simp only [List.mem_cons,List.not_mem_nil,or_false]
   constructor
   ·rintro(rfl | rfl)
    ·simp at hr
    ·rfl
   ·exact Or.inr
 ·rw [if_neg h1,if_pos (by omega)]
  refine⟨keyed_cons.2 ⟨fun x hx=>(by cases hx),keyed_nil⟩,fun x hx=>?_,fun x hr=>?_,fun h=>absurd h h1,fun _ x hx=>?_⟩
  ·rw [List.mem_singleton] at hx
   subst hx
   exact⟨⟨rfl,Or.inl rfl,by simp only;omega,by simp only;omega⟩,rfl⟩
  ·rw [List.mem_singleton]
  ·rw [List.mem_singleton] at hx
   subst hx
   rfl
theorem run_out {k rad:Int} {O T R V:List Int} {n:Nat} (hck:checkR O T R V=true) (hn:O.length=n+1) {M0:List Sq} (h0:KeysUp M0) (h1:∀ x∈M0,KeyN n x∧x.d=0) (h2:∀ x∈M0,x.r=0) :
  ∀ i,∀ x∈(runM (nextL k rad true O T R V) M0 i).2,x.r=0
 | 0,x,hx=>h2 x hx
 | i+1,x,hx=>by
  have hl:Leads n (nextL k rad true O T R V):=next_leads hck hn
  have hI:=runI_all hl h0 h1 i
  obtain⟨⟨hx1,_⟩,_⟩:=(runI_ms hI _).1 hx
  obtain⟨y,hy,hyx⟩:=List.mem_flatMap.1 hx1
  rw [(hl y x (hI.ms y hy).1 hyx).1]
  exact run_out hck hn h0 h1 h2 i y hy
end
section
open Go Go.RowKit
theorem next_up {k rad:Int} {O T R V:List Int} {n:Nat} (hck:checkR O T R V=true) (hn:O.length=n+1) {x:Sq} (hx:KeyN n x):(nextL k rad true O T R V x).length≤n:=by
 have hl:Leads n (nextL k rad true O T R V):=next_leads hck hn
 have hm:=keyed_most (n:=n) (ρ:=x.r) (m:=0) (l:=nextL k rad true O T R V x)
  (List.Pairwise.imp_of_mem (fun {a b} ha hb h=>by
   have e1:=(hl x a hx ha).1
   have e2:=(hl x b hx hb).1
   have a1:a.s=x.s:=by rw [e1]
   have a2:a.r=x.r:=by rw [e1]
   have b1:b.s=x.s:=by rw [e2]
   have b2:b.r=x.r:=by rw [e2]
   rw [keyLt_iff]
   exact Or.inr ⟨by omega,Or.inr ⟨by omega,by omega⟩⟩) (next_rises hck))
  (fun y hy=>by
   obtain⟨e,h1,h2⟩:=hl x y hx hy
   refine⟨?_,?_,h1,h2⟩
   ·rw [e];exact hx.1
   ·rw [e]) (by omega)
 omega
theorem StepRun (k f t:Int) (pw:Option Addr) (nw cw:Nat) (rad most:Int) (po:Option Addr) (no co:Nat) (O:List Int) (pt:Option Addr) (nt ct:Nat) (T:List Int) (pr:Option Addr) (nr cr:Nat) (R:List Int) (pv:Option Addr) (nv cv:Nat) (V:List Int) (w:World) (n i:Nat) (p:List Sq × List Sq) (ps:Option Addr) (ns cs:Nat) (pm:Option Addr) (nm cm:Nat) (wk:Nat) (pp:Option Addr) (np cp:Nat) (pk:List Int) (hO:Rd w 1 po no (encI O)) (hT:Rd w 1 pt nt (encI T)) (hR:Rd w 1 pr nr (encI R)) (hV:Rd w 1 pv nv (encI V)) (hct:nt≤ct) (hcv:nv≤cv)
  (hck:checkR O T R V=true) (hn:O.length=n+1) (h200:n≤200) (hi:i≤200) (hI:RunI n i p) (h1:1≤wk) (h16:wk≤16) (hs:Rd w 4 ps ns (encQ p.1)) (hm:Rd w 4 pm nm (encQ p.2)) (hpk:Rd w 1 pp np (encI pk)) :
  Calls Tryz.prog 94 #[.agg #[.int .i64 k,.int .i64 f,.int .i64 t,.slice pw nw cw,.int .i64 rad,.int .i64 most],.agg #[.slice po no co,.slice pt nt ct,.slice pr nr cr,.slice pv nv cv],.slice ps ns cs,.slice pm nm cm,.int .i64 wk,.slice pp np cp] w fun e w'=>∃ q c q2 c2,e=.returned (.tuple #[.slice q (stepM (nextL k rad true O T R V) p.1 p.2).1.length c,.slice q2 (stepM (nextL k rad true O T R V) p.1 p.2).2.length c2,.int .i64 0]) ∧
   Sep w w' [.own 146 4 q (stepM (nextL k rad true O T R V) p.1 p.2).1.length c (encQ (stepM (nextL k rad true O T R V) p.1 p.2).1),.own 138 4 q2 (stepM (nextL k rad true O T R V) p.1 p.2).2.length c2 (encQ (stepM (nextL k rad true O T R V) p.1 p.2).2)]:=by
 have hl:Leads n (nextL k rad true O T R V):=next_leads hck hn
 have hms:∀ x∈p.2,mayB x=true∧x.v<n:=fun x hx=>by
  obtain⟨a,b⟩:=hI.ms x hx
  exact⟨may_run a h200 (by omega) (by omega),a.2.2.2⟩
 refine StepG k f t pw nw cw rad most po no co pt nt ct pr nr cr pv nv cv n (nextL k rad true O T R V) ps ns cs p.1 pm nm cm p.2 wk pp np cp pk w (by rw [hO.nI,hn]) h200 h1 h16 hs hm hpk hI.kst
  (fun x hx=>by
   obtain⟨a,b,c⟩:=hI.st x hx
   exact⟨may_run a h200 (by omega) (by omega),a.2.2.2⟩) hms (fun x hx=>⟨Nat.le_trans (next_up hck hn (hI.ms x hx).1) h200,fun y hy=>?_⟩)
  (by rw [hs.nQ];have:=run_most hI.kst (fun x hx=>(hI.st x hx).1);omega) (by rw [hm.nQ];have:=run_most hI.kms (fun x hx=>(hI.ms x hx).1);omega)
  (fun x hx=>hx.elim (fun h=>(hI.st x h).1) (fun h=>(hI.ms x h).1)) (fun W h=>?_) (fun x hx W h=>?_)
 ·obtain⟨a1,a2⟩:=hI.ms x hx
  obtain⟨e,y1,y2⟩:=hl x y a1 hy
  obtain⟨x1,x2,x3,x4⟩:=a1
  unfold Sq.I I64
  have q1:IntKind.i64.min = -9223372036854775808:=rfl
  have q2:IntKind.i64.max=9223372036854775807:=rfl
  have f1:y.s=x.s:=by rw [e]
  have f2:y.r=x.r:=by rw [e]
  have f3:y.d=x.d+1:=by rw [e]
  refine⟨?_,?_,?_,?_⟩ <;> (show (_ && _)=true;simp;omega)
 ·have:=CheckR po no co O pt nt ct T pr nr cr R pv nv cv V W (hO.ext h) (hT.ext h) (hR.ext h) (hV.ext h) hct hcv
  rw [hck] at this
  exact this
 ·have hN:=NextQ k f t pw nw cw rad most po no co O pt nt ct T pr nr cr R pv nv cv V W x (hO.ext h) (hT.ext h) (hR.ext h) (hV.ext h) hct hcv (fun v _=>by
   rw [hck]
   have:=out_2000 hck v
   omega)
  obtain⟨a1,a2⟩:=hI.ms x hx
  obtain⟨x1,x2,x3,x4⟩:=a1
  have hc:nextC true O R x=0:=by
   obtain⟨e1,_⟩:=checkR_half hck
   have hb:outB true (if x.r=1 then R else O) x.v=true:=by
    rw [outB_iff]
    split
    ·refine⟨rfl,x3,?_⟩;omega
    ·refine⟨rfl,x3,?_⟩;omega
   unfold nextC
   rw [hb]
   exact nxC_0 ⟨rfl,x2,by omega,by omega⟩
  rw [hck,hc] at hN
  exact hN
end
section
open Go Go.RowKit Go.Maps
theorem least_at {l:List Sq} {f:Int→Option I6} (h:Least l 0 f) (t:Int):(f t).isSome=atS l t:=by
 cases hf:f t with
 | none =>
  have:=h.1 t hf
  cases ha:atS l t with
  | false=>rfl
  | true =>
   obtain⟨x,hx,h1,h2⟩:=atS_iff.1 ha
   exact absurd h2 (this x hx h1)
 | some d =>
  obtain⟨x,hx,h1,h2,_⟩:=(h.2 t d hf).1
  exact(atS_iff.2 ⟨x,hx,h1,h2⟩).symm
theorem Done2 (f t:Int) (pw:Option Addr) (nw cw:Nat) (rad most:Int) (pl:Option Addr) (nl cl:Nat) (p:Option Addr) (n c:Nat) (l:List Sq) (pm:Option Addr) (nm cm:Nat) (w:World) (hl:Rd w 4 p n (encQ l)) (hi:∀ x∈l,I64 x.v∧I64 x.d) (hn:n≤1000000) (ht:I64 t) :
  Calls Tryz.prog 95 #[.agg #[.int .i64 2,.int .i64 f,.int .i64 t,.slice pw nw cw,.int .i64 rad,.int .i64 most],.slice pl nl cl,.slice p n c,.slice pm nm cm] w fun e w'=>e=.returned (.tuple #[.agg #[.bool (atS l t),.int .i64 0,.slice none 0 0],.bool (atS l t || decide (nm=0))])∧Ext w w':=by
 have S0:=Lib.hid ((((Sep.start w).al #[.int .i64 2,.int .i64 f,.int .i64 t,.slice pw nw cw,.int .i64 rad,.int .i64 most] 24 w.heap.size rfl).al #[.slice pm nm cm] 83 (w.heap.size+1) (by simp)).al #[.bool false,.int .i64 0,.slice none 0 0] 34 (w.heap.size+1+1) (by simp))
 have HLE:=Lib.hid (fun W (h:Ext w W)=>leastG p n c l 0 W (hl.ext h) hi hn)
 clear hl hi
 cases hbb:atS l t with
 | true =>
  have HB:=Lib.hid hbb
  have HD:Hid ((true || decide (nm=0))=true):=rfl
  go_enter Tryz.func95,Tryz.ntmps95
  go_wp2
  obtain⟨X,hX⟩:∃ X,X=((w.alloc (.cells #[.int .i64 2,.int .i64 f,.int .i64 t,.slice pw nw cw,.int .i64 rad,.int .i64 most] 24)).alloc (.cells #[.slice pm nm cm] 83)).alloc (.cells #[.bool false,.int .i64 0,.slice none 0 0] 34):=⟨_,rfl⟩
  rw [← hX] at S0 ⊢
  clear hX
  have a2:X.cell? ⟨w.heap.size,2,none⟩=some (.int .i64 t):=(S0.out.blk 2 rfl).cell 2
  refine wp_region_noPanic ?_
  refine wp_region_held_drew (S:=fun w'=>w'.cell? ⟨w.heap.size,2,none⟩=some (.int .i64 t)) (by kernel_rfl) a2 (fun hHeld=>?_)
  have SD:=Lib.hid S0.out.drew
  clear S0 a2
  generalize X.drew=D at SD hHeld ⊢
  clear X
  refine wpAnyH_take (i:=0) (v:=.slice p n c) rfl (by kernel_rfl) (by kernel_rfl) (by kernel_rfl) (noPanic_q _ _) (Or.inl ⟨by kernel_rfl,fun W hSw=>by have h1:=hSw;go_simp⟩) hHeld ?_
  refine wpAnyH_take (i:=2) (v:=.pointer (some ⟨w.heap.size,2,none⟩)) rfl (by kernel_rfl) (by kernel_rfl) (by kernel_rfl) (noPanic_q _ _) (Or.inl ⟨by kernel_rfl,fun W hSw=>by have h1:=hSw;go_simp⟩) hHeld ?_
  refine wpAnyH_take (i:=3) (v:=.int .i64 t) rfl (by kernel_rfl) (by kernel_rfl) (by kernel_rfl) (noPanic_q _ _) (Or.inl ⟨by kernel_rfl,fun W hSw=>by have h1:=hSw;go_simp⟩) hHeld ?_
  refine wpAnyH_ready (rs:=[1]) (by kernel_rfl) (by simp) (AllReadyH.cons rfl (fun K hK=>?_) AllReadyH.nil)
  go_simp
  refine(HLE.out _ SD.out.ext).mono ?_
  rintro e w1 ⟨b,m,g,hm,rfl,Z,hg⟩
  have HG:=Lib.hid (least_at hg t)
  have S1:=Lib.hid (SD.out.comp Z)
  clear hg Z SD
  have a2:w1.cell? ⟨w.heap.size,2,none⟩=some (.int .i64 t):=(S1.out.blk 3 rfl).cell 2
  refine hK.out _ _ a2 (fun hHeld=>?_)
  clear hK
  have k0:=(S1.out.map 0 rfl).lookup_ok (t:=214) Tryz.underlying3 Tryz.underlying214 ht
  rw [HG.out,HB.out] at k0
  generalize (g t).getD EI6.z=z0 at k0
  have k1:(Instr.lookup 214 (.map (some b)) (.int .i64 t) true).run Tryz.prog w1=.ok (.tuple #[.int .i64 z0.1,.bool true]) w1:=k0
  clear k0 HG
  refine wpAnyH_ready (rs:=[4]) (by kernel_rfl) (by simp) (AllReadyH.cons rfl (fun K hK=>?_) AllReadyH.nil)
  go_simp
  refine hK.out _ _ a2 (fun hHeld=>?_)
  clear hK k1
  refine wpAnyH_take (i:=5) (v:=.tuple #[.int .i64 z0.1,.bool true]) rfl (by kernel_rfl) (by kernel_rfl) (by kernel_rfl) (noPanic_q _ _) (Or.inl ⟨by kernel_rfl,fun W hSw=>by have h1:=hSw;go_simp⟩) hHeld ?_
  refine wpAnyH_take (i:=6) (v:=.int .i64 z0.1) rfl (by kernel_rfl) (by kernel_rfl) (by kernel_rfl) (noPanic_q _ _) (Or.inl ⟨by kernel_rfl,fun W hSw=>by have h1:=hSw;go_simp⟩) hHeld ?_
  refine wpAnyH_take (i:=7) (v:=.bool true) rfl (by kernel_rfl) (by kernel_rfl) (by kernel_rfl) (noPanic_q _ _) (Or.inl ⟨by kernel_rfl,fun W hSw=>by have h1:=hSw;go_simp⟩) hHeld ?_
  refine wpAnyH_take (i:=8) (v:=.int .i64 z0.1) rfl (by kernel_rfl) (by kernel_rfl) (by kernel_rfl) (noPanic_q _ _) (Or.inl ⟨by kernel_rfl,fun W hSw=>by have h1:=hSw;go_simp⟩) hHeld ?_
  refine wpAnyH_take (i:=9) (v:=.bool true) rfl (by kernel_rfl) (by kernel_rfl) (by kernel_rfl) (noPanic_q _ _) (Or.inl ⟨by kernel_rfl,fun W hSw=>by have h1:=hSw;go_simp⟩) hHeld ?_
  refine wpAnyH_done (by kernel_rfl) ?_ _
  refine noPanic_mk ?_
  clear hHeld a2
  simp [Act.put]
  go_wp2
  have m0:w1.cell? ⟨w.heap.size+1,0,none⟩=some (.slice pm nm cm):=(S1.out.blk 2 rfl).cell 0
  refine wp_region_noPanic ?_
  refine wp_region_held_drew (S:=fun w'=>w'.cell? ⟨w.heap.size+1,0,none⟩=some (.slice pm nm cm)) (by kernel_rfl) m0 (fun hHeld=>?_)
  have SD:=Lib.hid S1.out.drew
  clear S1 m0
  generalize w1.drew=D2 at SD hHeld ⊢
  refine wpAnyH_take (i:=0) (v:=.bool true) rfl (by kernel_rfl) (by kernel_rfl) (by kernel_rfl) (noPanic_q _ _) (Or.inl ⟨by kernel_rfl,fun W hSw=>by have h1:=hSw;go_simp⟩) hHeld ?_
  refine wpAnyH_take (i:=1) (v:=.agg #[.bool true,.int .i64 0,.slice none 0 0]) rfl (by kernel_rfl) (by kernel_rfl) (by kernel_rfl) (noPanic_q _ _) (Or.inl ⟨by kernel_rfl,fun W hSw=>by have h1:=hSw;go_simp⟩) hHeld ?_
  refine wpAnyH_take (i:=2) (v:=.bool true) rfl (by kernel_rfl) (by kernel_rfl) (by kernel_rfl) (noPanic_q _ _) (Or.inl ⟨by kernel_rfl,fun W hSw=>by have h1:=hSw;go_simp⟩) hHeld ?_
  refine wpAnyH_take (i:=3) (v:=.bool true) rfl (by kernel_rfl) (by kernel_rfl) (by kernel_rfl) (noPanic_q _ _) (Or.inl ⟨by kernel_rfl,fun W hSw=>by have h1:=hSw;go_simp⟩) hHeld ?_
  refine wpAnyH_take (i:=4) (v:=undef) rfl (by kernel_rfl) (by kernel_rfl) (by kernel_rfl) (noPanic_q _ _) (Or.inr ⟨by kernel_rfl,rfl⟩) hHeld ?_
  refine wpAnyH_take (i:=5) (v:=undef) rfl (by kernel_rfl) (by kernel_rfl) (by kernel_rfl) (noPanic_q _ _) (Or.inr ⟨by kernel_rfl,rfl⟩) hHeld ?_
  refine wpAnyH_take (i:=6) (v:=undef) rfl (by kernel_rfl) (by kernel_rfl) (by kernel_rfl) (noPanic_q _ _) (Or.inr ⟨by kernel_rfl,rfl⟩) hHeld ?_
  refine wpAnyH_take (i:=7) (v:=.bool true) rfl (by kernel_rfl) (by kernel_rfl) (by kernel_rfl) (noPanic_q _ _) (Or.inl ⟨by kernel_rfl,fun W hSw=>by have h1:=hSw;go_simp⟩) hHeld ?_
  obtain⟨a0,a1,a2,az,f0,f1,f2⟩:=bkc0c1c2lz0z1z2 (SD.out.blk 1 rfl)
  have S9:=Lib.hid (((SD.out.set 1 rfl 0 (.bool true)).set 1 rfl 1 (.int .i64 0)).set 1 rfl 2 (.slice none 0 0))
  refine wpAnyH_ready (rs:=[8]) (by kernel_rfl) (by simp) (AllReadyH.cons rfl (fun K hK=>?_) AllReadyH.nil)
  go_simp
  have c0:=(S9.out.blk 2 rfl).cell 0
  refine hK.out _ _ c0 (fun hHeld=>?_)
  clear hK
  refine wpAnyH_take (i:=9) (v:=.bool true) rfl (by kernel_rfl) (by kernel_rfl) (by kernel_rfl) (noPanic_q _ _) (Or.inl ⟨by kernel_rfl,fun W hSw=>by have h1:=hSw;go_simp⟩) hHeld ?_
  refine wpAnyH_done (by kernel_rfl) ?_ _
  refine noPanic_mk ?_
  obtain⟨x0,x1,x2⟩:=bkc0c1c2 (S9.out.blk 1 rfl)
  go_wp2
  exact bodyPost_ret (v:=.tuple #[.agg #[.bool true,.int .i64 0,.slice none 0 0],.bool true]) (by simp [results,Tryz.results95,go_sem,x0,x1,x2,Tryz.sizeOf34,Tryz.isAgg34]) rfl ⟨by rw [HD.out],S9.out.ext⟩
 | false =>
  have HB:=Lib.hid hbb
  by_cases h0:nm=0
  ·have HD:Hid ((false || decide (nm=0))=true):=by unfold Hid;simp [h0]
   have hb0:((nm:Int) == 0)=true:=by simp;omega
   clear h0
   go_enter Tryz.func95,Tryz.ntmps95
   go_wp2
   obtain⟨X,hX⟩:∃ X,X=((w.alloc (.cells #[.int .i64 2,.int .i64 f,.int .i64 t,.slice pw nw cw,.int .i64 rad,.int .i64 most] 24)).alloc (.cells #[.slice pm nm cm] 83)).alloc (.cells #[.bool false,.int .i64 0,.slice none 0 0] 34):=⟨_,rfl⟩
   rw [← hX] at S0 ⊢
   clear hX
   have a2:X.cell? ⟨w.heap.size,2,none⟩=some (.int .i64 t):=(S0.out.blk 2 rfl).cell 2
   refine wp_region_noPanic ?_
   refine wp_region_held_drew (S:=fun w'=>w'.cell? ⟨w.heap.size,2,none⟩=some (.int .i64 t)) (by kernel_rfl) a2 (fun hHeld=>?_)
   have SD:=Lib.hid S0.out.drew
   clear S0 a2
   generalize X.drew=D at SD hHeld ⊢
   clear X
   refine wpAnyH_take (i:=0) (v:=.slice p n c) rfl (by kernel_rfl) (by kernel_rfl) (by kernel_rfl) (noPanic_q _ _) (Or.inl ⟨by kernel_rfl,fun W hSw=>by have h1:=hSw;go_simp⟩) hHeld ?_
   refine wpAnyH_take (i:=2) (v:=.pointer (some ⟨w.heap.size,2,none⟩)) rfl (by kernel_rfl) (by kernel_rfl) (by kernel_rfl) (noPanic_q _ _) (Or.inl ⟨by kernel_rfl,fun W hSw=>by have h1:=hSw;go_simp⟩) hHeld ?_
   refine wpAnyH_take (i:=3) (v:=.int .i64 t) rfl (by kernel_rfl) (by kernel_rfl) (by kernel_rfl) (noPanic_q _ _) (Or.inl ⟨by kernel_rfl,fun W hSw=>by have h1:=hSw;go_simp⟩) hHeld ?_
   refine wpAnyH_ready (rs:=[1]) (by kernel_rfl) (by simp) (AllReadyH.cons rfl (fun K hK=>?_) AllReadyH.nil)
   go_simp
   refine(HLE.out _ SD.out.ext).mono ?_
   rintro e w1 ⟨b,m,g,hm,rfl,Z,hg⟩
   have HG:=Lib.hid (least_at hg t)
   have S1:=Lib.hid (SD.out.comp Z)
   clear hg Z SD
   have a2:w1.cell? ⟨w.heap.size,2,none⟩=some (.int .i64 t):=(S1.out.blk 3 rfl).cell 2
   refine hK.out _ _ a2 (fun hHeld=>?_)
   clear hK
   have k0:=(S1.out.map 0 rfl).lookup_ok (t:=214) Tryz.underlying3 Tryz.underlying214 ht
   rw [HG.out,HB.out] at k0
   generalize (g t).getD EI6.z=z0 at k0
   have k1:(Instr.lookup 214 (.map (some b)) (.int .i64 t) true).run Tryz.prog w1=.ok (.tuple #[.int .i64 z0.1,.bool false]) w1:=k0
   clear k0 HG
   refine wpAnyH_ready (rs:=[4]) (by kernel_rfl) (by simp) (AllReadyH.cons rfl (fun K hK=>?_) AllReadyH.nil)
   go_simp
   refine hK.out _ _ a2 (fun hHeld=>?_)
   clear hK k1
   refine wpAnyH_take (i:=5) (v:=.tuple #[.int .i64 z0.1,.bool false]) rfl (by kernel_rfl) (by kernel_rfl) (by kernel_rfl) (noPanic_q _ _) (Or.inl ⟨by kernel_rfl,fun W hSw=>by have h1:=hSw;go_simp⟩) hHeld ?_
   refine wpAnyH_take (i:=6) (v:=.int .i64 z0.1) rfl (by kernel_rfl) (by kernel_rfl) (by kernel_rfl) (noPanic_q _ _) (Or.inl ⟨by kernel_rfl,fun W hSw=>by have h1:=hSw;go_simp⟩) hHeld ?_
   refine wpAnyH_take (i:=7) (v:=.bool false) rfl (by kernel_rfl) (by kernel_rfl) (by kernel_rfl) (noPanic_q _ _) (Or.inl ⟨by kernel_rfl,fun W hSw=>by have h1:=hSw;go_simp⟩) hHeld ?_
   refine wpAnyH_take (i:=8) (v:=.int .i64 z0.1) rfl (by kernel_rfl) (by kernel_rfl) (by kernel_rfl) (noPanic_q _ _) (Or.inl ⟨by kernel_rfl,fun W hSw=>by have h1:=hSw;go_simp⟩) hHeld ?_
   refine wpAnyH_take (i:=9) (v:=.bool false) rfl (by kernel_rfl) (by kernel_rfl) (by kernel_rfl) (noPanic_q _ _) (Or.inl ⟨by kernel_rfl,fun W hSw=>by have h1:=hSw;go_simp⟩) hHeld ?_
   refine wpAnyH_done (by kernel_rfl) ?_ _
   refine noPanic_mk ?_
   clear hHeld a2
   simp [Act.put]
   go_wp2
   have m0:w1.cell? ⟨w.heap.size+1,0,none⟩=some (.slice pm nm cm):=(S1.out.blk 2 rfl).cell 0
   refine wp_region_noPanic ?_
   refine wp_region_held_drew (S:=fun w'=>w'.cell? ⟨w.heap.size+1,0,none⟩=some (.slice pm nm cm)) (by kernel_rfl) m0 (fun hHeld=>?_)
   have SD:=Lib.hid S1.out.drew
   clear S1 m0
   generalize w1.drew=D2 at SD hHeld ⊢
   refine wpAnyH_take (i:=0) (v:=.bool false) rfl (by kernel_rfl) (by kernel_rfl) (by kernel_rfl) (noPanic_q _ _) (Or.inl ⟨by kernel_rfl,fun W hSw=>by have h1:=hSw;go_simp⟩) hHeld ?_
   refine wpAnyH_take (i:=1) (v:=.agg #[.bool false,.int .i64 0,.slice none 0 0]) rfl (by kernel_rfl) (by kernel_rfl) (by kernel_rfl) (noPanic_q _ _) (Or.inl ⟨by kernel_rfl,fun W hSw=>by have h1:=hSw;go_simp⟩) hHeld ?_
   refine wpAnyH_take (i:=2) (v:=.bool false) rfl (by kernel_rfl) (by kernel_rfl) (by kernel_rfl) (noPanic_q _ _) (Or.inl ⟨by kernel_rfl,fun W hSw=>by have h1:=hSw;go_simp⟩) hHeld ?_
   refine wpAnyH_take (i:=3) (v:=.bool false) rfl (by kernel_rfl) (by kernel_rfl) (by kernel_rfl) (noPanic_q _ _) (Or.inl ⟨by kernel_rfl,fun W hSw=>by have h1:=hSw;go_simp⟩) hHeld ?_
   refine wpAnyH_take (i:=4) (v:=.slice pm nm cm) rfl (by kernel_rfl) (by kernel_rfl) (by kernel_rfl) (noPanic_q _ _) (Or.inl ⟨by kernel_rfl,fun W hSw=>by have h1:=hSw;go_simp⟩) hHeld ?_
   refine wpAnyH_take (i:=5) (v:=.int .i64 nm) rfl (by kernel_rfl) (by kernel_rfl) (by kernel_rfl) (noPanic_q _ _) (Or.inl ⟨by kernel_rfl,fun W hSw=>by have h1:=hSw;go_simp⟩) hHeld ?_
   refine wpAnyH_take (i:=6) (v:=.bool true) rfl (by kernel_rfl) (by kernel_rfl) (by kernel_rfl) (noPanic_q _ _) (Or.inl ⟨by kernel_rfl,fun W hSw=>by have h1:=hSw;go_simp⟩) hHeld ?_
   refine wpAnyH_take (i:=7) (v:=.bool true) rfl (by kernel_rfl) (by kernel_rfl) (by kernel_rfl) (noPanic_q _ _) (Or.inl ⟨by kernel_rfl,fun W hSw=>by have h1:=hSw;go_simp⟩) hHeld ?_
   obtain⟨a0,a1,a2,az,f0,f1,f2⟩:=bkc0c1c2lz0z1z2 (SD.out.blk 1 rfl)
   have S9:=Lib.hid (((SD.out.set 1 rfl 0 (.bool false)).set 1 rfl 1 (.int .i64 0)).set 1 rfl 2 (.slice none 0 0))
   refine wpAnyH_ready (rs:=[8]) (by kernel_rfl) (by simp) (AllReadyH.cons rfl (fun K hK=>?_) AllReadyH.nil)
   go_simp
   have c0:=(S9.out.blk 2 rfl).cell 0
   refine hK.out _ _ c0 (fun hHeld=>?_)
   clear hK
   refine wpAnyH_take (i:=9) (v:=.bool true) rfl (by kernel_rfl) (by kernel_rfl) (by kernel_rfl) (noPanic_q _ _) (Or.inl ⟨by kernel_rfl,fun W hSw=>by have h1:=hSw;go_simp⟩) hHeld ?_
   refine wpAnyH_done (by kernel_rfl) ?_ _
   refine noPanic_mk ?_
   obtain⟨x0,x1,x2⟩:=bkc0c1c2 (S9.out.blk 1 rfl)
   go_wp2
   exact bodyPost_ret (v:=.tuple #[.agg #[.bool false,.int .i64 0,.slice none 0 0],.bool true]) (by simp [results,Tryz.results95,go_sem,x0,x1,x2,Tryz.sizeOf34,Tryz.isAgg34]) rfl ⟨by rw [HD.out],S9.out.ext⟩
  ·have HD:Hid ((false || decide (nm=0))=false):=by unfold Hid;simp [h0]
   have hb0:((nm:Int) == 0)=false:=by simp;omega
   clear h0
   go_enter Tryz.func95,Tryz.ntmps95
   go_wp2
   obtain⟨X,hX⟩:∃ X,X=((w.alloc (.cells #[.int .i64 2,.int .i64 f,.int .i64 t,.slice pw nw cw,.int .i64 rad,.int .i64 most] 24)).alloc (.cells #[.slice pm nm cm] 83)).alloc (.cells #[.bool false,.int .i64 0,.slice none 0 0] 34):=⟨_,rfl⟩
   rw [← hX] at S0 ⊢
   clear hX
   have a2:X.cell? ⟨w.heap.size,2,none⟩=some (.int .i64 t):=(S0.out.blk 2 rfl).cell 2
   refine wp_region_noPanic ?_
   refine wp_region_held_drew (S:=fun w'=>w'.cell? ⟨w.heap.size,2,none⟩=some (.int .i64 t)) (by kernel_rfl) a2 (fun hHeld=>?_)
   have SD:=Lib.hid S0.out.drew
   clear S0 a2
   generalize X.drew=D at SD hHeld ⊢
   clear X
   refine wpAnyH_take (i:=0) (v:=.slice p n c) rfl (by kernel_rfl) (by kernel_rfl) (by kernel_rfl) (noPanic_q _ _) (Or.inl ⟨by kernel_rfl,fun W hSw=>by have h1:=hSw;go_simp⟩) hHeld ?_
   refine wpAnyH_take (i:=2) (v:=.pointer (some ⟨w.heap.size,2,none⟩)) rfl (by kernel_rfl) (by kernel_rfl) (by kernel_rfl) (noPanic_q _ _) (Or.inl ⟨by kernel_rfl,fun W hSw=>by have h1:=hSw;go_simp⟩) hHeld ?_
   refine wpAnyH_take (i:=3) (v:=.int .i64 t) rfl (by kernel_rfl) (by kernel_rfl) (by kernel_rfl) (noPanic_q _ _) (Or.inl ⟨by kernel_rfl,fun W hSw=>by have h1:=hSw;go_simp⟩) hHeld ?_
   refine wpAnyH_ready (rs:=[1]) (by kernel_rfl) (by simp) (AllReadyH.cons rfl (fun K hK=>?_) AllReadyH.nil)
   go_simp
   refine(HLE.out _ SD.out.ext).mono ?_
   rintro e w1 ⟨b,m,g,hm,rfl,Z,hg⟩
   have HG:=Lib.hid (least_at hg t)
   have S1:=Lib.hid (SD.out.comp Z)
   clear hg Z SD
   have a2:w1.cell? ⟨w.heap.size,2,none⟩=some (.int .i64 t):=(S1.out.blk 3 rfl).cell 2
   refine hK.out _ _ a2 (fun hHeld=>?_)
   clear hK
   have k0:=(S1.out.map 0 rfl).lookup_ok (t:=214) Tryz.underlying3 Tryz.underlying214 ht
   rw [HG.out,HB.out] at k0
   generalize (g t).getD EI6.z=z0 at k0
   have k1:(Instr.lookup 214 (.map (some b)) (.int .i64 t) true).run Tryz.prog w1=.ok (.tuple #[.int .i64 z0.1,.bool false]) w1:=k0
   clear k0 HG
   refine wpAnyH_ready (rs:=[4]) (by kernel_rfl) (by simp) (AllReadyH.cons rfl (fun K hK=>?_) AllReadyH.nil)
   go_simp
   refine hK.out _ _ a2 (fun hHeld=>?_)
   clear hK k1
   refine wpAnyH_take (i:=5) (v:=.tuple #[.int .i64 z0.1,.bool false]) rfl (by kernel_rfl) (by kernel_rfl) (by kernel_rfl) (noPanic_q _ _) (Or.inl ⟨by kernel_rfl,fun W hSw=>by have h1:=hSw;go_simp⟩) hHeld ?_
   refine wpAnyH_take (i:=6) (v:=.int .i64 z0.1) rfl (by kernel_rfl) (by kernel_rfl) (by kernel_rfl) (noPanic_q _ _) (Or.inl ⟨by kernel_rfl,fun W hSw=>by have h1:=hSw;go_simp⟩) hHeld ?_
   refine wpAnyH_take (i:=7) (v:=.bool false) rfl (by kernel_rfl) (by kernel_rfl) (by kernel_rfl) (noPanic_q _ _) (Or.inl ⟨by kernel_rfl,fun W hSw=>by have h1:=hSw;go_simp⟩) hHeld ?_
   refine wpAnyH_take (i:=8) (v:=.int .i64 z0.1) rfl (by kernel_rfl) (by kernel_rfl) (by kernel_rfl) (noPanic_q _ _) (Or.inl ⟨by kernel_rfl,fun W hSw=>by have h1:=hSw;go_simp⟩) hHeld ?_
   refine wpAnyH_take (i:=9) (v:=.bool false) rfl (by kernel_rfl) (by kernel_rfl) (by kernel_rfl) (noPanic_q _ _) (Or.inl ⟨by kernel_rfl,fun W hSw=>by have h1:=hSw;go_simp⟩) hHeld ?_
   refine wpAnyH_done (by kernel_rfl) ?_ _
   refine noPanic_mk ?_
   clear hHeld a2
   simp [Act.put]
   go_wp2
   have m0:w1.cell? ⟨w.heap.size+1,0,none⟩=some (.slice pm nm cm):=(S1.out.blk 2 rfl).cell 0
   refine wp_region_noPanic ?_
   refine wp_region_held_drew (S:=fun w'=>w'.cell? ⟨w.heap.size+1,0,none⟩=some (.slice pm nm cm)) (by kernel_rfl) m0 (fun hHeld=>?_)
   have SD:=Lib.hid S1.out.drew
   clear S1 m0
   generalize w1.drew=D2 at SD hHeld ⊢
   refine wpAnyH_take (i:=0) (v:=.bool false) rfl (by kernel_rfl) (by kernel_rfl) (by kernel_rfl) (noPanic_q _ _) (Or.inl ⟨by kernel_rfl,fun W hSw=>by have h1:=hSw;go_simp⟩) hHeld ?_
   refine wpAnyH_take (i:=1) (v:=.agg #[.bool false,.int .i64 0,.slice none 0 0]) rfl (by kernel_rfl) (by kernel_rfl) (by kernel_rfl) (noPanic_q _ _) (Or.inl ⟨by kernel_rfl,fun W hSw=>by have h1:=hSw;go_simp⟩) hHeld ?_
   refine wpAnyH_take (i:=2) (v:=.bool false) rfl (by kernel_rfl) (by kernel_rfl) (by kernel_rfl) (noPanic_q _ _) (Or.inl ⟨by kernel_rfl,fun W hSw=>by have h1:=hSw;go_simp⟩) hHeld ?_
   refine wpAnyH_take (i:=3) (v:=.bool false) rfl (by kernel_rfl) (by kernel_rfl) (by kernel_rfl) (noPanic_q _ _) (Or.inl ⟨by kernel_rfl,fun W hSw=>by have h1:=hSw;go_simp⟩) hHeld ?_
   refine wpAnyH_take (i:=4) (v:=.slice pm nm cm) rfl (by kernel_rfl) (by kernel_rfl) (by kernel_rfl) (noPanic_q _ _) (Or.inl ⟨by kernel_rfl,fun W hSw=>by have h1:=hSw;go_simp⟩) hHeld ?_
   refine wpAnyH_take (i:=5) (v:=.int .i64 nm) rfl (by kernel_rfl) (by kernel_rfl) (by kernel_rfl) (noPanic_q _ _) (Or.inl ⟨by kernel_rfl,fun W hSw=>by have h1:=hSw;go_simp⟩) hHeld ?_
   refine wpAnyH_take (i:=6) (v:=.bool false) rfl (by kernel_rfl) (by kernel_rfl) (by kernel_rfl) (noPanic_q _ _) (Or.inl ⟨by kernel_rfl,fun W hSw=>by have h1:=hSw;go_simp⟩) hHeld ?_
   refine wpAnyH_take (i:=7) (v:=.bool false) rfl (by kernel_rfl) (by kernel_rfl) (by kernel_rfl) (noPanic_q _ _) (Or.inl ⟨by kernel_rfl,fun W hSw=>by have h1:=hSw;go_simp⟩) hHeld ?_
   obtain⟨a0,a1,a2,az,f0,f1,f2⟩:=bkc0c1c2lz0z1z2 (SD.out.blk 1 rfl)
   have S9:=Lib.hid (((SD.out.set 1 rfl 0 (.bool false)).set 1 rfl 1 (.int .i64 0)).set 1 rfl 2 (.slice none 0 0))
   refine wpAnyH_ready (rs:=[8]) (by kernel_rfl) (by simp) (AllReadyH.cons rfl (fun K hK=>?_) AllReadyH.nil)
   go_simp
   have c0:=(S9.out.blk 2 rfl).cell 0
   refine hK.out _ _ c0 (fun hHeld=>?_)
   clear hK
   refine wpAnyH_take (i:=9) (v:=.bool false) rfl (by kernel_rfl) (by kernel_rfl) (by kernel_rfl) (noPanic_q _ _) (Or.inl ⟨by kernel_rfl,fun W hSw=>by have h1:=hSw;go_simp⟩) hHeld ?_
   refine wpAnyH_done (by kernel_rfl) ?_ _
   refine noPanic_mk ?_
   obtain⟨x0,x1,x2⟩:=bkc0c1c2 (S9.out.blk 1 rfl)
   go_wp2
   exact bodyPost_ret (v:=.tuple #[.agg #[.bool false,.int .i64 0,.slice none 0 0],.bool false]) (by simp [results,Tryz.results95,go_sem,x0,x1,x2,Tryz.sizeOf34,Tryz.isAgg34]) rfl ⟨by rw [HD.out],S9.out.ext⟩
end
end Go.Proofs.YtfjhjennfiihhaaGreat
