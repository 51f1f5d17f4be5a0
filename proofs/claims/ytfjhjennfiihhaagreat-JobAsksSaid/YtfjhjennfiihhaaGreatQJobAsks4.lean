/- Texts of this claim, one behind the other: Half4r, Chk4r, Ex4, Edg4, Edg4r, Lev7r, Dst8a, Dst8b, Lev7s, Lev7t, Lv7a, RngA, PlainP9, Lv7b, PlainSr, PlainLs, Lb1, Lb2, Lb3, Lb4, Spl16, Ord17a, Ord17b, Rgt19, RngC, Lv7c, Wrk19, Mrk, LoopL, PlainOrn, Rep7, Lv7d, Lv7m, KeepM, FixA. -/
import Derived.Test.YtfjhjennfiihhaaGreatQJobAsks3
set_option maxRecDepth 100000
set_option maxHeartbeats 16000000
namespace Go.Proofs.YtfjhjennfiihhaaGreat
open Go Go.RowKit Tryz
theorem yA {O T:List Int} (h:¬ (2<=O.length/\O.length<=201/\T.length<=2000/\ae O 0=0/\ae O (O.length - 1)=T.length/\fm O=true)):aN O T=false:=by
 cases h1:aN O T with
 | false=>rfl
 | true=>exact absurd (aQ (by unfold aN at h1;rw [Bool.and_eq_true] at h1;exact h1.1)) h
theorem yB {O T:List Int} {v:Nat} (hv:v<O.length - 1) (h:jn ((O.length - 1:Nat):Int) (aD O T v)=false):aN O T=false:=by
 unfold aN
 rw [dI _ _ v hv h,Bool.and_false]
theorem rR (po:Option Addr) (no co:Nat) (O:List Int) (pt:Option Addr) (nt ct:Nat) (T:List Int) (w:World) (hO:Rd w 1 po no (ab O)) (hT:Rd w 1 pt nt (ab T)):Calls prog 156 #[.slice po no co,.slice pt nt ct] w fun e w'=>e=.returned (.bool (aN O T))/\Ext w w':=by
 have pO:=hO.ptr
 have pT:=hT.ptr
 have n1:=hO.small
 have n2:=hT.small
 have l1:=lh hO.nI
 have l2:=lh hT.nI
 have Pw:=lh (fun h=>yA (O:=O) (T:=T) h)
 by_cases h1:no<2
 ·have d1:decide ((no:Int)<2)=true:=by simp;omega
  have HF:Hid (aN O T=false):=Pw.out (by rw [<- l1.out];omega)
  clear hO hT
  go_enter func156,ntmps156
  go_wp2
  go_ret
  exact⟨aq HF.out.symm,Below.refl _ _⟩
 ·have d1:decide ((no:Int)<2)=false:=by simp;omega
  by_cases h2:201<no
  ·have d2:decide ((201:Int)<no)=true:=by simp;omega
   have HF:Hid (aN O T=false):=Pw.out (by rw [<- l1.out];omega)
   clear hO hT
   go_enter func156,ntmps156
   go_wp2
   go_ret
   exact⟨aq HF.out.symm,Below.refl _ _⟩
  ·have d2:decide ((201:Int)<no)=false:=by simp;omega
   have g0:=hO.cI (k:=0) (by omega)
   have q1:(0:Int)<no:=by omega
   have g5:=hO.cI (k:=no - 1) (by omega)
   have q2:(0:Int)<=(no:Int) - 1:=by omega
   have Z0:(1:Int)<=(no:Int):=by omega
   have q3:(no:Int) - 1<no:=by omega
   by_cases h4:ae O 0=0
   ·have d4:(ae O 0 != 0)=false:=by simpa using h4
    by_cases h5:ae O (no - 1)=nt
    ·have d5:(ae O (no - 1) != (nt:Int))=false:=by simpa using h5
     by_cases h3:2000<nt
     ·have d3:decide ((2000:Int)<nt)=true:=by simp;omega
      have HF:Hid (aN O T=false):=Pw.out (by rw [<- l2.out];omega)
      clear hO hT
      go_enter func156,ntmps156
      go_wp2
      go_ret
      exact⟨aq HF.out.symm,Below.refl _ _⟩
     ·have d3:decide ((2000:Int)<nt)=false:=by simp;omega
      have Ua:Hid (fm O=true->l6 O T=true):=fun h6=>by
       unfold l6
       rw [h6,h4]
       rw [<- l1.out,<- l2.out,h5]
       simp;omega
      have HO:=lh hO;clear hO
      have HT:=lh hT;clear hT
      have h4':=lh h4
      have h5':=lh h5
      clear h4 h5
      go_enter func156,ntmps156
      go_wp2
      go_loopw [5] (fun i wr=>∃ v:Nat,1<=v/\v<=no/\i=.int .i64 v/\(∀ u,u+1<v->ae O u<=ae O (u+1))/\Ext w wr) (fun i _=>no - (intOf i).toNat)
      case atStart=>exact⟨1,Nat.le_refl _,by omega,rfl,fun u hu=>by omega,Below.refl _ _⟩
      case round =>
       obtain⟨v,hv1,hv,rfl,ha,hE⟩:=hrel
       have HA:=lh ha;clear ha
       by_cases hlt:v<no
       ·have c1:=hE.cell (HO.out.cI hlt)
        have c0:=hE.cell (HO.out.cI (k:=v - 1) (by omega))
        have e1:(0:Int)<=v:=by omega
        have e2:(v:Int)<no:=by omega
        have e3:(1:Int)<=(v:Int):=by omega
        have e4:(v:Int) - 1<no:=by omega
        have e5:(0:Int)<=(v:Int) - 1:=by omega
        have HE:=lh hE;clear hE
        by_cases hs:ae O v<ae O (v - 1)
        ·have b1:decide (ae O v<ae O (v - 1))=true:=by simpa using hs
         have HF:Hid (aN O T=false):=Pw.out (fun h=>by
          have:=oR h.2.2.2.2.2 (v:=v - 1) (by rw [<- l1.out];omega)
          rw [show v - 1+1=v by omega] at this;omega)
         go_wp2
         have x1:=fun x:Ie wr=>x.ext.cell c1
         have x0:=fun x:Ie wr=>x.ext.cell c0
         refine av (by kernel_rfl) (by kernel_rfl) ?_
         repeat (go_big_quiet_step ((fail)))
         refine wpQuiet_nil ?_
         rintro w1 ⟨⟨_,hb1⟩,rfl⟩
         go_wp2
         go_ret
         exact⟨aq HF.out.symm,Ext.trans HE.out hb1⟩
        ·have b1:decide (ae O v<ae O (v - 1))=false:=by simpa using hs
         go_wp2
         have x1:=fun x:Ie wr=>x.ext.cell c1
         have x0:=fun x:Ie wr=>x.ext.cell c0
         refine av (by kernel_rfl) (by kernel_rfl) ?_
         repeat (go_big_quiet_step ((fail)))
         refine wpQuiet_nil ?_
         rintro w1 ⟨⟨_,hb1⟩,rfl⟩
         go_wp2
         go_roundw
         case rel=>exact⟨v+1,by omega,by omega,by go_num,fun u hu=>by
          by_cases h:u+1=v
          ·have:v - 1=u:=by omega
           rw [this] at hs;rw [h];omega
          ·exact HA.out u (by omega),Ext.trans HE.out hb1⟩
         case measure=>simp [intOf];omega
       ·have hso:fm O=true:=by
         unfold fm
         rw [List.all_eq_true]
         intro u hu
         rw [List.mem_range] at hu
         exact decide_eq_true (HA.out u (by have:=l1.out;omega))
        have Mi:=lh (Ua.out hso)
        have Iq:=lh (cJ Mi.out)
        clear hso HA
        have HE:=lh hE;clear hE
        go_wp2
        go_loopw [6,7] (fun i _ wr=>∃ v:Nat,1<=v/\v<=no/\i=.int .i64 v/\(∀ u,u+1<v->jn ((O.length - 1:Nat):Int) (aD O T u)=true)/\Ext w wr) (fun i _ _=>no - (intOf i).toNat)
        case atStart=>exact⟨1,Nat.le_refl _,by omega,rfl,fun u hu=>by omega,HE.out⟩
        case round =>
         clear HE hlt hv1 hv
         obtain⟨v,hv1,hv,rfl,ha,hE⟩:=hrel
         have HA:=lh ha;clear ha
         by_cases hlt:v<no
         ·have Ra:v - 1+1<O.length:=by have:=l1.out;omega
          have q1':=Iq.out.lo (v - 1) (by omega)
          have q2':=Iq.out.le (v - 1) Ra
          have q3':=Iq.out.hi (v - 1+1) Ra
          rw [show v - 1+1=v by omega] at q2' q3'
          have hrl:=cK Iq.out Ra
          rw [show v - 1+1=v by omega] at hrl
          have c1:=hE.cell (HO.out.cI hlt)
          have c0:=hE.cell (HO.out.cI (k:=v - 1) (by omega))
          have MN:=lh (fun j (hj:j<(aD O T (v - 1)).length)=>BP (O:=O) (T:=T) (v:=v - 1) hj)
          obtain⟨a,hA⟩:∃ a:Nat,ae O (v - 1)=(a:Int):=⟨(ae O (v - 1)).toNat,by omega⟩
          obtain⟨b,hB⟩:∃ b:Nat,ae O v=(b:Int):=⟨(ae O v).toNat,by omega⟩
          rw [hA] at c0 q1' q2' hrl MN
          rw [hB] at c1 q2' q3' hrl
          simp only [Int.toNat_natCast] at hrl MN
          have hbn:b<=nt:=by have:=l2.out;omega
          have hab:a<=b:=by omega
          have e1:(0:Int)<=v:=by omega
          have e2:(v:Int)<no:=by omega
          have e3:(1:Int)<=(v:Int):=by omega
          have e4:(v:Int) - 1<no:=by omega
          have e5:(0:Int)<=(v:Int) - 1:=by omega
          have hn':((O.length - 1:Nat):Int)=(no:Int) - 1:=by have:=l1.out;omega
          have Mw:=lh (fun h=>yB (O:=O) (T:=T) (v:=v - 1) (by omega) h)
          have PZ:=lh (fun (h:jn ((O.length - 1:Nat):Int) (aD O T (v - 1))=true)=>(fun u (hu:u+1<v+1)=>by
           by_cases h2:u=v - 1
           ·rw [h2];exact h
           ·exact HA.out u (by omega):∀ u,u+1<v+1->jn ((O.length - 1:Nat):Int) (aD O T u)=true))
          rw [hn'] at Mw PZ ⊢
          have Wj:=lh (HO.out.cI hlt)
          have Wi:=lh (HO.out.cI (k:=v - 1) (by omega))
          rw [hB] at Wj
          rw [hA] at Wi
          generalize aD O T (v - 1)=l at *
          have NB:=lh hrl
          have HE:=lh hE;clear hE
          clear hA hB hrl q1' q2' q3' hn' Ra
          go_wp2
          go_loopw [7] (fun i wr=>∃ m j:Nat,m=a+j/\j<=b - a/\i=.int .i64 m/\(List.range j).all (l7 ((no:Int) - 1) l)=true/\Ext w wr) (fun i _=>b - (intOf i).toNat)
          case atStart=>exact⟨a,0,rfl,Nat.zero_le _,rfl,rfl,HE.out⟩
          case round =>
           clear HE c1 c0
           obtain⟨m,j,hm,hj,rfl,ha,hE⟩:=hrel
           have c1:=hE.cell Wj.out
           have c0:=hE.cell Wi.out
           have Tg:=lh ha;clear ha
           have hm1:a+j<=m:=by omega
           have hm2:m<=a+j:=by omega
           by_cases hlj:j<b - a
           ·have hjl:j<l.length:=by rw [NB.out];exact hlj
            have t1:=hE.cell (HT.out.cI (k:=m) (by omega))
            have hx:=MN.out j hjl
            rw [<- hm] at hx
            rw [<- hx] at t1
            clear hm
            have f1:(0:Int)<=m:=by omega
            have f2:(m:Int)<b:=by omega
            have f3:(m:Int)<nt:=by omega
            by_cases g1:ae l j<0
            ·have b1:decide (ae l j<0)=true:=by simpa using g1
             have HF:Hid (aN O T=false):=Mw.out (dI _ _ j hjl (by unfold l7;simp;omega))
             clear hx
             have HE:=lh hE;clear hE
             go_wp2
             have x0:=fun x:Ie wr=>x.ext.cell c0
             have x1:=fun x:Ie wr=>x.ext.cell t1
             refine av (by kernel_rfl) (by kernel_rfl) ?_
             repeat (go_big_quiet_step ((fail)))
             refine wpQuiet_nil ?_
             rintro w1 ⟨⟨_,hb1⟩,rfl⟩
             go_wp2
             go_ret
             exact⟨aq HF.out.symm,Ext.trans HE.out hb1⟩
            ·have b1:decide (ae l j<0)=false:=by simpa using g1
             by_cases g2:(no:Int) - 1<=ae l j
             ·have b2:decide ((no:Int) - 1<=ae l j)=true:=by simpa using g2
              have HF:Hid (aN O T=false):=Mw.out (dI _ _ j hjl (by unfold l7;simp;omega))
              clear hx
              have HE:=lh hE;clear hE
              go_wp2
              have x0:=fun x:Ie wr=>x.ext.cell c0
              have x1:=fun x:Ie wr=>x.ext.cell t1
              refine av (by kernel_rfl) (by kernel_rfl) ?_
              repeat (go_big_quiet_step ((fail)))
              refine wpQuiet_nil ?_
              rintro w1 ⟨⟨_,hb1⟩,rfl⟩
              go_wp2
              go_ret
              exact⟨aq HF.out.symm,Ext.trans HE.out hb1⟩
             ·have b2:decide ((no:Int) - 1<=ae l j)=false:=by simpa using g2
              by_cases hj0:j=0
              ·have b3:decide ((a:Int)<(m:Int))=false:=by simp;omega
               have X6:decide (a<m)=false:=by simp;omega
               have HK:Hid (l7 ((no:Int) - 1) l j=true):=by unfold Hid l7;simp;omega
               clear hx hj0
               have HE:=lh hE;clear hE
               go_wp2
               have x0:=fun x:Ie wr=>x.ext.cell c0
               have x1:=fun x:Ie wr=>x.ext.cell t1
               refine av (by kernel_rfl) (by kernel_rfl) ?_
               repeat (go_big_quiet_step ((fail)))
               refine wpQuiet_nil ?_
               rintro w1 ⟨⟨_,hb1⟩,rfl⟩
               go_wp2
               go_roundw
               case rel=>exact⟨m+1,j+1,by omega,by omega,by go_num,eu _ _ Tg.out HK.out,Ext.trans HE.out hb1⟩
               case measure=>simp [intOf];omega
              ·have b3:decide ((a:Int)<(m:Int))=true:=by simp;omega
               have X6:decide (a<m)=true:=by simp;omega
               have t0:=hE.cell (HT.out.cI (k:=m - 1) (by omega))
               have hy:=MN.out (j - 1) (by omega)
               rw [show a+(j - 1)=m - 1 by omega] at hy
               rw [<- hy] at t0
               have f4:(1:Int)<=(m:Int):=by omega
               have f5:(m:Int) - 1<nt:=by omega
               have f6:(0:Int)<=(m:Int) - 1:=by omega
               by_cases g3:ae l j<=ae l (j - 1)
               ·have b4:decide (ae l j<=ae l (j - 1))=true:=by simpa using g3
                have HF:Hid (aN O T=false):=Mw.out (dI _ _ j hjl (by unfold l7;simp;omega))
                clear hx hy
                have HE:=lh hE;clear hE
                go_wp2
                have x0:=fun x:Ie wr=>x.ext.cell c0
                have x1:=fun x:Ie wr=>x.ext.cell t1
                have x2:=fun x:Ie wr=>x.ext.cell t0
                refine av (by kernel_rfl) (by kernel_rfl) ?_
                repeat (go_big_quiet_step ((fail)))
                refine wpQuiet_nil ?_
                rintro w1 ⟨⟨_,hb1⟩,rfl⟩
                go_wp2
                go_ret
                exact⟨aq HF.out.symm,Ext.trans HE.out hb1⟩
               ·have b4:decide (ae l j<=ae l (j - 1))=false:=by simpa using g3
                have HK:Hid (l7 ((no:Int) - 1) l j=true):=by unfold Hid l7;simp;omega
                clear hx hy
                have HE:=lh hE;clear hE
                go_wp2
                have x0:=fun x:Ie wr=>x.ext.cell c0
                have x1:=fun x:Ie wr=>x.ext.cell t1
                have x2:=fun x:Ie wr=>x.ext.cell t0
                refine av (by kernel_rfl) (by kernel_rfl) ?_
                repeat (go_big_quiet_step ((fail)))
                refine wpQuiet_nil ?_
                rintro w1 ⟨⟨_,hb1⟩,rfl⟩
                go_wp2
                go_roundw
                case rel=>exact⟨m+1,j+1,by omega,by omega,by go_num,eu _ _ Tg.out HK.out,Ext.trans HE.out hb1⟩
                case measure=>simp [intOf];omega
           ·clear hm
            have Ub:Hid (jn ((no:Int) - 1) l=true):=by unfold Hid jn;rw [NB.out,show b - a=j by omega];exact Tg.out
            have f2:decide ((m:Int)<b)=false:=by simp;omega
            have Yv:decide (m<b)=false:=by simp;omega
            have HE:=lh hE;clear hE
            go_wp2
            go_roundw
            case rel=>exact⟨v+1,by omega,by omega,by go_num,PZ.out Ub.out,HE.out⟩
            case measure=>simp [intOf];omega
         ·have HF:Hid (aN O T=true):=by
           unfold Hid aN
           rw [Mi.out,Bool.true_and,List.all_eq_true]
           intro u hu
           rw [List.mem_range] at hu
           exact HA.out u (by have:=l1.out;omega)
          have HE:=lh hE;clear hE
          go_wp2
          go_ret
          exact⟨aq HF.out.symm,HE.out⟩
    ·have d5:(ae O (no - 1) != (nt:Int))=true:=by simpa using h5
     have HF:Hid (aN O T=false):=Pw.out (by rw [<- l1.out,<- l2.out];exact fun h=>h5 h.2.2.2.2.1)
     clear h4 h5
     clear hO hT
     go_enter func156,ntmps156
     go_wp2
     go_ret
     exact⟨aq HF.out.symm,Below.refl _ _⟩
   ·have d4:(ae O 0 != 0)=true:=by simpa using h4
    have HF:Hid (aN O T=false):=Pw.out (fun h=>h4 h.2.2.2.1)
    clear h4
    clear hO hT
    go_enter func156,ntmps156
    go_wp2
    go_ret
    exact⟨aq HF.out.symm,Below.refl _ _⟩
theorem uA (po:Option Addr) (no co:Nat) (O:List Int) (pt:Option Addr) (nt ct:Nat) (T:List Int) (pr:Option Addr) (nr cr:Nat) (R:List Int) (pv:Option Addr) (nv cv:Nat) (V:List Int) (w:World) (hO:Rd w 1 po no (ab O)) (hT:Rd w 1 pt nt (ab T)) (hR:Rd w 1 pr nr (ab R)) (hV:Rd w 1 pv nv (ab V)) (hct:nt<=ct) (hcv:nv<=cv) (h:no≠nr\/nt≠nv\/aN O T=false\/aN R V=false) :
  Calls prog 96 #[.agg #[.slice po no co,.slice pt nt ct,.slice pr nr cr,.slice pv nv cv]] w fun e w'=>e=.returned (.bool false)/\Ext w w':=by
 have _u:=And.intro hct hcv
 have S0:=lh ((Ic.start w).al #[.slice po no co,.slice pt nt ct,.slice pr nr cr,.slice pv nv cv] 27 w.heap.size rfl)
 have Jg:=lh (fun W1 (h:Ext w W1)=>rR po no co O pt nt ct T W1 (hO.ext h) (hT.ext h))
 have JC:=lh (fun W1 (h:Ext w W1)=>rR pr nr cr R pv nv cv V W1 (hR.ext h) (hV.ext h))
 clear hO hT hR hV
 by_cases h1:no=nr
 ·have d1:((no:Int) != (nr:Int))=false:=by simp;omega
  cases h3:aN O T with
  | false =>
   rw [h3] at Jg
   clear h h1 h3
   go_enter func96,ntmps96
   go_wp2_with (go_at_call 156;go_must (refine(Jg.out _ S0.out.ext).mono ?_;rintro e w1 ⟨rfl,hb⟩;have S1:=lh (S0.out.call hb);obtain⟨az,a0,a1,a2,a3⟩:=aC (S1.out.blk 0 rfl);clear hb))
   go_ret
   exact⟨rfl,S1.out.ext⟩
  | true =>
   rw [h3] at Jg
   cases h4:aN R V with
   | false =>
    rw [h4] at JC
    clear h h1 h3 h4
    go_enter func96,ntmps96
    go_wp2_with (first | (go_at_call 156;have _t:=S1;go_must (refine(JC.out _ S1.out.ext).mono ?_;rintro e w2 ⟨rfl,hb⟩;have S2:=lh (S1.out.call hb);obtain⟨bz,b0,b1,b2,b3⟩:=aC (S2.out.blk 0 rfl);clear hb)) | (go_at_call 156;go_must (refine(Jg.out _ S0.out.ext).mono ?_;rintro e w1 ⟨rfl,hb⟩;have S1:=lh (S0.out.call hb);obtain⟨az,a0,a1,a2,a3⟩:=aC (S1.out.blk 0 rfl);clear hb)))
    go_ret
    exact⟨rfl,S2.out.ext⟩
   | true =>
    rw [h4] at JC
    have d2:((nt:Int) != (nv:Int))=true:=by
     rcases h with h | h | h | h
     ·exact absurd h1 h
     ·simp;omega
     ·rw [h3] at h;cases h
     ·rw [h4] at h;cases h
    clear h h1 h3 h4
    go_enter func96,ntmps96
    go_wp2_with (first | (go_at_call 156;have _t:=S1;go_must (refine(JC.out _ S1.out.ext).mono ?_;rintro e w2 ⟨rfl,hb⟩;have S2:=lh (S1.out.call hb);obtain⟨bz,b0,b1,b2,b3⟩:=aC (S2.out.blk 0 rfl);clear hb)) | (go_at_call 156;go_must (refine(Jg.out _ S0.out.ext).mono ?_;rintro e w1 ⟨rfl,hb⟩;have S1:=lh (S0.out.call hb);obtain⟨az,a0,a1,a2,a3⟩:=aC (S1.out.blk 0 rfl);clear hb)))
    go_ret
    exact⟨rfl,S2.out.ext⟩
 ·have d1:((no:Int) != (nr:Int))=true:=by simp;omega
  clear h h1
  go_enter func96,ntmps96
  go_wp2
  go_ret
  exact⟨rfl,S0.out.ext⟩
def zH (m:List Int) (k:Int) (i:Nat) (v:Value) (W:World):Prop :=
 match i with
 | 8=>∃ q c,v=.slice q m.length c/\Rd W 1 q m.length (ab m)
 | 10=>v=.bool (jY m k)
 | _=>True
theorem pZ {m:List Int} {k:Int}:∀ i v W W',Ext W W'->zH m k i v W->zH m k i v W':=by
 intro i v W W' he h
 unfold zH at *
 split at h
 ·obtain⟨q,c,h1,h2⟩:=h;exact⟨q,c,h1,h2.ext he⟩
 ·exact h
 ·trivial
theorem pQ {O T R V:List Int} {k j:Nat} (hj:j<(aD O T k).length):((eo O T k).take (j+1)).all (ef R V)=(((eo O T k).take j).all (ef R V) && jY (aD R V (ae (aD O T k) j).toNat) k):=by
 rw [im hj,List.all_append];simp [ef]
theorem so (po:Option Addr) (no co:Nat) (O:List Int) (pt:Option Addr) (nt ct:Nat) (T:List Int) (pr:Option Addr) (nr cr:Nat) (R:List Int) (pv:Option Addr) (nv cv:Nat) (V:List Int) (w:World) (hO:Rd w 1 po no (ab O)) (hT:Rd w 1 pt nt (ab T)) (hR:Rd w 1 pr nr (ab R)) (hV:Rd w 1 pv nv (ab V)) (hct:nt<=ct) (hcv:nv<=cv) (e1:no=nr) (e2:nt=nv) (h1:aN O T=true) (h2:aN R V=true) :
  Calls prog 96 #[.agg #[.slice po no co,.slice pt nt ct,.slice pr nr cr,.slice pv nv cv]] w fun e w'=>e=.returned (.bool ((aR O T).all (ef R V)))/\Ext w w':=by
 have l1:=hO.nI
 have l2:=hT.nI
 have l3:=hR.nI
 have l4:=hV.nI
 have n1:=hO.small
 have S0:=lh ((Ic.start w).al #[.slice po no co,.slice pt nt ct,.slice pr nr cr,.slice pv nv cv] 27 w.heap.size rfl)
 have Jg:=lh (fun W1 (h:Ext w W1)=>rR po no co O pt nt ct T W1 (hO.ext h) (hT.ext h))
 have JC:=lh (fun W1 (h:Ext w W1)=>rR pr nr cr R pv nv cv V W1 (hR.ext h) (hV.ext h))
 rw [h1] at Jg
 rw [h2] at JC
 have d1:((no:Int) != (nr:Int))=false:=by simp;omega
 have d2:((nt:Int) != (nv:Int))=false:=by simp;omega
 have r:=aQ (aI h1)
 have r':=aQ (aI h2)
 have HR1:=lh (fun W1 (h:Ext w W1) k (hk:k+1<O.length)=>BM po no co O pt nt ct T k W1 (hO.ext h) (hT.ext h) hct (cJ (aI h1)) hk (by omega))
 have HR2:=lh (fun W1 (h:Ext w W1) k (hk:k+1<R.length)=>BM pr nr cr R pv nv cv V k W1 (hR.ext h) (hV.ext h) hcv (cJ (aI h2)) hk (by omega))
 have Mk:=lh (fun x (hx:x∈aR O T)=>kZ h1 hx)
 have L1:=lh l1
 have L3:=lh l3
 have E1:=lh e1
 have Jk:∀ k,(aD O T k).length<=2000:=fun k=>by unfold aD;rw [List.length_take,List.length_drop];omega
 have Lc:∀ k,(aD R V k).length<=2000:=fun k=>by unfold aD;rw [List.length_take,List.length_drop];omega
 have RL:=lh Jk
 have RU:=lh Lc
 have Qx:no<=201:=by omega
 clear hO hT hR hV h1 h2 l1 l2 l3 l4 e1 e2 r r' Jk Lc
 go_enter func96,ntmps96
 go_wp2_with (first | (go_at_call 156;have _t:=S1;go_must (refine(JC.out _ S1.out.ext).mono ?_;rintro e w2 ⟨rfl,hb⟩;have S2:=lh (S1.out.call hb);obtain⟨bz,b0,b1,b2,b3⟩:=aC (S2.out.blk 0 rfl);clear hb)) | (go_at_call 156;go_must (refine(Jg.out _ S0.out.ext).mono ?_;rintro e w1 ⟨rfl,hb⟩;have S1:=lh (S0.out.call hb);obtain⟨az,a0,a1,a2,a3⟩:=aC (S1.out.blk 0 rfl);clear hb)))
 go_loopw [3,4,5] (fun v _ _ wr=>∃ k:Nat,k<=no - 1/\v=.int .i64 k/\(bO O T k).all (ef R V)=true/\Ic w wr [.blk w.heap.size 27 #[.slice po no co,.slice pt nt ct,.slice pr nr cr,.slice pv nv cv]]) (fun v _ _ _=>no - 1 - (intOf v).toNat)
 case atStart=>exact⟨0,Nat.zero_le _,rfl,rfl,S2.out⟩
 case round =>
  clear S0 S1 S2
  obtain⟨k,hk,rfl,ha,S⟩:=hrel
  have HA:=lh ha;clear ha
  obtain⟨az,a0,a1,a2,a3⟩:=aC (S.blk 0 rfl)
  by_cases hlt:k<no - 1
  ·have UN:k+1<O.length:=by have:=L1.out;omega
   have t1:(k:Int)+1<no:=by omega
   have t0:(0:Int)<=k:=by omega
   have Uf:=lh (fun W1 (h:Ext w W1)=>HR1.out W1 h k UN)
   have Zk:=RL.out k
   have Qr:=lh (fun j (hj:j<(aD O T k).length)=>tY (O:=O) (T:=T) (k:=k) (by omega) hj)
   have hstep:=lh (fun j (hj:j<(aD O T k).length)=>pQ (R:=R) (V:=V) hj)
   have hpre:=lh (fun j=>fy (O:=O) (T:=T) (k:=k) (j:=j) (by omega))
   have hend:Hid ((eo O T k).take (aD O T k).length=eo O T k):=by unfold Hid eo;rw [List.take_of_length_le (by simp)]
   have hps:=lh (cg O T k)
   generalize aD O T k=l at *
   generalize eo O T k=xs at *
   have SH:=lh S;clear S
   go_wp2_with (go_at_call 157;go_must (refine(Uf.out _ SH.out.ext).mono ?_;rintro e w3 ⟨q,c,rfl,Z⟩;have P1:=lh (SH.out.comp Z);clear Z))
   go_loopw [5] (fun i wr=>∃ j:Nat,j<=l.length/\i=.int .i64 j/\(xs.take j).all (ef R V)=true/\Ic w wr [.own 3 1 q l.length c (ab l),.blk w.heap.size 27 #[.slice po no co,.slice pt nt ct,.slice pr nr cr,.slice pv nv cv]]) (fun i _=>l.length - (intOf i).toNat)
   case atStart=>exact⟨0,Nat.zero_le _,rfl,by simp,P1.out⟩
   case round =>
    clear SH P1 a0 a1 a2 a3 az
    obtain⟨j,hj,rfl,hb,S⟩:=hrel
    have HB:=lh hb;clear hb
    obtain⟨az,a0,a1,a2,a3⟩:=aC (S.blk 1 rfl)
    have pq:=(S.rd 0 rfl (by omega)).ptr
    by_cases hlj:j<l.length
    ·have g1:=(S.rd 0 rfl (by omega)).cI hlj
     have hpb:=Mk.out _ (Qr.out j hlj)
     simp only at hpb
     obtain⟨u,hu⟩:∃ u:Nat,ae l j=(u:Int):=⟨(ae l j).toNat,by omega⟩
     have YI:u+1<R.length:=by have:=L1.out;have:=L3.out;have:=E1.out;omega
     have VW:=lh (fun W1 (h:Ext w W1)=>HR2.out W1 h u YI)
     have hst:=hstep.out j hlj
     rw [HB.out,Bool.true_and,hu,Int.toNat_natCast] at hst
     have HST:=lh hst
     have Z7:=RU.out u
     rw [hu] at g1
     generalize aD R V u=m at *
     have t2:(0:Int)<=j:=by omega
     have t3:(j:Int)<l.length:=by omega
     clear hst hpb hu
     have SH:=lh S;clear S
     cases hin:jY m (k:Int) with
     | true =>
      rw [hin] at HST
      go_wp2
      have x2:=fun x:Ie wr=>x.ext.cell a2
      have x3:=fun x:Ie wr=>x.ext.cell a3
      have x1:=fun x:Ie wr=>x.ext.cell g1
      refine aT [true,true,true,true,true,true,true,true,false,true,false] (zH m k) (by kernel_rfl) (by kernel_rfl) (by kernel_rfl) pZ ?_
      simp only [pJ]
      repeat (go_big_quiet_step ((fail)))
      refine wpQuiet_nil ⟨⟨fun vs W1 hE hd=>?_,fun vs W1 hE hd=>?_,trivial⟩,fun vs W1 hE hkn=>?_⟩
      ·simp [b8,go_sem]
       exact(VW.out _ (Ext.trans SH.out.ext hE)).mono fun e w' ⟨q,c,h1,S⟩=>⟨_,h1,⟨q,c,rfl,S.rd 0 rfl (by omega)⟩,S.ext⟩
      ·obtain⟨q,c,e1,e2⟩:=hd 8 (by decide) rfl
       simp [b8,go_sem,e1]
       exact(Dv q _ c m k W1 e2).mono fun e w' ⟨h1,h2⟩=>⟨_,h1,rfl,h2⟩
      obtain⟨⟨q',c',k1,_⟩,k2,_⟩:=hkn
      have k2:vs 10=.bool (jY m k):=k2
      rw [hin] at k2
      have SY:=lh (SH.out.call hE)
      simp only [b8,k1,k2,List.length_cons,List.length_nil,Nat.zero_add,Nat.reduceAdd,List.drop_succ_cons,List.drop_zero]
      clear x1 x2 x3 k1 k2 hE
      go_wp2
      go_roundw
      case rel=>exact⟨j+1,by omega,by go_num,HST.out,SY.out⟩
      case measure=>simp [intOf];omega
     | false =>
      rw [hin] at HST
      have HF:Hid ((aR O T).all (ef R V)=false):=by
       obtain⟨t,ht⟩:=hpre.out (j+1)
       unfold Hid
       rw [<- ht,List.all_append,List.all_append,HST.out];simp
      go_wp2
      have x2:=fun x:Ie wr=>x.ext.cell a2
      have x3:=fun x:Ie wr=>x.ext.cell a3
      have x1:=fun x:Ie wr=>x.ext.cell g1
      refine aT [true,true,true,true,true,true,true,true,false,true,false] (zH m k) (by kernel_rfl) (by kernel_rfl) (by kernel_rfl) pZ ?_
      simp only [pJ]
      repeat (go_big_quiet_step ((fail)))
      refine wpQuiet_nil ⟨⟨fun vs W1 hE hd=>?_,fun vs W1 hE hd=>?_,trivial⟩,fun vs W1 hE hkn=>?_⟩
      ·simp [b8,go_sem]
       exact(VW.out _ (Ext.trans SH.out.ext hE)).mono fun e w' ⟨q,c,h1,S⟩=>⟨_,h1,⟨q,c,rfl,S.rd 0 rfl (by omega)⟩,S.ext⟩
      ·obtain⟨q,c,e1,e2⟩:=hd 8 (by decide) rfl
       simp [b8,go_sem,e1]
       exact(Dv q _ c m k W1 e2).mono fun e w' ⟨h1,h2⟩=>⟨_,h1,rfl,h2⟩
      obtain⟨⟨q',c',k1,_⟩,k2,_⟩:=hkn
      have k2:vs 10=.bool (jY m k):=k2
      rw [hin] at k2
      have SY:=lh (SH.out.call hE)
      simp only [b8,k1,k2,List.length_cons,List.length_nil,Nat.zero_add,Nat.reduceAdd,List.drop_succ_cons,List.drop_zero]
      clear x1 x2 x3 k1 k2 hE
      go_wp2
      go_ret
      exact⟨aq HF.out.symm,SY.out.ext⟩
    ·obtain rfl:j=l.length:=by omega
     have hb:=HB.out
     rw [hend.out] at hb
     have HK:Hid ((bO O T (k+1)).all (ef R V)=true):=by unfold Hid;rw [hps.out,List.all_append,HA.out,hb];rfl
     clear hb
     have SH:=lh S;clear S
     go_wp2
     go_roundw
     case rel=>exact⟨k+1,by omega,by go_num,HK.out,SH.out.pick [1] (by decide) rfl⟩
     case measure=>simp [intOf];omega
  ·have HF:Hid ((aR O T).all (ef R V)=true):=by
    unfold Hid aR
    rw [show O.length - 1=k by have:=L1.out;omega];exact HA.out
   have t1:decide ((k:Int)+1<no)=false:=by simp;omega
   have SH:=lh S;clear S
   go_wp2
   go_ret
   exact⟨aq HF.out.symm,SH.out.ext⟩
theorem rr (po:Option Addr) (no co:Nat) (O:List Int) (pt:Option Addr) (nt ct:Nat) (T:List Int) (pr:Option Addr) (nr cr:Nat) (R:List Int) (pv:Option Addr) (nv cv:Nat) (V:List Int) (w:World) (hO:Rd w 1 po no (ab O)) (hT:Rd w 1 pt nt (ab T)) (hR:Rd w 1 pr nr (ab R)) (hV:Rd w 1 pv nv (ab V)) (hct:nt<=ct) (hcv:nv<=cv):Calls prog 96 #[.agg #[.slice po no co,.slice pt nt ct,.slice pr nr cr,.slice pv nv cv]] w fun e w'=>e=.returned (.bool (ai O T R V))/\Ext w w':=by
 have l1:=hO.nI
 have l2:=hT.nI
 have l3:=hR.nI
 have l4:=hV.nI
 by_cases h:no≠nr\/nt≠nv\/aN O T=false\/aN R V=false
 ·rw [qi (by rw [<- l1,<- l2,<- l3,<- l4];exact h)]
  exact uA po no co O pt nt ct T pr nr cr R pv nv cv V w hO hT hR hV hct hcv h
 ·have h1:no=nr:=by
   by_cases h1:no=nr
   ·exact h1
   ·exact absurd (.inl h1) h
  have h2:nt=nv:=by
   by_cases h2:nt=nv
   ·exact h2
   ·exact absurd (.inr (.inl h2)) h
  have h3:aN O T=true:=by
   cases h3:aN O T with
   | true=>rfl
   | false=>exact absurd (.inr (.inr (.inl h3))) h
  have h4:aN R V=true:=by
   cases h4:aN R V with
   | true=>rfl
   | false=>exact absurd (.inr (.inr (.inr h4))) h
  have:ai O T R V=(aR O T).all (ef R V):=by
   unfold ai
   rw [h3,h4,<- l1,<- l2,<- l3,<- l4,h1,h2]
   simp only [decide_true,Bool.true_and]
   rfl
  rw [this]
  exact so po no co O pt nt ct T pr nr cr R pv nv cv V w hO hT hR hV hct hcv h1 h2 h3 h4
structure R4 (w:World) (po:Option Addr) (no:Nat) (pt:Option Addr) (nt:Nat) (pr:Option Addr) (nr:Nat) (pv:Option Addr) (nv:Nat) (O T R V:List Int):Prop where
 o:Rd w 1 po no (ab O)
 t:Rd w 1 pt nt (ab T)
 r:Rd w 1 pr nr (ab R)
 v:Rd w 1 pv nv (ab V)
theorem R4.ext {w w':World} {po:Option Addr} {no:Nat} {pt:Option Addr} {nt:Nat} {pr:Option Addr} {nr:Nat} {pv:Option Addr} {nv:Nat} {O T R V:List Int} (h:R4 w po no pt nt pr nr pv nv O T R V) (he:Ext w w'):R4 w' po no pt nt pr nr pv nv O T R V:=⟨h.o.ext he,h.t.ext he,h.r.ext he,h.v.ext he⟩
section
open Go Go.RowKit Go.Shelf Go.Lib
attribute [local go_sem] Oper.semAt_some
def yl (b:Bool) (O T:List Int):List (Int × Int):=if b=true then aR O T else []
def EH (b:Bool):Int:=if b=true then 0 else 40
theorem l9 {O T:List Int} (h:IJ O T) (h0:ae O 0=0):∀ k,k<O.length->(bO O T k).length=(ae O k).toNat
 | 0,_=>by rw [h0];rfl
 | k+1,hk=>by
  rw [cg,List.length_append,l9 h h0 k (by omega)]
  unfold eo
  rw [List.length_map,cK h hk]
  have:=h.le k hk
  have:=h.lo k (by omega)
  omega
end
theorem sx (po:Option Addr) (no co:Nat) (O:List Int) (pt:Option Addr) (nt ct:Nat) (T:List Int) (pr:Option Addr) (nr cr:Nat) (R:List Int) (pv:Option Addr) (nv cv:Nat) (V:List Int) (w:World) (hO:Rd w 1 po no (ab O)) (hT:Rd w 1 pt nt (ab T)) (hR:Rd w 1 pr nr (ab R)) (hV:Rd w 1 pv nv (ab V)) (hct:nt<=ct) (hcv:nv<=cv) (hck:ai O T R V=true) :
  Calls prog 237 #[.agg #[.slice po no co,.slice pt nt ct,.slice pr nr cr,.slice pv nv cv]] w fun e w'=>∃ q c,e=.returned (.tuple #[.slice q (yl true O T).length c,.int .i64 (EH true)])/\Ic w w' [.own 98 2 q (yl true O T).length c (aj (yl true O T))]:=by
 obtain⟨i0,hi0,hz0,hz1,hz2⟩:=info_parts A7
 have S0:=lh ((Ic.start w).al #[.slice po no co,.slice pt nt ct,.slice pr nr cr,.slice pv nv cv] 27 w.heap.size rfl)
 have HC:=lh (fun W1 (h:Ext w W1)=>rr po no co O pt nt ct T pr nr cr R pv nv cv V W1 (hO.ext h) (hT.ext h) (hR.ext h) (hV.ext h) hct hcv)
 rw [hck] at HC
 have h1:=(aK hck).2.2.1
 have r:=aQ (aI h1)
 have Iq:=cJ (aI h1)
 have l1:=hO.nI
 have l2:=hT.nI
 have n1:=hO.small
 have L1:=lh l1
 have hpk:Hid (∀ k,k<O.length - 1->∀ j,(bO O T k ++ (eo O T k).take j).length<=2000):=fun k hk j=>by
  have h:=(fy (O:=O) (T:=T) (j:=j) hk).length_le
  unfold aR at h
  rw [l9 Iq r.2.2.2.1 (O.length - 1) (by omega),r.2.2.2.2.1] at h
  omega
 have HR1:=lh (fun W1 (h:Ext w W1) k (hk:k+1<O.length)=>BM po no co O pt nt ct T k W1 (hO.ext h) (hT.ext h) hct Iq hk (by omega))
 have Qx:no<=201:=by omega
 have Jk:∀ k,(aD O T k).length<=2000:=fun k=>by unfold aD;rw [List.length_take,List.length_drop];omega
 have RL:=lh Jk
 clear hO hT hR hV hck h1 r Iq l1 l2 Jk
 show Calls _ _ _ _ fun e w'=>∃ q c,e=.returned (.tuple #[.slice q (aR O T).length c,.int .i64 0])/\Ic w w' [.own 98 2 q (aR O T).length c (aj (aR O T))]
 go_enter func237,ntmps237
 go_wp2_with (go_at_call 96;go_must (refine(HC.out _ S0.out.ext).mono ?_;rintro e w1 ⟨rfl,hb⟩;have S1:=lh (S0.out.call hb);obtain⟨az,a0,a1,a2,a3⟩:=aC (S1.out.blk 0 rfl);clear hb))
 go_loopw [4,5,6,7] (fun out v _ _ wr=>∃ (k:Nat) (q:Option Addr) (c:Nat),k<=no - 1/\v=.int .i64 k/\out=.slice q (bO O T k).length c/\Ic w wr [.own 98 2 q (bO O T k).length c (aj (bO O T k)),.blk w.heap.size 27 #[.slice po no co,.slice pt nt ct,.slice pr nr cr,.slice pv nv cv]]) (fun _ v _ _ _=>no - 1 - (intOf v).toNat)
 case atStart=>exact⟨0,none,0,Nat.zero_le _,rfl,rfl,S1.out.nilrow _ _⟩
 case round =>
  clear S0 S1 a0 a1 a2 a3 az
  obtain⟨k,q,c,hk,rfl,rfl,S⟩:=hrel
  obtain⟨az,a0,a1,a2,a3⟩:=aC (S.blk 1 rfl)
  by_cases hlt:k<no - 1
  ·have UN:k+1<O.length:=by have:=L1.out;omega
   have t1:(k:Int)+1<no:=by omega
   have t0:(0:Int)<=k:=by omega
   have Uf:=lh (fun W1 (h:Ext w W1)=>HR1.out W1 h k UN)
   have Zk:=RL.out k
   have hpl:=lh (hpk.out k (by omega))
   have hst:=lh (fun j (hj:j<(aD O T k).length)=>im (O:=O) (T:=T) hj)
   have hend:Hid ((eo O T k).take (aD O T k).length=eo O T k):=by unfold Hid eo;rw [List.take_of_length_le (by simp)]
   have hps:=lh (cg O T k)
   generalize aD O T k=l at *
   generalize eo O T k=xs at *
   generalize bO O T k=ps at *
   have SH:=lh S;clear S
   go_wp2_with (go_at_call 157;go_must (refine(Uf.out _ SH.out.ext).mono ?_;rintro e w3 ⟨q2,c2,rfl,Z⟩;have P1:=lh (SH.out.comp Z);clear Z))
   go_loopw [4,7] (fun out i wr=>∃ (j:Nat) (q:Option Addr) (c:Nat),j<=l.length/\i=.int .i64 j/\out=.slice q (ps ++ xs.take j).length c/\Ic w wr [.own 3 1 q2 l.length c2 (ab l),.own 98 2 q (ps ++ xs.take j).length c (aj (ps ++ xs.take j)),.blk w.heap.size 27 #[.slice po no co,.slice pt nt ct,.slice pr nr cr,.slice pv nv cv]]) (fun _ i _=>l.length - (intOf i).toNat)
   case atStart=>exact⟨0,q,c,Nat.zero_le _,rfl,by simp,by simpa using P1.out⟩
   case round =>
    clear SH P1 a0 a1 a2 a3 az
    obtain⟨j,q,c,hj,rfl,rfl,S⟩:=hrel
    have pq:=(S.rd 0 rfl (by omega)).ptr
    by_cases hlj:j<l.length
    ·have g1:=(S.rd 0 rfl (by omega)).cI hlj
     have h0:=hpl.out j
     have hs:Hid (ps ++ xs.take (j+1)=(ps ++ xs.take j) ++ [((k:Int),ae l j)]):=by unfold Hid;rw [hst.out j hlj,List.append_assoc]
     generalize ps ++ xs.take j=ys at *
     generalize ae l j=x at *
     have t2:(0:Int)<=j:=by omega
     have t3:(j:Int)<l.length:=by omega
     have SH:=lh S;clear S
     go_wp2_with (at_builtin;go_must (refine am rfl _ _ _ rfl 98 i0 _ 2 16 underlying99 hi0 hz0 hz1 hz2 rfl (by omega) (SH.out.junk _) 1 q ys.length c _ rfl rfl _ 1 1 _ rfl (Rd.one2 _ _ _ _) (bu _) (by omega) (by omega) ?_;intro q' c' w' S' hsz;have S5:=lh S';clear S' hsz))
     go_roundw
     case rel=>exact⟨j+1,q',c',by omega,by go_num,by rw [hs.out,List.length_append];rfl,by rw [hs.out,List.length_append,aF];exact S5.out⟩
     case measure=>simp [intOf];omega
    ·obtain rfl:j=l.length:=by omega
     rw [hend.out,<- hps.out] at S
     rw [hend.out,<- hps.out]
     have SH:=lh S;clear S
     go_wp2
     go_roundw
     case rel=>exact⟨k+1,q,c,by omega,by go_num,rfl,SH.out.pick [1,2] (by decide) rfl⟩
     case measure=>simp [intOf];omega
  ·have hend:bO O T k=aR O T:=by
    unfold aR
    rw [show O.length - 1=k by have:=L1.out;omega]
   rw [hend] at S
   rw [hend]
   have t1:decide ((k:Int)+1<no)=false:=by simp;omega
   have SH:=lh S;clear S
   clear hend
   go_wp2
   go_ret2
   exact⟨q,c,rfl,SH.out.pick [0] (by decide) rfl⟩
theorem Cn (po:Option Addr) (no co:Nat) (O:List Int) (pt:Option Addr) (nt ct:Nat) (T:List Int) (pr:Option Addr) (nr cr:Nat) (R:List Int) (pv:Option Addr) (nv cv:Nat) (V:List Int) (w:World) (hO:Rd w 1 po no (ab O)) (hT:Rd w 1 pt nt (ab T)) (hR:Rd w 1 pr nr (ab R)) (hV:Rd w 1 pv nv (ab V)) (hct:nt<=ct) (hcv:nv<=cv) :
  Calls prog 237 #[.agg #[.slice po no co,.slice pt nt ct,.slice pr nr cr,.slice pv nv cv]] w fun e w'=>∃ q c,e=.returned (.tuple #[.slice q (yl (ai O T R V) O T).length c,.int .i64 (EH (ai O T R V))])/\Ic w w' [.own 98 2 q (yl (ai O T R V) O T).length c (aj (yl (ai O T R V) O T))]:=by
 cases hck:ai O T R V with
 | true=>exact sx po no co O pt nt ct T pr nr cr R pv nv cv V w hO hT hR hV hct hcv hck
 | false =>
  have S0:=lh ((Ic.start w).al #[.slice po no co,.slice pt nt ct,.slice pr nr cr,.slice pv nv cv] 27 w.heap.size rfl)
  have HC:=lh (fun W1 (h:Ext w W1)=>rr po no co O pt nt ct T pr nr cr R pv nv cv V W1 (hO.ext h) (hT.ext h) (hR.ext h) (hV.ext h) hct hcv)
  rw [hck] at HC
  clear hO hT hR hV hck
  show Calls _ _ _ _ fun e w'=>∃ q c,e=.returned (.tuple #[.slice q 0 c,.int .i64 40])/\Ic w w' [.own 98 2 q 0 c []]
  go_enter func237,ntmps237
  go_wp2_with (go_at_call 96;go_must (refine(HC.out _ S0.out.ext).mono ?_;rintro e w1 ⟨rfl,hb⟩;have S1:=lh (S0.out.call hb);obtain⟨az,a0,a1,a2,a3⟩:=aC (S1.out.blk 0 rfl);clear hb))
  go_ret2
  exact⟨none,0,rfl,((Ic.start w).call S1.out.ext).nilrow _ _⟩
def EG (ck back:Bool) (O T:List Int):List (Int × Int):=if ck=true then kI back O T else []
theorem oI {O T:List Int} (h:aN O T=true):(aR O T).length<=2000:=by
 obtain⟨r1,r2,r3,r4,r5,r6⟩:=aQ (aI h)
 unfold aR
 rw [l9 (cJ (aI h)) r4 _ (by omega),r5];omega
theorem AN {O T:List Int} (h:aN O T=true) (back:Bool):(kI back O T).length<=2000:=by
 cases back with
 | false=>exact oI h
 | true=>show ((aR O T).map bd).length<=2000;rw [List.length_map];exact oI h
theorem wH (po : Option Addr) (no co : Nat) (O : List Int) (pt : Option Addr) (nt ct : Nat) (T : List Int) (pr : Option Addr) (nr cr : Nat) (R : List Int) (pv : Option Addr) (nv cv : Nat) (V : List Int) (w : World) (back : Bool) (hO : Rd w 1 po no (ab O)) (hT : Rd w 1 pt nt (ab T)) (hR : Rd w 1 pr nr (ab R)) (hV : Rd w 1 pv nv (ab V)) (hct : nt <= ct) (hcv : nv <= cv) : Calls prog 192 #[.agg #[.slice po no co, .slice pt nt ct, .slice pr nr cr, .slice pv nv cv], .bool back] w fun e w' => ∃ q c, e = .returned (.tuple #[.slice q (EG (ai O T R V) back O T).length c, .int .i64 (EH (ai O T R V))]) /\ Ic w w' [.own 98 2 q (EG (ai O T R V) back O T).length c (aj (EG (ai O T R V) back O T))] := by
  obtain ⟨i0, hi0, hz0, hz1, hz2⟩ := info_parts A7
  have S0 := lh ((Ic.start w).al #[.slice po no co, .slice pt nt ct, .slice pr nr cr, .slice pv nv cv] 27 w.heap.size rfl)
  have HE := lh (fun W1 (h : Ext w W1) => Cn po no co O pt nt ct T pr nr cr R pv nv cv V W1 (hO.ext h) (hT.ext h) (hR.ext h) (hV.ext h) hct hcv)
  clear hO hT hR hV
  cases hck : ai O T R V with
  | false =>
    rw [hck] at HE
    show Calls _ _ _ _ fun e w' => ∃ q c, e = .returned (.tuple #[.slice q 0 c, .int .i64 40]) /\ Ic w w' [.own 98 2 q 0 c []]
    have HE2 : Hid (∀ W1, Ext w W1 -> Calls prog 237 #[.agg #[.slice po no co, .slice pt nt ct, .slice pr nr cr, .slice pv nv cv]] W1 fun e w' => ∃ q c, e = .returned (.tuple #[.slice q 0 c, .int .i64 40]) /\ Ic W1 w' [.own 98 2 q 0 c []]) := HE.out
    clear hck HE
    cases back <;>
    (go_enter func192, ntmps192
     go_wp2_with (go_at_call 237; go_must (refine (HE2.out _ S0.out.ext).mono ?_; rintro e w1 ⟨q, c, rfl, Z⟩; have S1 := lh (S0.out.comp Z); clear Z))
     go_ret2
     exact ⟨q, c, rfl, S1.out.pick [0] (by decide) rfl⟩)
  | true =>
    rw [hck] at HE
    have hl := oI (aK hck).2.2.1
    have HE2 : Hid (∀ W1, Ext w W1 -> Calls prog 237 #[.agg #[.slice po no co, .slice pt nt ct, .slice pr nr cr, .slice pv nv cv]] W1 fun e w' => ∃ q c, e = .returned (.tuple #[.slice q (aR O T).length c, .int .i64 0]) /\ Ic W1 w' [.own 98 2 q (aR O T).length c (aj (aR O T))]) := HE.out
    clear hck HE
    cases back with
    | false =>
      show Calls _ _ _ _ fun e w' => ∃ q c, e = .returned (.tuple #[.slice q (aR O T).length c, .int .i64 0]) /\ Ic w w' [.own 98 2 q (aR O T).length c (aj (aR O T))]
      generalize aR O T = P at *
      go_enter func192, ntmps192
      go_wp2_with (go_at_call 237; go_must (refine (HE2.out _ S0.out.ext).mono ?_; rintro e w1 ⟨q, c, rfl, Z⟩; have S1 := lh (S0.out.comp Z); clear Z))
      go_ret2
      exact ⟨q, c, rfl, S1.out.pick [0] (by decide) rfl⟩
    | true =>
      show Calls _ _ _ _ fun e w' => ∃ q c, e = .returned (.tuple #[.slice q ((aR O T).map bd).length c, .int .i64 0]) /\ Ic w w' [.own 98 2 q ((aR O T).map bd).length c (aj ((aR O T).map bd))]
      generalize aR O T = P at *
      go_enter func192, ntmps192
      go_wp2_with (go_at_call 237; go_must (refine (HE2.out _ S0.out.ext).mono ?_; rintro e w1 ⟨q, c, rfl, Z⟩; have S1 := lh ((S0.out.comp Z).pick [0] (by decide) rfl); clear Z))
      go_loopw [8, 9] (fun out i wr => ∃ (k : Nat) (q2 : Option Addr) (c2 : Nat), k <= P.length /\ i = .int .i64 k /\ out = .slice q2 k c2 /\ Ic w wr [.own 98 2 q2 k c2 (aj ((P.take k).map bd)), .own 98 2 q P.length c (aj P)]) (fun _ i _ => P.length - (intOf i).toNat)
      case atStart => exact ⟨0, none, 0, Nat.zero_le _, rfl, rfl, S1.out.nilrow _ _⟩
      case round =>
        clear S0 S1
        obtain ⟨k, q2, c2, hk, rfl, rfl, S⟩ := hrel
        have pq := (S.rd 1 rfl (by omega)).ptr
        have ZX := (S.rd 0 rfl (by omega)).ptr
        by_cases hlt : k < P.length
        · have e1 := (S.rd 1 rfl (by omega)).cE hlt
          have e2 := (S.rd 1 rfl (by omega)).cE2 hlt
          have d1 : (0:Int) <= k := by omega
          have d2 : (k:Int) < P.length := by omega
          have HT : Hid (aj ((P.take (k + 1)).map bd) = aj ((P.take k).map bd) ++ aj [bd (ae P k)]) := by
            unfold Hid; rw [eM bd P k hlt, aF]
          have SH := lh S; clear S
          go_wp2
          have Zq := fun x : Ie wr => x.ext.cell e1
          have Zr := fun x : Ie wr => x.ext.cell e2
          refine aT [true, true, true, true, true, true, true, true, true, true, true, true, false] (fun _ v W => ∃ p, v = .slice p 1 1 /\ Rd W 2 p 1 (aj [bd (ae P k)])) (by kernel_rfl) (by kernel_rfl) (by kernel_rfl) (fun _ _ _ _ hE ⟨p, h1, h2⟩ => ⟨p, h1, h2.ext hE⟩) ?_
          simp only [pJ]
          repeat (go_big_quiet_step ((fail)))
          refine wpQuiet_nil ⟨⟨fun vs W1 hE hd => ?_, trivial⟩, fun vs W1 hE hkn => ?_⟩
          · simp [b8, execOp, go_sem]
            exact ⟨Rd.one2 _ _ _ _, Ext.alloc (Below.refl _ _) _⟩
          · obtain ⟨⟨p', hv, RA⟩, _⟩ := hkn
            have JN := lh RA; clear RA
            have S1 := lh (SH.out.call hE)
            simp only [b8, hv, List.length_cons, List.length_nil, Nat.zero_add, Nat.reduceAdd, List.drop_succ_cons, List.drop_zero]
            clear Zq Zr hv
            go_wp2_with (at_builtin; go_must (refine am rfl _ _ _ rfl 98 i0 _ 2 16 underlying99 hi0 hz0 hz1 hz2 rfl (by omega) S1.out 0 q2 k c2 _ rfl rfl p' 1 1 _ rfl JN.out (bu _) (by omega) (by omega) ?_; intro q' c' w' S' hsz; have S2 := lh S'; clear S'))
            go_roundw
            case rel => exact ⟨k + 1, q', c', by omega, by go_num, rfl, by rw [HT.out]; exact S2.out⟩
            case measure => simp [intOf]; omega
        · obtain rfl : k = P.length := by omega
          rw [List.take_length] at S
          have SH := lh S; clear S
          go_wp2
          go_ret2
          exact ⟨q2, c2, by rw [List.length_map]; rfl, by rw [List.length_map]; exact SH.out.pick [0] (by decide) rfl⟩
theorem EV (po:Option Addr) (no co:Nat) (O:List Int) (pt:Option Addr) (nt ct:Nat) (T:List Int) (pr:Option Addr) (nr cr:Nat) (R:List Int) (pv:Option Addr) (nv cv:Nat) (V:List Int) (gr k:Nat) (w:World) (hO:Rd w 1 po no (ab O)) (hT:Rd w 1 pt nt (ab T)) (hok:IJ O T) (hct:nt<=ct) (hk1:k+1<O.length) (hB:Ih w gr 27 #[.slice po no co,.slice pt nt ct,.slice pr nr cr,.slice pv nv cv]) :
  Calls prog 177 #[.int .i64 k,.pointer (some ⟨gr,0,none⟩)] w fun e w'=>e=.returned (.slice (bv pt ct (ae O k).toNat 1) (aD O T k).length (ct - (ae O k).toNat))/\Ext w w':=by
 have _u:=(O,T,R,V)
 clear _u
 have Qw:=hO.small
 have l1:=hO.nI
 have l2:=hT.nI
 have pA:=hO.ptr
 have q1:=hok.lo k (by omega)
 have q2:=hok.le k hk1
 have q3:=hok.hi (k+1) hk1
 have hrl:=cK hok hk1
 have IQ:=hT.rowOf hok hct hk1
 have g1:=hO.cI (k:=k) (by omega)
 have g2:=hO.cI (k:=k+1) (by omega)
 have b0:=hB.cell 0
 have b1:=hB.cell 1
 have b2:=hB.cell 2
 have b3:=hB.cell 3
 have bz:=hB.lt
 obtain⟨a,ha⟩:∃ a:Nat,ae O k=(a:Int):=⟨(ae O k).toNat,by omega⟩
 obtain⟨c,hc⟩:∃ c:Nat,ae O (k+1)=(c:Int):=⟨(ae O (k+1)).toNat,by omega⟩
 rw [ha] at q1 q2 hrl IQ g1
 rw [hc] at q2 q3 hrl IQ g2
 simp only [Int.toNat_natCast] at hrl IQ
 have hq3:(c:Int)<=ct:=by omega
 have d1:(0:Int)<=k:=by omega
 have d2:(k:Int)<no:=by omega
 have d3:(0:Int)<=(k:Int)+1:=by omega
 have d4:(k:Int)+1<no:=by omega
 have RL:=lh IQ
 rw [hrl,ha,Int.toNat_natCast]
 clear hO hT hok ha hc hrl IQ l1 l2 q3 hk1 hB
 go_enter func177,ntmps177
 go_wp2
 have y0:=fun x:Ie w=>x.ext.cell b0
 have y1:=fun x:Ie w=>x.ext.cell b1
 have y2:=fun x:Ie w=>x.ext.cell b2
 have y3:=fun x:Ie w=>x.ext.cell b3
 have x1:=fun x:Ie w=>x.ext.cell g1
 have x2:=fun x:Ie w=>x.ext.cell g2
 refine av (by kernel_rfl) (by kernel_rfl) ?_
 repeat (go_big_quiet_step ((fail)))
 refine wpQuiet_nil ?_
 rintro w1 ⟨⟨_,hb1⟩,rfl⟩
 go_wp2
 go_ret
 exact⟨rfl,hb1⟩
theorem EW (po:Option Addr) (no co:Nat) (O:List Int) (pt:Option Addr) (nt ct:Nat) (T:List Int) (pr:Option Addr) (nr cr:Nat) (R:List Int) (pv:Option Addr) (nv cv:Nat) (V:List Int) (gr k:Nat) (w:World) (hO:Rd w 1 pr nr (ab R)) (hT:Rd w 1 pv nv (ab V)) (hok:IJ R V) (hct:nv<=cv) (hk1:k+1<R.length) (hB:Ih w gr 27 #[.slice po no co,.slice pt nt ct,.slice pr nr cr,.slice pv nv cv]) :
  Calls prog 178 #[.int .i64 k,.pointer (some ⟨gr,0,none⟩)] w fun e w'=>e=.returned (.slice (bv pv cv (ae R k).toNat 1) (aD R V k).length (cv - (ae R k).toNat))/\Ext w w':=by
 have _u:=(O,T,R,V)
 clear _u
 have Qw:=hO.small
 have l1:=hO.nI
 have l2:=hT.nI
 have pA:=hO.ptr
 have q1:=hok.lo k (by omega)
 have q2:=hok.le k hk1
 have q3:=hok.hi (k+1) hk1
 have hrl:=cK hok hk1
 have IQ:=hT.rowOf hok hct hk1
 have g1:=hO.cI (k:=k) (by omega)
 have g2:=hO.cI (k:=k+1) (by omega)
 have b0:=hB.cell 0
 have b1:=hB.cell 1
 have b2:=hB.cell 2
 have b3:=hB.cell 3
 have bz:=hB.lt
 obtain⟨a,ha⟩:∃ a:Nat,ae R k=(a:Int):=⟨(ae R k).toNat,by omega⟩
 obtain⟨c,hc⟩:∃ c:Nat,ae R (k+1)=(c:Int):=⟨(ae R (k+1)).toNat,by omega⟩
 rw [ha] at q1 q2 hrl IQ g1
 rw [hc] at q2 q3 hrl IQ g2
 simp only [Int.toNat_natCast] at hrl IQ
 have hq3:(c:Int)<=cv:=by omega
 have d1:(0:Int)<=k:=by omega
 have d2:(k:Int)<nr:=by omega
 have d3:(0:Int)<=(k:Int)+1:=by omega
 have d4:(k:Int)+1<nr:=by omega
 have RL:=lh IQ
 rw [hrl,ha,Int.toNat_natCast]
 clear hO hT hok ha hc hrl IQ l1 l2 q3 hk1 hB
 go_enter func178,ntmps178
 go_wp2
 have y0:=fun x:Ie w=>x.ext.cell b0
 have y1:=fun x:Ie w=>x.ext.cell b1
 have y2:=fun x:Ie w=>x.ext.cell b2
 have y3:=fun x:Ie w=>x.ext.cell b3
 have x1:=fun x:Ie w=>x.ext.cell g1
 have x2:=fun x:Ie w=>x.ext.cell g2
 refine av (by kernel_rfl) (by kernel_rfl) ?_
 repeat (go_big_quiet_step ((fail)))
 refine wpQuiet_nil ?_
 rintro w1 ⟨⟨_,hb1⟩,rfl⟩
 go_wp2
 go_ret
 exact⟨rfl,hb1⟩
theorem De (po:Option Addr) (no co:Nat) (O:List Int) (pt:Option Addr) (nt ct:Nat) (T:List Int) (pr:Option Addr) (nr cr:Nat) (R:List Int) (pv:Option Addr) (nv cv:Nat) (V:List Int) (gr k:Nat) (w:World) (hO:Rd w 1 po no (ab O)) (hT:Rd w 1 pt nt (ab T)) (hok:IJ O T) (hct:nt<=ct) (hk1:k+1<O.length) (hB:Ih w gr 27 #[.slice po no co,.slice pt nt ct,.slice pr nr cr,.slice pv nv cv]) :
  ∃ q c,Rd w 1 q (aD O T k).length (ab (aD O T k))/\∀ W,Ext w W->Calls prog 177 #[.int .i64 k,.pointer (some ⟨gr,0,none⟩)] W fun e w'=>e=.returned (.slice q (aD O T k).length c)/\Ext W w':=by
 refine⟨_,_,?_,fun W h=>EV po no co O pt nt ct T pr nr cr R pv nv cv V gr k W (hO.ext h) (hT.ext h) hok hct hk1 (hB.ext h)⟩
 have:=hT.rowOf hok hct hk1
 rw [<- cK hok hk1] at this
 exact this
theorem Df (po:Option Addr) (no co:Nat) (O:List Int) (pt:Option Addr) (nt ct:Nat) (T:List Int) (pr:Option Addr) (nr cr:Nat) (R:List Int) (pv:Option Addr) (nv cv:Nat) (V:List Int) (gr k:Nat) (w:World) (hO:Rd w 1 pr nr (ab R)) (hT:Rd w 1 pv nv (ab V)) (hok:IJ R V) (hct:nv<=cv) (hk1:k+1<R.length) (hB:Ih w gr 27 #[.slice po no co,.slice pt nt ct,.slice pr nr cr,.slice pv nv cv]) :
  ∃ q c,Rd w 1 q (aD R V k).length (ab (aD R V k))/\∀ W,Ext w W->Calls prog 178 #[.int .i64 k,.pointer (some ⟨gr,0,none⟩)] W fun e w'=>e=.returned (.slice q (aD R V k).length c)/\Ext W w':=by
 refine⟨_,_,?_,fun W h=>EW po no co O pt nt ct T pr nr cr R pv nv cv V gr k W (hO.ext h) (hT.ext h) hok hct hk1 (hB.ext h)⟩
 have:=hT.rowOf hok hct hk1
 rw [<- cK hok hk1] at this
 exact this
theorem Ic.alrow {w0 w:World} {Γ:List Pc} (S:Ic w0 w Γ) (cs:Array Value) (e:TypeId) (size n g:Nat) (hg:w.heap.size=g) (hm:n<=maxLen) (hs:cs.size=n*size):Ic w0 (w.alloc (.cells cs e)) (.own e size (some ⟨g,0,none⟩) n n cs.toList :: Γ):=by
 subst hg
 exact S.fresh (Ext.alloc (Below.refl _ _) _) (World.ownsRow_lit w cs n (Nat.le_refl _) hm hs) (Nat.le_refl _)
theorem At (Og gr n s:Nat) (w:World) (hs:s<n) (hn:n<=200) :
  Calls prog 179 #[.int .i64 n,.int .i64 s,.func (.func Og) #[] #[.pointer (some ⟨gr,0,none⟩)]] w fun e w'=>∃ g ql qf,e=.returned (.pointer (some ⟨g,0,none⟩)) /\
   Ic w w' [.blk g 288 #[.func (.func Og) #[] #[.pointer (some ⟨gr,0,none⟩)],.slice ql n n,.slice qf 1 1],.own 3 1 qf 1 1 (ab [(s:Int)]),.own 3 1 ql n n (ab (kC n s))]:=by
 obtain⟨i0,hi0,hz0,hz1,hz2⟩:=info_parts kg
 go_enter func179,ntmps179
 go_wp2_with (at_make;go_must (refine aX rfl _ _ _ rfl 3 i0 _ 1 underlying25 hi0 hz0 hz1 (n:Int) n rfl rfl rfl (by rw [hz2];omega) (by unfold maxLen;omega) (Ic.start w) ?_;intro w1 S';rw [fK] at S';have S1:=lh S';clear S'))
 generalize hql:(some ⟨w.heap.size,0,none⟩:Option Addr)=ql at *
 clear hql
 have S2:=lh ((S1.out.alrow #[.int .i64 (s:Int)] 3 1 1 w1.heap.size rfl (by decide) rfl).al #[.func (.func Og) #[] #[.pointer (some ⟨gr,0,none⟩)],.slice ql n n,.slice (some ⟨w1.heap.size,0,none⟩) 1 1] 288 (w1.heap.size+1) (by simp))
 clear S1
 go_loopw [8,21] (fun _ i wr=>∃ k:Nat,k<=n/\i=.int .i64 k/\Ic w wr [.blk (w1.heap.size+1) 288 #[.func (.func Og) #[] #[.pointer (some ⟨gr,0,none⟩)],.slice ql n n,.slice (some ⟨w1.heap.size,0,none⟩) 1 1],.own 3 1 (some ⟨w1.heap.size,0,none⟩) 1 1 (ab [(s:Int)]),.own 3 1 ql n n (ab (List.replicate k (-1) ++ List.replicate (n - k) 0))]) (fun _ i _=>n - (intOf i).toNat)
 case atStart=>exact⟨0,Nat.zero_le _,rfl,S2.out⟩
 case round =>
  clear S2
  obtain⟨k,hk,rfl,S⟩:=hrel
  obtain⟨az,a0,a1,a2⟩:=eh (S.blk 0 rfl)
  have po:=(S.rd 2 rfl (by omega)).ptr
  have fz:=aA (S.own 2 rfl) (by omega) k
  by_cases hlt:k<n
  ·have HS:=lh (wV hlt)
   have c1:=bU (S.own 2 rfl) (k:=k) (by omega)
   have d1:(0:Int)<=k:=by omega
   have d2:(k:Int)<n:=by omega
   have SH:=lh S;clear S
   go_wp2
   go_roundw
   case rel=>exact⟨k+1,by omega,by go_num,by rw [<- HS.out,<- dm];exact SH.out.setRow 2 rfl k (by omega) (.int .i64 (-1))⟩
   case measure=>simp [intOf];omega
  ·obtain rfl:k=n:=by omega
   rw [Nat.sub_self,List.replicate_zero,List.append_nil] at S
   have Q3:=aA (S.own 2 rfl) (by omega) s
   have c2:=bU (S.own 2 rfl) (k:=s) (by omega)
   have d1:(0:Int)<=s:=by omega
   have d2:(s:Int)<k:=by omega
   have SH:=lh S;clear S
   clear fz
   go_wp2
   go_ret
   exact⟨_,ql,_,rfl,by unfold kC;rw [<- dm];exact SH.out.setRow 2 rfl s (by omega) (.int .i64 0)⟩
theorem iw (po:Option Addr) (no co:Nat) (O:List Int) (pt:Option Addr) (nt ct:Nat) (T:List Int) (pr:Option Addr) (nr cr:Nat) (R:List Int) (pv:Option Addr) (nv cv:Nat) (V:List Int) (w:World) (n s:Nat) (back:Bool) (hO:Rd w 1 po no (ab O)) (hT:Rd w 1 pt nt (ab T)) (hR:Rd w 1 pr nr (ab R)) (hV:Rd w 1 pv nv (ab V)) (hct:nt<=ct) (hcv:nv<=cv) (hck:ai O T R V=true) (hno:O.length=n+1) (hs:s<n) :
  Calls prog 121 #[.agg #[.slice po no co,.slice pt nt ct,.slice pr nr cr,.slice pv nv cv],.int .i64 s,.bool back] w fun e w'=>∃ q c,e=.returned (.tuple #[.slice q n c,.int .i64 0])/\Ic w w' [.own 3 1 q n c (ab ((List.range n).map fun v=>ay (wQ back O T R V) n s v))]:=by
 obtain⟨i0,hi0,hz0,hz1,hz2⟩:=info_parts kg
 have S0:=lh ((Ic.start w).al #[.slice po no co,.slice pt nt ct,.slice pr nr cr,.slice pv nv cv] 27 w.heap.size rfl)
 have HE:=lh (fun W1 (h:Ext w W1)=>wH po no co O pt nt ct T pr nr cr R pv nv cv V W1 back (hO.ext h) (hT.ext h) (hR.ext h) (hV.ext h) hct hcv)
 rw [hck] at HE
 have HE2:Hid (∀ W1,Ext w W1->Calls prog 192 #[.agg #[.slice po no co,.slice pt nt ct,.slice pr nr cr,.slice pv nv cv],.bool back] W1 fun e w'=>∃ q c,e=.returned (.tuple #[.slice q (kI back O T).length c,.int .i64 0])/\Ic W1 w' [.own 98 2 q (kI back O T).length c (aj (kI back O T))]):=HE.out
 have h1:=(aK hck).2.2.1
 have r:=aQ (aI h1)
 have hn:n<=200:=by omega
 have l1:=hO.nI
 obtain rfl:no=n+1:=by omega
 have hbd:=CW h1 back
 have hmem:=AO hck back
 have NJ:=AN h1 back
 rw [hno,Nat.add_sub_cancel] at hbd hmem
 have Tw:Hid (rH (kI back O T) (kC n s) n=(List.range n).map fun v=>ay (wQ back O T R V) n s v):=CJ hs hbd hmem (CH hs) (by rw [rG hs s hs,if_pos rfl])
 have JW:=lh hbd
 generalize kI back O T=l at *
 clear hO hT hR hV hck hno h1 r l1 hbd hmem HE
 have d1:decide ((s:Int)<0)=false:=by simp
 have d2:decide ((n:Int)<=s)=false:=by simp;omega
 have d3:decide (n<=s)=false:=by simp;omega
 go_enter func121,ntmps121
 go_wp2_with (first
  | (at_make;go_must (refine aX rfl _ _ _ rfl 3 i0 _ 1 underlying25 hi0 hz0 hz1 (n:Int) n rfl rfl rfl (by rw [hz2];omega) (by unfold maxLen;omega) S1.out ?_;intro w2 S';rw [fK] at S';have S2:=lh S';clear S'))
  | (go_at_call 192;go_must (refine(HE2.out _ S0.out.ext).mono ?_;rintro e w1 ⟨q1,c1,rfl,Z⟩;have S1:=lh (S0.out.comp Z);obtain⟨az,a0,a1,a2,a3⟩:=aC (S1.out.blk 1 rfl);clear Z)))
 generalize hql:(some ⟨w1.heap.size,0,none⟩:Option Addr)=qo at *
 clear hql S1 S0 a0 a1 a2 a3 az
 go_loopw [12] (fun v wr=>∃ k:Nat,k<=n/\v=.int .i64 k/\Ic w wr [.own 3 1 qo n n (ab (List.replicate k (-1) ++ List.replicate (n - k) 0)),.own 98 2 q1 l.length c1 (aj l),.blk w.heap.size 27 #[.slice po (n+1) co,.slice pt nt ct,.slice pr nr cr,.slice pv nv cv]]) (fun v _=>n - (intOf v).toNat)
 case atStart=>exact⟨0,Nat.zero_le _,rfl,S2.out⟩
 case round =>
  clear S2
  obtain⟨k,hk,rfl,S⟩:=hrel
  have pz:=(S.rd 0 rfl (by omega)).ptr
  have fz:=aA (S.own 0 rfl) (by omega) k
  by_cases hlt:k<n
  ·have HS:=lh (wV hlt)
   have c1:=bU (S.own 0 rfl) (k:=k) (by omega)
   have d1:(0:Int)<=k:=by omega
   have d2:(k:Int)<n:=by omega
   have SH:=lh S;clear S
   go_wp2
   go_roundw
   case rel=>exact⟨k+1,by omega,by go_num,by rw [<- HS.out,<- dm];exact SH.out.setRow 0 rfl k (by omega) (.int .i64 (-1))⟩
   case measure=>simp [intOf];omega
  ·obtain rfl:n=k:=by omega
   rw [Nat.sub_self,List.replicate_zero,List.append_nil] at S
   have Q3:=aA (S.own 0 rfl) (by omega) s
   have c2:=bU (S.own 0 rfl) (k:=s) (by omega)
   have d4:(0:Int)<=s:=by omega
   have d5:(s:Int)<n:=by omega
   have SH:=lh S;clear S
   clear fz
   go_wp2
   go_loopw [13,14,15,16] (fun v _ _ _ wr=>∃ t:Nat,t<=n/\v=.int .i64 t/\Ic w wr [.own 3 1 qo n n (ab (rH l (kC n s) t)),.own 98 2 q1 l.length c1 (aj l),.blk w.heap.size 27 #[.slice po (n+1) co,.slice pt nt ct,.slice pr nr cr,.slice pv nv cv]]) (fun v _ _ _ _=>n - (intOf v).toNat)
   case atStart=>exact⟨0,Nat.zero_le _,rfl,by show Ic _ _ (.own _ _ _ _ _ (ab (kC n s)) :: _);unfold kC;rw [<- dm];exact SH.out.setRow 0 rfl s (by omega) (.int .i64 0)⟩
   case round =>
    clear SH Q3 c2 hlt
    obtain⟨t,ht,rfl,S⟩:=hrel
    by_cases hlt:t<n
    ·have d6:(0:Int)<=t:=by omega
     have d7:(t:Int)<n:=by omega
     have SH:=lh S;clear S
     go_wp2
     go_loopw [14,15,16] (fun i _ _ wr=>∃ j:Nat,j<=l.length/\i=.int .i64 j/\Ic w wr [.own 3 1 qo n n (ab (uT (l.take j) (rH l (kC n s) t))),.own 98 2 q1 l.length c1 (aj l),.blk w.heap.size 27 #[.slice po (n+1) co,.slice pt nt ct,.slice pr nr cr,.slice pv nv cv]]) (fun i _ _ _=>l.length - (intOf i).toNat)
     case atStart=>exact⟨0,Nat.zero_le _,rfl,SH.out⟩
     case round =>
      clear SH
      obtain⟨j,hj,rfl,S⟩:=hrel
      have pz:=(S.rd 0 rfl (by omega)).ptr
      have pe:=(S.rd 1 rfl (by omega)).ptr
      by_cases hlj:j<l.length
      ·have hs1:=lh (sN (X:=rH l (kC n s) t) hlj)
       have hb:∀ v,-1<=ae (uT (l.take j) (rH l (kC n s) t)) v/\ae (uT (l.take j) (rH l (kC n s) t)) v<=1000000:=fun v=>by
        have g1:=rI (l:=l) j (rH l (kC n s) t) (Int.natCast_nonneg (t*l.length)) (Ay t) v
        have g2:t*l.length<=200*2000:=Nat.mul_le_mul (by omega) (by omega)
        omega
       generalize uT (l.take j) (rH l (kC n s) t)=X at *
       have e1:=(S.rd 1 rfl (by omega)).cE hlj
       have e2:=(S.rd 1 rfl (by omega)).cE2 hlj
       obtain⟨b1,b2,b3,b4⟩:=JW.out _ (aY hlj)
       obtain⟨a,ha⟩:∃ a:Nat,(ae l j).1=(a:Int):=⟨(ae l j).1.toNat,by omega⟩
       obtain⟨b,hb'⟩:∃ b:Nat,(ae l j).2=(b:Int):=⟨(ae l j).2.toNat,by omega⟩
       rw [ha] at b1 b2 e1
       rw [hb'] at b3 b4 e2
       have hs2:Hid (uT (l.take (j+1)) (rH l (kC n s) t)=if 0<=ae X a/\(ae X b<0\/ae X a+1<ae X b) then X.set b (ae X a+1) else X):=by
        unfold Hid;rw [hs1.out];unfold Aw;rw [ha,hb',Int.toNat_natCast,Int.toNat_natCast]
       clear ha hb' hs1
       have fa:=aA (S.own 0 rfl) (by omega) b
       have ca:=(S.rd 0 rfl (by omega)).cI (k:=a) (by omega)
       have cb:=(S.rd 0 rfl (by omega)).cI (k:=b) (by omega)
       have ba:=hb a
       have bb:=hb b
       clear hb
       have d8:(0:Int)<=j:=by omega
       have d9:(j:Int)<l.length:=by omega
       have dA:(a:Int)<n:=b2
       have dB:(b:Int)<n:=b4
       generalize ae X a=x at *
       generalize ae X b=y at *
       by_cases k1:0<=x
       ·have f1:decide (0<=x)=true:=by simpa using k1
        by_cases k2:y<0
        ·have f2:decide (y<0)=true:=by simpa using k2
         rw [if_pos ⟨k1,.inl k2⟩] at hs2
         have SH:=lh S;clear S
         go_wp2
         go_roundw
         case rel=>exact⟨j+1,by omega,by go_num,by rw [hs2.out,<- dm];exact SH.out.setRow 0 rfl b (by omega) (.int .i64 (x+1))⟩
         case measure=>simp [intOf];omega
        ·have f2:decide (y<0)=false:=by simpa using k2
         by_cases k3:x+1<y
         ·have f3:decide (x+1<y)=true:=by simpa using k3
          rw [if_pos ⟨k1,.inr k3⟩] at hs2
          have SH:=lh S;clear S
          go_wp2
          go_roundw
          case rel=>exact⟨j+1,by omega,by go_num,by rw [hs2.out,<- dm];exact SH.out.setRow 0 rfl b (by omega) (.int .i64 (x+1))⟩
          case measure=>simp [intOf];omega
         ·have f3:decide (x+1<y)=false:=by simpa using k3
          rw [if_neg (by omega)] at hs2
          have SH:=lh S;clear S
          go_wp2
          go_roundw
          case rel=>exact⟨j+1,by omega,by go_num,by rw [hs2.out];exact SH.out⟩
          case measure=>simp [intOf];omega
       ·have f1:decide (0<=x)=false:=by simpa using k1
        rw [if_neg (by omega)] at hs2
        have SH:=lh S;clear S
        go_wp2
        go_roundw
        case rel=>exact⟨j+1,by omega,by go_num,by rw [hs2.out];exact SH.out⟩
        case measure=>simp [intOf];omega
      ·obtain rfl:j=l.length:=by omega
       rw [List.take_length] at S
       have SH:=lh S;clear S
       go_wp2
       go_roundw
       case rel=>exact⟨t+1,by omega,by go_num,SH.out⟩
       case measure=>simp [intOf];omega
    ·obtain rfl:n=t:=by omega
     rw [Tw.out] at S
     have SH:=lh S;clear S
     go_wp2
     go_ret2
     exact⟨qo,_,rfl,SH.out.pick [0] (by decide) rfl⟩
theorem sD (po:Option Addr) (no co:Nat) (O:List Int) (pt:Option Addr) (nt ct:Nat) (T:List Int) (pr:Option Addr) (nr cr:Nat) (R:List Int) (pv:Option Addr) (nv cv:Nat) (V:List Int) (w:World) (s:Int) (back:Bool) (hO:Rd w 1 po no (ab O)) (hT:Rd w 1 pt nt (ab T)) (hR:Rd w 1 pr nr (ab R)) (hV:Rd w 1 pv nv (ab V)) (hct:nt<=ct) (hcv:nv<=cv) (hc:dV (ai O T R V) O s≠0) :
  Calls prog 121 #[.agg #[.slice po no co,.slice pt nt ct,.slice pr nr cr,.slice pv nv cv],.int .i64 s,.bool back] w fun e w'=>e=.returned (.tuple #[.slice none 0 0,.int .i64 (dV (ai O T R V) O s)])/\Ext w w':=by
 have S0:=lh ((Ic.start w).al #[.slice po no co,.slice pt nt ct,.slice pr nr cr,.slice pv nv cv] 27 w.heap.size rfl)
 have HE:=lh (fun W1 (h:Ext w W1)=>wH po no co O pt nt ct T pr nr cr R pv nv cv V W1 back (hO.ext h) (hT.ext h) (hR.ext h) (hV.ext h) hct hcv)
 have l1:=hO.nI
 have n1:=hO.small
 clear hO hT hR hV
 unfold dV at *
 cases hck:ai O T R V with
 | false =>
  rw [hck] at HE
  rw [if_neg (by simp)]
  have HE2:Hid (∀ W1,Ext w W1->Calls prog 192 #[.agg #[.slice po no co,.slice pt nt ct,.slice pr nr cr,.slice pv nv cv],.bool back] W1 fun e w'=>∃ q c,e=.returned (.tuple #[.slice q 0 c,.int .i64 40])/\Ic W1 w' [.own 98 2 q 0 c []]):=HE.out
  clear HE hck hc l1
  have HE:=HE2
  clear HE2
  go_enter func121,ntmps121
  go_wp2_with (go_at_call 192;go_must (refine(HE.out _ S0.out.ext).mono ?_;rintro e w1 ⟨q1,c1,rfl,Z⟩;have S1:=lh (S0.out.comp Z);obtain⟨az,a0,a1,a2,a3⟩:=aC (S1.out.blk 1 rfl);clear Z))
  go_ret2
  exact⟨rfl,S1.out.ext⟩
 | true =>
  rw [hck,if_pos rfl] at hc
  rw [hck] at HE
  rw [if_pos rfl]
  have hno:¬ (0<=s/\s<(O.length:Int) - 1):=fun h=>by rw [if_pos h] at hc;exact hc rfl
  rw [if_neg hno]
  have HE2:Hid (∀ W1,Ext w W1->Calls prog 192 #[.agg #[.slice po no co,.slice pt nt ct,.slice pr nr cr,.slice pv nv cv],.bool back] W1 fun e w'=>∃ q c,e=.returned (.tuple #[.slice q (kI back O T).length c,.int .i64 0])/\Ic W1 w' [.own 98 2 q (kI back O T).length c (aj (kI back O T))]):=HE.out
  clear HE hck hc
  have HE:=HE2
  clear HE2
  generalize kI back O T=l at *
  by_cases h1:s<0
  ·have d1:decide (s<0)=true:=by simpa using h1
   clear hno l1
   go_enter func121,ntmps121
   go_wp2_with (go_at_call 192;go_must (refine(HE.out _ S0.out.ext).mono ?_;rintro e w1 ⟨q1,c1,rfl,Z⟩;have S1:=lh (S0.out.comp Z);obtain⟨az,a0,a1,a2,a3⟩:=aC (S1.out.blk 1 rfl);clear Z))
   go_ret2
   exact⟨rfl,S1.out.ext⟩
  ·have d1:decide (s<0)=false:=by simpa using h1
   have d2:decide ((no:Int) - 1<=s)=true:=by simp;omega
   clear hno l1
   go_enter func121,ntmps121
   go_wp2_with (go_at_call 192;go_must (refine(HE.out _ S0.out.ext).mono ?_;rintro e w1 ⟨q1,c1,rfl,Z⟩;have S1:=lh (S0.out.comp Z);obtain⟨az,a0,a1,a2,a3⟩:=aC (S1.out.blk 1 rfl);clear Z))
   go_ret2
   exact⟨rfl,S1.out.ext⟩
theorem zY (po:Option Addr) (no co:Nat) (O:List Int) (pt:Option Addr) (nt ct:Nat) (T:List Int) (pr:Option Addr) (nr cr:Nat) (R:List Int) (pv:Option Addr) (nv cv:Nat) (V:List Int) (w:World) (s:Int) (back:Bool) (hO:Rd w 1 po no (ab O)) (hT:Rd w 1 pt nt (ab T)) (hR:Rd w 1 pr nr (ab R)) (hV:Rd w 1 pv nv (ab V)) (hct:nt<=ct) (hcv:nv<=cv) :
  Calls prog 121 #[.agg #[.slice po no co,.slice pt nt ct,.slice pr nr cr,.slice pv nv cv],.int .i64 s,.bool back] w fun e w'=>∃ q c,e=.returned (.tuple #[.slice q (fU (ai O T R V) back O T R V s).length c,.int .i64 (dV (ai O T R V) O s)])/\Ic w w' [.own 3 1 q (fU (ai O T R V) back O T R V s).length c (ab (fU (ai O T R V) back O T R V s))]:=by
 by_cases hc:dV (ai O T R V) O s=0
 ·have hck:ai O T R V=true:=by
   apply Classical.byContradiction;intro h
   unfold dV at hc;rw [if_neg h] at hc;omega
  have hs:0<=s/\s<(O.length:Int) - 1:=by
   apply Classical.byContradiction;intro h
   unfold dV at hc;rw [if_pos hck,if_neg h] at hc;omega
  obtain⟨n,hn⟩:∃ n,O.length=n+1:=⟨O.length - 1,by omega⟩
  obtain⟨a,rfl⟩:∃ a:Nat,s=(a:Int):=⟨s.toNat,by omega⟩
  have e:fU (ai O T R V) back O T R V a=(List.range n).map fun v=>ay (wQ back O T R V) n a v:=by
   unfold fU;rw [if_pos hc,hn];rfl
  rw [hc,e]
  refine(iw po no co O pt nt ct T pr nr cr R pv nv cv V w n a back hO hT hR hV hct hcv hck hn (by omega)).mono ?_
  rintro e w' ⟨q,c,rfl,S⟩
  have hl:((List.range n).map fun v=>ay (wQ back O T R V) n a v).length=n:=by simp
  refine⟨q,c,by rw [hl],by rw [hl];exact S⟩
 ·have e:fU (ai O T R V) back O T R V s=[]:=by unfold fU;rw [if_neg hc]
  rw [e]
  refine(sD po no co O pt nt ct T pr nr cr R pv nv cv V w s back hO hT hR hV hct hcv hc).mono ?_
  rintro e w' ⟨rfl,h⟩
  exact⟨none,0,rfl,((Ic.start w).call h).nilrow _ _⟩
theorem Dq (po:Option Addr) (no co:Nat) (O:List Int) (pt:Option Addr) (nt ct:Nat) (T:List Int) (pr:Option Addr) (nr cr:Nat) (R:List Int) (pv:Option Addr) (nv cv:Nat) (V:List Int) (k:Nat) (w:World) (hO:Rd w 1 po no (ab O)) (hT:Rd w 1 pt nt (ab T)) (hok:IJ O T) (hct:nt<=ct) (hk1:k+1<O.length) :
  Calls prog 266 #[.agg #[.slice po no co,.slice pt nt ct,.slice pr nr cr,.slice pv nv cv],.int .i64 k] w fun e w'=>e=.returned (.slice (bv pt ct (ae O k).toNat 1) (aD O T k).length (ct - (ae O k).toNat))/\Ext w w':=by
 have _u:=(R,V)
 have S0:=lh ((Ic.start w).al #[.slice po no co,.slice pt nt ct,.slice pr nr cr,.slice pv nv cv] 243 w.heap.size rfl)
 have Qw:=hO.small
 have l1:=hO.nI
 have l2:=hT.nI
 have pA:=hO.ptr
 have q1:=hok.lo k (by omega)
 have q2:=hok.le k hk1
 have q3:=hok.hi (k+1) hk1
 have hrl:=cK hok hk1
 have IQ:=hT.rowOf hok hct hk1
 have g1:=hO.cI (k:=k) (by omega)
 have g2:=hO.cI (k:=k+1) (by omega)
 obtain⟨a,ha⟩:∃ a:Nat,ae O k=(a:Int):=⟨(ae O k).toNat,by omega⟩
 obtain⟨c,hc⟩:∃ c:Nat,ae O (k+1)=(c:Int):=⟨(ae O (k+1)).toNat,by omega⟩
 rw [ha] at q1 q2 hrl IQ g1
 rw [hc] at q2 q3 hrl IQ g2
 simp only [Int.toNat_natCast] at hrl IQ
 have hq3:(c:Int)<=ct:=by omega
 have d1:(0:Int)<=k:=by omega
 have d2:(k:Int)<no:=by omega
 have d3:(0:Int)<=(k:Int)+1:=by omega
 have d4:(k:Int)+1<no:=by omega
 have RL:=lh IQ
 rw [hrl,ha,Int.toNat_natCast]
 clear hO hT hok ha hc hrl IQ l1 l2 q3 hk1
 go_enter func266,ntmps266
 go_wp2
 obtain⟨X,hX⟩:∃ X,X=w.alloc (.cells #[.slice po no co,.slice pt nt ct,.slice pr nr cr,.slice pv nv cv] 243):=⟨_,rfl⟩
 have SX:=lh (hX ▸ S0.out:Ic w X [.blk w.heap.size 243 #[.slice po no co,.slice pt nt ct,.slice pr nr cr,.slice pv nv cv]])
 rw [<- hX]
 clear hX S0
 obtain⟨bz,b0,b1,b2,b3⟩:=aC (SX.out.blk 0 rfl)
 replace g1:=SX.out.ext.cell g1
 replace g2:=SX.out.ext.cell g2
 have y0:=fun x:Ie X=>x.ext.cell b0
 have y1:=fun x:Ie X=>x.ext.cell b1
 have y2:=fun x:Ie X=>x.ext.cell b2
 have y3:=fun x:Ie X=>x.ext.cell b3
 have x1:=fun x:Ie X=>x.ext.cell g1
 have x2:=fun x:Ie X=>x.ext.cell g2
 refine av (by kernel_rfl) (by kernel_rfl) ?_
 repeat (go_big_quiet_step ((fail)))
 refine wpQuiet_nil ?_
 rintro w1 ⟨⟨_,hb1⟩,rfl⟩
 go_wp2
 go_ret
 exact⟨rfl,Ext.trans SX.out.ext hb1⟩
theorem E7 (po:Option Addr) (no co:Nat) (O:List Int) (pt:Option Addr) (nt ct:Nat) (T:List Int) (pr:Option Addr) (nr cr:Nat) (R:List Int) (pv:Option Addr) (nv cv:Nat) (V:List Int) (k:Nat) (w:World) (hO:Rd w 1 pr nr (ab R)) (hT:Rd w 1 pv nv (ab V)) (hok:IJ R V) (hct:nv<=cv) (hk1:k+1<R.length) :
  Calls prog 265 #[.agg #[.slice po no co,.slice pt nt ct,.slice pr nr cr,.slice pv nv cv],.int .i64 k] w fun e w'=>e=.returned (.slice (bv pv cv (ae R k).toNat 1) (aD R V k).length (cv - (ae R k).toNat))/\Ext w w':=by
 have _u:=(O,T)
 have S0:=lh ((Ic.start w).al #[.slice po no co,.slice pt nt ct,.slice pr nr cr,.slice pv nv cv] 243 w.heap.size rfl)
 have Qw:=hO.small
 have l1:=hO.nI
 have l2:=hT.nI
 have pA:=hO.ptr
 have q1:=hok.lo k (by omega)
 have q2:=hok.le k hk1
 have q3:=hok.hi (k+1) hk1
 have hrl:=cK hok hk1
 have IQ:=hT.rowOf hok hct hk1
 have g1:=hO.cI (k:=k) (by omega)
 have g2:=hO.cI (k:=k+1) (by omega)
 obtain⟨a,ha⟩:∃ a:Nat,ae R k=(a:Int):=⟨(ae R k).toNat,by omega⟩
 obtain⟨c,hc⟩:∃ c:Nat,ae R (k+1)=(c:Int):=⟨(ae R (k+1)).toNat,by omega⟩
 rw [ha] at q1 q2 hrl IQ g1
 rw [hc] at q2 q3 hrl IQ g2
 simp only [Int.toNat_natCast] at hrl IQ
 have hq3:(c:Int)<=cv:=by omega
 have d1:(0:Int)<=k:=by omega
 have d2:(k:Int)<nr:=by omega
 have d3:(0:Int)<=(k:Int)+1:=by omega
 have d4:(k:Int)+1<nr:=by omega
 have RL:=lh IQ
 rw [hrl,ha,Int.toNat_natCast]
 clear hO hT hok ha hc hrl IQ l1 l2 q3 hk1
 go_enter func265,ntmps265
 go_wp2
 obtain⟨X,hX⟩:∃ X,X=w.alloc (.cells #[.slice po no co,.slice pt nt ct,.slice pr nr cr,.slice pv nv cv] 243):=⟨_,rfl⟩
 have SX:=lh (hX ▸ S0.out:Ic w X [.blk w.heap.size 243 #[.slice po no co,.slice pt nt ct,.slice pr nr cr,.slice pv nv cv]])
 rw [<- hX]
 clear hX S0
 obtain⟨bz,b0,b1,b2,b3⟩:=aC (SX.out.blk 0 rfl)
 replace g1:=SX.out.ext.cell g1
 replace g2:=SX.out.ext.cell g2
 have y0:=fun x:Ie X=>x.ext.cell b0
 have y1:=fun x:Ie X=>x.ext.cell b1
 have y2:=fun x:Ie X=>x.ext.cell b2
 have y3:=fun x:Ie X=>x.ext.cell b3
 have x1:=fun x:Ie X=>x.ext.cell g1
 have x2:=fun x:Ie X=>x.ext.cell g2
 refine av (by kernel_rfl) (by kernel_rfl) ?_
 repeat (go_big_quiet_step ((fail)))
 refine wpQuiet_nil ?_
 rintro w1 ⟨⟨_,hb1⟩,rfl⟩
 go_wp2
 go_ret
 exact⟨rfl,Ext.trans SX.out.ext hb1⟩
theorem jx (po:Option Addr) (no co:Nat) (pt:Option Addr) (nt ct:Nat) (pr:Option Addr) (nr cr:Nat) (pv:Option Addr) (nv cv:Nat) (w:World) (h:1<=no) (hn:no<=9223372036854775807) :
  Calls prog 185 #[.agg #[.slice po no co,.slice pt nt ct,.slice pr nr cr,.slice pv nv cv]] w fun e w'=>e=.returned (.int .i64 ((no:Int) - 1))/\Ext w w':=by
 have S0:=lh ((Ic.start w).al #[.slice po no co,.slice pt nt ct,.slice pr nr cr,.slice pv nv cv] 243 w.heap.size rfl)
 go_enter func185,ntmps185
 go_wp2
 go_ret
 exact⟨rfl,S0.out.ext⟩
def DT (back:Bool) (rv:Value):Value:=if back=true then .func (.func 265) #[rv] #[] else .func (.func 266) #[rv] #[]
theorem uw (po : Option Addr) (no co : Nat) (pt : Option Addr) (nt ct : Nat) (pr : Option Addr) (nr cr : Nat) (pv : Option Addr) (nv cv : Nat) (back : Bool) (w : World) :
    Calls prog 228 #[.agg #[.slice po no co, .slice pt nt ct, .slice pr nr cr, .slice pv nv cv], .bool back] w fun e w' => e = .returned (DT back (.agg #[.slice po no co, .slice pt nt ct, .slice pr nr cr, .slice pv nv cv])) /\ Ext w w' := by
  have S0 := lh ((Ic.start w).al #[.slice po no co, .slice pt nt ct, .slice pr nr cr, .slice pv nv cv] 243 w.heap.size rfl)
  cases back <;>
  (go_enter func228, ntmps228
   go_wp2
   go_ret
   exact ⟨rfl, S0.out.ext⟩)
def j5 (ck:Bool) (O:List Int) (l:List Int):Int:=if ck=true then (if l.all (fun x=>decide (0<=x) && decide (x<(O.length:Int) - 1))=true then 0 else 1) else 40
theorem Bt (po:Option Addr) (no co:Nat) (O:List Int) (pt:Option Addr) (nt ct:Nat) (T:List Int) (pr:Option Addr) (nr cr:Nat) (R:List Int) (pv:Option Addr) (nv cv:Nat) (V:List Int) (p:Option Addr) (m c:Nat) (l:List Int) (w:World) (hO:Rd w 1 po no (ab O)) (hT:Rd w 1 pt nt (ab T)) (hR:Rd w 1 pr nr (ab R)) (hV:Rd w 1 pv nv (ab V)) (hct:nt<=ct) (hcv:nv<=cv) (hl:Rd w 1 p m (ab l)) :
  Calls prog 183 #[.agg #[.slice po no co,.slice pt nt ct,.slice pr nr cr,.slice pv nv cv],.slice p m c] w fun e w'=>e=.returned (.tuple #[.agg #[.slice po no co,.slice pt nt ct,.slice pr nr cr,.slice pv nv cv],.int .i64 (j5 (ai O T R V) O l)])/\Ext w w':=by
 have S0:=lh ((((Ic.start w).al #[.slice po no co,.slice pt nt ct,.slice pr nr cr,.slice pv nv cv] 27 w.heap.size rfl).al #[.slice none 0 0,.slice none 0 0,.slice none 0 0,.slice none 0 0] 243 (w.heap.size+1) (by simp)).al #[.slice po no co,.slice pt nt ct,.slice pr nr cr,.slice pv nv cv] 243 (w.heap.size+1+1) (by simp))
 have HC:=lh (fun W1 (h:Ext w W1)=>iV po no co O pt nt ct T pr nr cr R pv nv cv V W1 (hO.ext h) (hT.ext h) (hR.ext h) (hV.ext h) hct hcv)
 have l1:=hO.nI
 have n1:=hO.small
 have p1:=hl.ptr
 have n2:=hl.small
 have L1:=lh hl.nI
 have HL:=lh hl;clear hl
 cases hck:ai O T R V with
 | false =>
  rw [hck] at HC
  have HF:Hid (j5 false O l=40):=rfl
  clear hO hT hR hV hck l1
  go_enter func183,ntmps183
  go_wp2_with (go_at_call 82;go_must (refine(HC.out _ S0.out.ext).mono ?_;rintro e w1 ⟨rfl,hb⟩;have S1:=lh (S0.out.call hb);obtain⟨vz,v0,v1,v2,v3⟩:=aC (S1.out.blk 0 rfl);obtain⟨zz,z0,z1,z2,z3,Vh,Vi,Vj,Vk⟩:=dM (S1.out.blk 1 rfl);clear hb))
  have S7:=(((S1.out.set 1 rfl 0 (.slice po no co)).set 1 rfl 1 (.slice pt nt ct)).set 1 rfl 2 (.slice pr nr cr)).set 1 rfl 3 (.slice pv nv cv)
  obtain⟨b0,b1,b2,b3⟩:=cY (S7.blk 1 rfl)
  refine bodyPost_ret (v:=.tuple #[.agg #[.slice po no co,.slice pt nt ct,.slice pr nr cr,.slice pv nv cv],.int .i64 40]) (by simp [results,results183,go_sem,b0,b1,b2,b3,sizeOf243,isAgg243]) rfl ⟨(by rw [HF.out]),S7.ext⟩
 | true =>
  rw [hck] at HC
  have r:=aQ (aI (aK hck).2.2.1)
  have UU:1<=no:=by omega
  have LO:=lh l1
  have Jh:=lh (fun W=>jx po no co pt nt ct pr nr cr pv nv cv W UU n1)
  clear hO hT hR hV hck l1 r
  go_enter func183,ntmps183
  go_wp2_with (go_at_call 82;go_must (refine(HC.out _ S0.out.ext).mono ?_;rintro e w1 ⟨rfl,hb⟩;have S1:=lh (S0.out.call hb);obtain⟨vz,v0,v1,v2,v3⟩:=aC (S1.out.blk 0 rfl);obtain⟨zz,z0,z1,z2,z3,Vh,Vi,Vj,Vk⟩:=dM (S1.out.blk 1 rfl);clear hb))
  go_loopw [8,17] (fun _ i wr=>∃ k:Nat,k<=m/\i=.int .i64 k/\Hid ((l.take k).all (fun x=>decide (0<=x) && decide (x<(O.length:Int) - 1))=true)/\Ic w wr [.blk (w.heap.size+1+1) 243 #[.slice po no co,.slice pt nt ct,.slice pr nr cr,.slice pv nv cv],.blk (w.heap.size+1) 243 #[.slice none 0 0,.slice none 0 0,.slice none 0 0,.slice none 0 0],.blk w.heap.size 27 #[.slice po no co,.slice pt nt ct,.slice pr nr cr,.slice pv nv cv]]) (fun _ i _=>m - (intOf i).toNat)
  case atStart=>exact⟨0,Nat.zero_le _,rfl,rfl,S1.out⟩
  case round =>
   clear S0 S1 v0 v1 v2 v3 vz z0 z1 z2 z3 zz Vh Vi Vj Vk
   obtain⟨k,hk,rfl,ha,S⟩:=hrel
   obtain⟨vz,v0,v1,v2,v3⟩:=aC (S.blk 0 rfl)
   obtain⟨zz,z0,z1,z2,z3⟩:=aC (S.blk 1 rfl)
   obtain⟨Vh,Vi,Vj,Vk⟩:=uX (S.blk 1 rfl)
   by_cases hlt:k<m
   ·have g1:=S.ext.cell (HL.out.cI hlt)
    have d1:(0:Int)<=k:=by omega
    have d2:(k:Int)<m:=by omega
    have I7:k<l.length:=by rw [<- L1.out];exact hlt
    obtain⟨x,hx⟩:∃ x,x=ae l k:=⟨_,rfl⟩
    rw [<- hx] at g1
    have HX:=lh hx
    clear hx
    by_cases h1:x<0
    ·have e1:decide (x<0)=true:=by simpa using h1
     have HF:Hid (j5 true O l=1):=by
      unfold Hid j5
      rw [if_pos rfl,if_neg]
      rw [cX _ l k I7 (by rw [<- HX.out];simp;omega)];simp
     clear h1
     have SH:=lh S;clear S
     go_wp2
     have S7:=(((SH.out.set 1 rfl 0 (.slice po no co)).set 1 rfl 1 (.slice pt nt ct)).set 1 rfl 2 (.slice pr nr cr)).set 1 rfl 3 (.slice pv nv cv)
     obtain⟨b0,b1,b2,b3⟩:=cY (S7.blk 1 rfl)
     refine bodyPost_ret (v:=.tuple #[.agg #[.slice po no co,.slice pt nt ct,.slice pr nr cr,.slice pv nv cv],.int .i64 1]) (by simp [results,results183,go_sem,b0,b1,b2,b3,sizeOf243,isAgg243]) rfl ⟨(by rw [HF.out]),S7.ext⟩
    ·have e1:decide (x<0)=false:=by simpa using h1
     by_cases h2:(no:Int) - 1<=x
     ·have e2:decide ((no:Int) - 1<=x)=true:=by simpa using h2
      have HF:Hid (j5 true O l=1):=by
       unfold Hid j5
       rw [if_pos rfl,if_neg]
       have:=LO.out
       rw [cX _ l k I7 (by rw [<- HX.out];simp;omega)];simp
      clear h1 h2
      have SH:=lh S;clear S
      go_wp2_with (go_at_call 185;go_must (refine(Jh.out _).mono ?_;rintro e w2 ⟨rfl,hb⟩;have S2:=lh (SH.out.call hb);obtain⟨tz,t0,t1,t2,t3⟩:=aC (S2.out.blk 0 rfl);obtain⟨yz,y0,y1,y2,y3,yf0,yf1,yf2,yf3⟩:=dM (S2.out.blk 1 rfl);clear hb))
      have S7:=(((S2.out.set 1 rfl 0 (.slice po no co)).set 1 rfl 1 (.slice pt nt ct)).set 1 rfl 2 (.slice pr nr cr)).set 1 rfl 3 (.slice pv nv cv)
      obtain⟨b0,b1,b2,b3⟩:=cY (S7.blk 1 rfl)
      refine bodyPost_ret (v:=.tuple #[.agg #[.slice po no co,.slice pt nt ct,.slice pr nr cr,.slice pv nv cv],.int .i64 1]) (by simp [results,results183,go_sem,b0,b1,b2,b3,sizeOf243,isAgg243]) rfl ⟨(by rw [HF.out]),S7.ext⟩
     ·have e2:decide ((no:Int) - 1<=x)=false:=by simpa using h2
      have HS:Hid ((l.take (k+1)).all (fun x=>decide (0<=x) && decide (x<(O.length:Int) - 1))=true):=by
       have:=LO.out
       exact i6 _ l k I7 ha.out (by rw [<- HX.out];simp;omega)
      clear h1 h2 ha
      have SH:=lh S;clear S
      go_wp2_with (go_at_call 185;go_must (refine(Jh.out _).mono ?_;rintro e w2 ⟨rfl,hb⟩;have S2:=lh (SH.out.call hb);clear hb))
      go_roundw
      case rel=>exact⟨k+1,by omega,by go_num,HS.out,S2.out⟩
      case measure=>simp [intOf];omega
   ·have HF:Hid (j5 true O l=0):=by
     unfold Hid j5
     rw [if_pos rfl,if_pos (mW _ l k (by rw [<- L1.out];exact hlt) ha.out)]
    clear ha
    have SH:=lh S;clear S
    go_wp2
    have S7:=(((SH.out.set 1 rfl 0 (.slice po no co)).set 1 rfl 1 (.slice pt nt ct)).set 1 rfl 2 (.slice pr nr cr)).set 1 rfl 3 (.slice pv nv cv)
    obtain⟨b0,b1,b2,b3⟩:=cY (S7.blk 1 rfl)
    refine bodyPost_ret (v:=.tuple #[.agg #[.slice po no co,.slice pt nt ct,.slice pr nr cr,.slice pv nv cv],.int .i64 0]) (by simp [results,results183,go_sem,b0,b1,b2,b3,sizeOf243,isAgg243]) rfl ⟨(by rw [HF.out]),S7.ext⟩
section
open Go Go.RowKit
def IB {β:Type} (B:Nat) (I:β->World->Prop):Prop :=
 ∀ s Z W W',B<=Z.heap.size->Below B Z W->Below B Z W'->I s W->I s W'
theorem IB.below {β:Type} {B:Nat} {I:β->World->Prop} (h:IB B I) {s:β} {W W':World} (hB:B<=W.heap.size) (hb:Below B W W') (hs:I s W):I s W':=h s W W W' hB (Below.refl _ _) hb hs
theorem IB.putObj {β:Type} {B:Nat} {I:β->World->Prop} (h:IB B I) {s:β} {W:World} {l:Nat} {o:Obj} (o':Obj) (hs:I s W) (hB:B<=l) (hl:W.heap[l]?=some o):I s (W.putObj l o') :=
 h.below (by have:=(Array.getElem?_eq_some_iff.1 hl).1;omega) ((Below.refl B W).grown (grownBy_putObj' W l o') (by have:=(Array.getElem?_eq_some_iff.1 hl).1;omega) (fun k e=>by cases e;exact hB)) hs
def Ep {α:Type} (F:Fence) (n:Nat) (P:Program) (g:Nat) (lb:Array Value) (encs:α->Array Value) (A:α->World->Prop) (Kp:World->World->Prop) (S Sp:List α->Prop) (N:Nat) (w:World):Prop :=
 ∀ (l:Nat) (J Jx:List α->World->Prop) (W:World),Below w.heap.size w W->IB W.heap.size J->IB W.heap.size Jx ->
  (∀ pre x V,J pre V->A x V->pre.length<N->YieldAt F (n - 1) P l (encs x) V fun e V' =>
   (e=.returned (.bool true)/\J (pre ++ [x]) V'/\Kp V V')\/(e=.returned (.bool false)/\Jx (pre ++ [x]) V')) ->
  J [] W->CallsIn F n P g (#[.func (.yield l) #[] #[]] ++ lb) W fun e V=>(∃ v,e=.returned v)/\((∃ xs,S xs/\J xs V)\/(∃ pre,Sp pre/\Jx pre V))
section
variable {F:Fence} {n:Nat} {P:Program} {w:World}
theorem fp {α:Type} {g:Operand} {ps:Array Tmp} {assign body:Code} {Q:Exit->Act->World->Prop} {a:Act}
  (hro:F.round=none) (h1:1<=n) {gf:Nat} {lb:Array Value} (hg:a.eval g=.func (.func gf) #[] lb) (hF:F.fn gf) (eg:∀ args w,(callFunc gf args).run P w=.ok (.enter gf args) w)
  {encs:α->Array Value} {A:α->World->Prop} {Kp:World->World->Prop} {S Sp:List α->Prop} {N:Nat} {w0:World} (hseq:Ep F (n - 1) P gf lb encs A Kp S Sp N w0)
  (hKt:∀ {X Y Z:World},Kp X Y->Kp Y Z->Kp X Z) (hKb:∀ (W:World) (l:Nat) (o o':Obj),w.heap.size<=l->W.heap[l]?=some o->o.isCells=false->o.isWalk=false->Kp W (W.putObj l o')) (hb0:Below w0.heap.size w0 w) (hps:∀ x,(encs x).size=ps.size)
  (I:List α->World->Prop) (Ix:Code->List α->World->Prop) (hI:IB w.heap.size I) (hIx:∀ c,IB w.heap.size (Ix c)) (hA:OwnFrom w.heap.size A) (h0:I [] w) (a₁:α->Act)
  (hassign:∀ (l:Nat) (x:α) (W:World) (K:Act->World->Prop),K (a₁ x) W ->
   assign.wpIn (F.inRound l) (n - 1 - 1) P (Exit.then K (fun _ _ _=>False)) { tmps:=(ps.zip (encs x)).foldl (fun t (p,v)=>t.setIfInBounds p v) a.tmps,defers:=[] } W)
  (hbody:∀ (l:Nat) (pre:List α) (x:α) (W:World),I pre W->A x W->pre.length<N->body.wpIn (F.inRound l) (n - 1 - 1) P (ownPostG w.heap.size Kp I Ix (pre ++ [x]) W) (a₁ x) W)
  (hdone:∀ (D:Nat) (xs:List α) (W:World),w.heap.size<=D->S xs->I xs W->W.heap[D]?=some (.deferred (some []))->Q .normal { a with defers:={ target:=.collected D,args:=#[] } :: a.defers } W)
  (hstop:∀ (D:Nat) (c:Code) (pre:List α) (W:World),w.heap.size<=D->Sp pre->Ix c pre W->W.heap[D]?=some (.deferred (some []))->c.wpIn F n P Q { a with defers:={ target:=.collected D,args:=#[] } :: a.defers } W) :
  (Code.rangeFunc g ps assign body).wpIn F n P Q a w:=by
 refine wpIn_rangeFunc fun fn hfn=>?_
 rw [hro]
 have hB:w.heap.size<=w.heap.size+1:=Nat.le_succ _
 obtain⟨mk,hmk⟩:∃ mk:LoopState->Option Code->Loop,mk=fun st pe=>{ state:=st,pending:=pe,fn,tmps:=a.tmps,params:=ps,assign,body,defers:=w.heap.size }:=⟨_,rfl⟩
 obtain⟨V,hV⟩:∃ V,(w.alloc (.deferred (some []))).alloc (.loop (mk .ready none))=V:=⟨_,rfl⟩
 have NG:V.heap[w.heap.size+1]?=some (.loop (mk .ready none)):=by
  have h:=World.alloc_heap_new (w.alloc (.deferred (some []))) (.loop (mk .ready none))
  rw [World.size_alloc] at h
  rw [<- hV];exact h
 have NF:V.heap[w.heap.size]?=some (.deferred (some [])):=by
  rw [<- hV];exact(Below.heap_alloc _ _ _ (by simp)).trans (World.alloc_heap_new w _)
 have Qh:Below w0.heap.size w0 V:=by
  rw [<- hV];exact hb0.trans ((((Below.refl _ w).alloc (Nat.le_refl _) _).alloc (by simp) _).mono hb0.size)
 have Kl:w.heap.size<=V.heap.size:=by have:=(Array.getElem?_eq_some_iff.1 NF).1;omega
 have Qg:I [] V:=by rw [<- hV];exact hI.below (Nat.le_refl _) (((Below.refl _ w).alloc (Nat.le_refl _) _).alloc (by simp) _) h0
 have lV:w.heap.size+1<V.heap.size:=(Array.getElem?_eq_some_iff.1 NG).1
 have keep:∀ {Z X Y:World} {k:Nat} {o:Obj},Below V.heap.size Z X->Below V.heap.size Z Y->k<V.heap.size->X.heap[k]?=some o->Y.heap[k]?=some o:=fun {Z X Y k o} h1 h2 hk hX=>(h2.block k hk).trans ((h1.block k hk).symm.trans hX)
 refine⟨w.heap.size+1,[{ target:=.collected w.heap.size,args:=#[] }],V,{ target:=.fn (.func gf) lb,args:=#[.func (.yield (w.heap.size+1)) #[] #[]] },V,gf,#[.func (.yield (w.heap.size+1)) #[] #[]] ++ lb,V,?_,?_,?_,?_,fun _=>h1,?_⟩
 ·rw [<- hV,hmk];exact run_enterLoop_outer _ _ _ _ _
 ·simp only [resolve,hg];simp [go_sem]
 ·intro f' hf';simp [Target.leads] at hf';subst hf';exact hF
 ·simp [invoke,go_sem,eg]
 refine(hseq (w.heap.size+1)
  (fun pre W=>I pre W/\W.heap[w.heap.size+1]?=some (.loop (mk .ready none))/\W.heap[w.heap.size]?=some (.deferred (some [])))
  (fun pre W=>∃ c,Ix c pre W/\W.heap[w.heap.size+1]?=some (.loop (mk .done (some c)))/\W.heap[w.heap.size]?=some (.deferred (some []))) V Qh
  (fun s Z X Y hZ hx hy h=>⟨hI s Z X Y (Nat.le_trans Kl hZ) (hx.mono Kl) (hy.mono Kl) h.1,keep hx hy lV h.2.1,keep hx hy (by omega) h.2.2⟩)
  (fun s Z X Y hZ hx hy h=>h.elim fun c h=>⟨c,hIx c s Z X Y (Nat.le_trans Kl hZ) (hx.mono Kl) (hy.mono Kl) h.1,keep hx hy lV h.2.1,keep hx hy (by omega) h.2.2⟩)
  ?_ ⟨Qg,NG,NF⟩).mono ?_
 ·rintro pre x W ⟨hi,hl,hk⟩ hax hlen
  have hlt:w.heap.size+1<W.heap.size:=(Array.getElem?_eq_some_iff.1 hl).1
  have hy:=run_yield (P:=P) (args:=encs x) hl (by rw [hmk];exact hps x)
  rw [hmk] at hy
  refine⟨fn,_,assign,body,hy,roundIn_of_wpIn hfn (hassign _ x W _ ⟨_,run_beginRound hl (by rw [hmk]),?_⟩)⟩
  have l2:(W.putObj (w.heap.size+1) (.loop { mk .ready none with state:=.busy })).heap[w.heap.size+1]?=some (.loop { mk .ready none with state:=.busy }):=World.putObj_heap_same hlt
  have k2:(W.putObj (w.heap.size+1) (.loop { mk .ready none with state:=.busy })).heap[w.heap.size]?=some (.deferred (some [])):=(World.putObj_heap_other (by omega)).trans hk
  have p2:Kp W (W.putObj (w.heap.size+1) (.loop { mk .ready none with state:=.busy })):=hKb _ _ _ _ hB hl rfl rfl
  refine wpIn_mono (hbody _ pre x _ (hI.putObj _ hi hB hl) (hA.putObj _ hax hB hl rfl) hlen) ?_
  have fin:∀ (jump:Option Code) (X:World),KeepsFrom w.heap.size (W.putObj (w.heap.size+1) (.loop { mk .ready none with state:=.busy })) X ->
    (Instr.endRound (w.heap.size+1) jump).run P X=.ok (.bool jump.isNone) (X.putObj (w.heap.size+1) (.loop (mk (if jump.isNone then .ready else .done) jump))) /\
    X.heap[w.heap.size+1]?=some (.loop { mk .ready none with state:=.busy }) /\
    (X.putObj (w.heap.size+1) (.loop (mk (if jump.isNone then .ready else .done) jump))).heap[w.heap.size+1]?=some (.loop (mk (if jump.isNone then .ready else .done) jump)) /\
    (X.putObj (w.heap.size+1) (.loop (mk (if jump.isNone then .ready else .done) jump))).heap[w.heap.size]?=some (.deferred (some [])):=fun jump X hX=>by
   have l3:=hX.same _ _ hB l2 rfl
   have hr:=run_endRound (P:=P) jump l3
   rw [hmk] at hr l3 ⊢
   exact⟨hr,l3,World.putObj_heap_same (Array.getElem?_eq_some_iff.1 l3).1,(World.putObj_heap_other (by omega)).trans (hX.same _ _ (Nat.le_refl _) k2 rfl)⟩
  rintro e a3 X hp
  cases e with
  | normal =>
   obtain⟨hX,hkp,hi3⟩:=hp
   obtain⟨r1,r2,r3,r4⟩:=fin none X hX
   exact⟨_,_,r1,.inl ⟨rfl,⟨hI.putObj _ hi3 hB r2,r3,r4⟩,hKt (hKt p2 hkp) (hKb _ _ _ _ hB r2 rfl rfl)⟩⟩
  | ret =>
   obtain⟨r1,r2,r3,r4⟩:=fin (some .ret) X hp.1
   exact⟨_,_,r1,.inr ⟨rfl,.ret,(hIx _).putObj _ hp.2 hB r2,r3,r4⟩⟩
  | exit id =>
   obtain⟨r1,r2,r3,r4⟩:=fin (some (.exit id)) X hp.1
   exact⟨_,_,r1,.inr ⟨rfl,.exit id,(hIx _).putObj _ hp.2 hB r2,r3,r4⟩⟩
  | goto t =>
   obtain⟨r1,r2,r3,r4⟩:=fin (some (.goto t)) X hp.1
   exact⟨_,_,r1,.inr ⟨rfl,.goto t,(hIx _).putObj _ hp.2 hB r2,r3,r4⟩⟩
  | panic ch=>exact hp.elim
  | outgrown=>exact hp.elim
 ·rintro e X ⟨⟨v,rfl⟩,(⟨xs,hS,hi,hl,hk⟩ | ⟨pre,hSp,c,hi,hl,hk⟩)⟩
  ·have hr:=run_endLoop (P:=P) hl (by rw [hmk];simp)
   rw [hmk] at hr
   exact⟨none,_,hr,hdone _ xs _ (Nat.le_refl _) hS (hI.putObj _ hi hB hl) ((World.putObj_heap_other (by omega)).trans hk)⟩
  ·have hr:=run_endLoop (P:=P) hl (by rw [hmk];simp)
   rw [hmk] at hr
   exact⟨some c,_,hr,hstop _ c pre _ (Nat.le_refl _) hSp ((hIx c).putObj _ hi hB hl) ((World.putObj_heap_other (by omega)).trans hk)⟩
end
def sZ (B:Nat) (w:World):World:={ w with heap:=w.heap.extract 0 B }
theorem ib {B:Nat} {w:World} (h:B<=w.heap.size):(sZ B w).heap.size=B:=by simp [sZ];omega
theorem ke {B:Nat} {w:World} (h:B<=w.heap.size):Below B (sZ B w) w :=
 ⟨rfl,rfl,rfl,by rw [ib h];exact h,fun k hk=>by
  show w.heap[k]?=(w.heap.extract 0 B)[k]?
  rw [Array.getElem?_extract]
  simp
  intro h2;omega⟩
theorem Ic.rebase {w0 w w':World} {Γ:List Pc} {B:Nat} (S:Ic w0 w Γ) (h0:w0.heap.size=B) (hB:B<=w'.heap.size) (hsame:∀ p∈Γ,∀ k,p.foot k->w'.heap[k]?=w.heap[k]?):Ic (sZ B w') w' Γ :=
 ⟨by rw [Ext,ib hB];exact ke hB,fun p hp=>p.loc w w' (S.all p hp) (hsame p hp),fun p hp k hk=>by rw [ib hB,<- h0];exact S.new p hp k hk,S.apart⟩
theorem Ic.far {w0 w w' Z:World} {Γ:List Pc} {B:Nat} (S:Ic w0 w Γ) (h0:w0.heap.size<=B) (hZ:B<=Z.heap.size) (h1:Below B Z w) (h2:Below B Z w') (hf:∀ p∈Γ,∀ k,p.foot k->k<B):Ic w0 w' Γ :=
 ⟨⟨h2.os.trans (h1.os.symm.trans S.ext.os),h2.tape.trans (h1.tape.symm.trans S.ext.tape),h2.output.trans (h1.output.symm.trans S.ext.output),by have:=h2.size;omega,fun k hk=>(h2.block k (by omega)).trans ((h1.block k (by omega)).symm.trans (S.ext.block k hk))⟩,
  fun p hp=>p.loc w w' (S.all p hp) fun k hk=>(h2.block k (hf p hp k hk)).trans (h1.block k (hf p hp k hk)).symm,S.new,S.apart⟩
end
theorem Bi {f:Nat->Int} {n v:Nat} (hv:v<n):ae ((List.range n).map fun v=>f v) v=f v:=by
 rw [ar (by simpa using hv)];simp
theorem wK (po:Option Addr) (no co:Nat) (pt:Option Addr) (nt ct:Nat) (pr:Option Addr) (nr cr:Nat) (pv:Option Addr) (nv cv:Nat) (s:Int) (back:Bool) (w:World) :
  Calls prog 186 #[.agg #[.slice po no co,.slice pt nt ct,.slice pr nr cr,.slice pv nv cv],.int .i64 s,.bool back] w fun e w'=>∃ b1 b2 b3,e=.returned (.func (.func 229) #[] #[.pointer (some ⟨b1,0,none⟩),.pointer (some ⟨b2,0,none⟩),.pointer (some ⟨b3,0,none⟩)]) /\
   Ic w w' [.blk b3 128 #[DT back (.agg #[.slice po no co,.slice pt nt ct,.slice pr nr cr,.slice pv nv cv])],.blk b2 3 #[.int .i64 s],.blk b1 243 #[.slice po no co,.slice pt nt ct,.slice pr nr cr,.slice pv nv cv]]:=by
 have S0:=lh (((Ic.start w).al #[.slice po no co,.slice pt nt ct,.slice pr nr cr,.slice pv nv cv] 243 w.heap.size rfl).al #[.int .i64 s] 3 (w.heap.size+1) (by simp))
 cases back with
 | false =>
  have HN:Hid (∀ W,Calls prog 228 #[.agg #[.slice po no co,.slice pt nt ct,.slice pr nr cr,.slice pv nv cv],.bool false] W fun e w'=>e=.returned (.func (.func 266) #[.agg #[.slice po no co,.slice pt nt ct,.slice pr nr cr,.slice pv nv cv]] #[])/\Ext W w'):=fun W=>uw po no co pt nt ct pr nr cr pv nv cv false W
  go_enter func186,ntmps186
  go_wp2_with (go_at_call 228;go_must (refine(HN.out _).mono ?_;rintro e w1 ⟨rfl,hb⟩;have S1:=lh (S0.out.call hb);clear hb))
  go_ret
  exact⟨_,_,_,rfl,S1.out.al #[.func (.func 266) #[.agg #[.slice po no co,.slice pt nt ct,.slice pr nr cr,.slice pv nv cv]] #[]] 128 w1.heap.size rfl⟩
 | true =>
  have HN:Hid (∀ W,Calls prog 228 #[.agg #[.slice po no co,.slice pt nt ct,.slice pr nr cr,.slice pv nv cv],.bool true] W fun e w'=>e=.returned (.func (.func 265) #[.agg #[.slice po no co,.slice pt nt ct,.slice pr nr cr,.slice pv nv cv]] #[])/\Ext W w'):=fun W=>uw po no co pt nt ct pr nr cr pv nv cv true W
  go_enter func186,ntmps186
  go_wp2_with (go_at_call 228;go_must (refine(HN.out _).mono ?_;rintro e w1 ⟨rfl,hb⟩;have S1:=lh (S0.out.call hb);clear hb))
  go_ret
  exact⟨_,_,_,rfl,S1.out.al #[.func (.func 265) #[.agg #[.slice po no co,.slice pt nt ct,.slice pr nr cr,.slice pv nv cv]] #[]] 128 w1.heap.size rfl⟩
structure MF (n₀ B b1 b2 b3:Nat) (W W':World):Prop where
 low:Below n₀ W W'
 x1:W'.heap[b1]?=W.heap[b1]?
 x2:W'.heap[b2]?=W.heap[b2]?
 x3:W'.heap[b3]?=W.heap[b3]?
 up:∀ (k:Nat) (o:Obj),B<=k->W.heap[k]?=some o->o.isCells=true->W'.heap[k]?=some o
theorem MF.trans {n₀ B b1 b2 b3:Nat} {X Y Z:World} (h:MF n₀ B b1 b2 b3 X Y) (k:MF n₀ B b1 b2 b3 Y Z):MF n₀ B b1 b2 b3 X Z :=
 ⟨h.low.trans k.low,k.x1.trans h.x1,k.x2.trans h.x2,k.x3.trans h.x3,fun i o hB h1 h2=>k.up i o hB (h.up i o hB h1 h2) h2⟩
structure Yl where
 k:Nat
 F:List Int
 q:Option Addr
 c:Nat
abbrev kv (nx:Nat->List Int) (n s:Nat):={ x:Yl // cF (ay nx n s) n x.k x.F/\0<x.F.length }
def GN {nx:Nat->List Int} {n s:Nat} (B:Nat) (x:kv nx n s) (W:World):Prop:=Rd W 1 x.1.q x.1.F.length (ab x.1.F)/\B<=(be x.1.q 0).block
def DZ {nx:Nat->List Int} {n s:Nat} (x:kv nx n s):Array Value:=#[.int .i64 x.1.k,.slice x.1.q x.1.F.length x.1.c]
def GT {nx:Nat->List Int} {n s:Nat} (xs:List (kv nx n s)):Prop:=xs.map (·.1.k)=List.range xs.length/\gy n (ay nx n s) xs.length=false
def dK (X l:List Int) (n:Nat):List Value:=(List.range n).map fun v=>.bool (decide (0<=ae X v) || decide ((v:Int)∈l))
theorem uk {X l:List Int} {n v:Nat} (h:v<n):(dK X l n)[v]?=some (.bool (decide (0<=ae X v) || decide ((v:Int)∈l))):=by
 simp [dK,h]
theorem rj {X l:List Int} {n v:Nat} (_:v<n):(dK X l n).set v (.bool true)=dK X (l ++ [(v:Int)]) n:=by
 apply List.ext_getElem
 ·simp [dK]
 ·intro j h1 h2
  have hj:j<n:=by simpa [dK] using h2
  simp only [dK,List.getElem_set,List.getElem_map,List.getElem_range]
  by_cases e:v=j
  ·subst e;simp
  ·rw [if_neg e]
   have:((j:Int)∈l ++ [(v:Int)])↔(j:Int)∈l:=by
    rw [List.mem_append,List.mem_singleton]
    constructor
    ·rintro(h | h)
     ·exact h
     ·omega
    ·exact .inl
   simp only [this]
theorem oQ {nx:Nat->List Int} {n s k:Nat} {L:List Int} (hL:cF (ay nx n s) n ((k+1:Nat):Int) L):dK (bh (ay nx n s) n k) L n=dK (bh (ay nx n s) n (k+1:Nat)) [] n:=by
 unfold dK
 apply List.map_congr_left
 intro v hv
 rw [List.mem_range] at hv
 rw [bw hv,bw hv]
 congr 1
 rw [Bool.eq_iff_iff]
 simp only [Bool.or_eq_true,decide_eq_true_eq,lL,List.not_mem_nil,or_false]
 rw [hL.2]
 simp
 omega
theorem xd {nx:Nat->List Int} {n s:Nat} (hs:s<n):(List.replicate n (Value.bool false)).set s (.bool true)=dK (bh (ay nx n s) n (0:Nat)) [] n:=by
 apply List.ext_getElem
 ·simp [dK]
 ·intro j h1 h2
  have hj:j<n:=by simpa [dK] using h2
  simp only [dK,List.getElem_set,List.getElem_map,List.getElem_range,List.getElem_replicate]
  rw [bw hj]
  have h0:=(iH nx n s hs).zero j hj
  by_cases e:s=j
  ·rw [if_pos e]
   have:0<=sn (ay nx n s) ((0:Nat):Int) j:=lL.2 (by have:=h0.2 e.symm;omega)
   simpa using this
  ·rw [if_neg e]
   have:¬ 0<=sn (ay nx n s) ((0:Nat):Int) j:=fun h=>by
    have h1:=lL.1 h
    exact e (h0.1 (by omega)).symm
   simpa using this
section
open Go Go.RowKit
abbrev jC:=List (List (Int × Int))
section
variable {nx:Nat->List Int} {near:List (Int × Int)->Int->Bool} {n h:Nat} {T0:jC} {good:Nat->Bool} {dd:Nat->Int}
end
end
def rT (acc:Int × Bool) (a b:Int × Int):Int × Bool:=if a.1=b.1/\(acc.2=false\/a.2+b.2<acc.1) then (a.2+b.2,true) else acc
def eH (acc:Int × Bool) (a:Int × Int) (OA:List (Int × Int)):Int × Bool:=OA.foldl (fun acc b=>rT acc a b) acc
def dN (out OA:List (Int × Int)):Int × Bool:=out.foldl (fun acc a=>eH acc a OA) (0,false)
theorem mw (acc:Int × Bool) (a:Int × Int) (l:List (Int × Int)) (b:Int × Int):eH acc a (l ++ [b])=rT (eH acc a l) a b:=by simp [eH]
theorem mx (l OA:List (Int × Int)) (a:Int × Int):dN (l ++ [a]) OA=eH (dN l OA) a OA:=by simp [dN]
def G0 (X:List (Int × Int)):Prop:=∀ x∈X,0<=x.2/\x.2<=1000
theorem Ek (p : Option Addr) (n c : Nat) (X : List (Int × Int)) (q : Option Addr) (m d : Nat) (Y : List (Int × Int)) (w : World) (hX : Rd w 2 p n (aj X)) (hY : Rd w 2 q m (aj Y)) (bX : G0 X) (bY : G0 Y) :
    Calls prog 90 #[.slice p n c, .slice q m d] w fun e w' => e = .returned (.tuple #[.int .i64 (dN X Y).1, .bool (dN X Y).2]) /\ Ext w w' := by
  have p1 := hX.ptr
  have p2 := hY.ptr
  have n1 := hX.small
  have n2 := hY.small
  have L1 := lh hX.nE
  have L2 := lh hY.nE
  have Ny := lh bX
  have Tm := lh bY
  clear bX bY
  have HX := lh hX; clear hX
  have HY := lh hY; clear hY
  go_enter func90, ntmps90
  go_wp2
  go_loopw [6, 7, 9, 11, 14] (fun v6 v7 _ _ i wr => ∃ k : Nat, k <= n /\ i = .int .i64 k /\ v6 = .int .i64 (dN (X.take k) Y).1 /\ v7 = .bool (dN (X.take k) Y).2 /\ Ext w wr) (fun _ _ _ _ i _ => n - (intOf i).toNat)
  case atStart => exact ⟨0, Nat.zero_le _, rfl, rfl, rfl, Below.refl _ _⟩
  case round =>
    obtain ⟨k, hk, rfl, rfl, rfl, hE⟩ := hrel
    by_cases hlt : k < n
    · have hkX : k < X.length := by rw [<- L1.out]; exact hlt
      have g1 := hE.cell (HX.out.cE hlt)
      have g2 := hE.cell (HX.out.cE2 hlt)
      have HST := lh (mx (X.take k) Y (ae X k))
      rw [<- ak X k hkX] at HST
      have HXB := lh (Ny.out _ (aY hkX))
      obtain ⟨acc, hacc⟩ : ∃ acc, dN (X.take k) Y = acc := ⟨_, rfl⟩
      rw [hacc] at HST ⊢
      obtain ⟨x, hx⟩ : ∃ x, ae X k = x := ⟨_, rfl⟩
      rw [hx] at HST HXB g1 g2
      clear hacc hx
      have HN : Hid (dN (X.take (k + 1)) Y = eH acc x Y) := HST.out
      have S1 := lh (((Ic.start w).call hE).al #[.int .i64 x.1, .int .i64 x.2] 105 wr.heap.size rfl)
      have HE := lh hE; clear hE
      go_wp2
      go_loopw [6, 7, 11, 20] (fun v6 v7 _ i wx => ∃ j : Nat, j <= m /\ i = .int .i64 j /\ v6 = .int .i64 (eH acc x (Y.take j)).1 /\ v7 = .bool (eH acc x (Y.take j)).2 /\ Ic w wx [.blk wr.heap.size 105 #[.int .i64 x.1, .int .i64 x.2]]) (fun _ _ _ i _ => m - (intOf i).toNat)
      case atStart => exact ⟨0, Nat.zero_le _, rfl, rfl, rfl, S1.out⟩
      case round =>
        clear S1 HE
        obtain ⟨j, hj, rfl, rfl, rfl, S⟩ := hrel
        have b0 := (S.blk 0 rfl).cell 0
        have b1 := (S.blk 0 rfl).cell 1
        have bz := (S.blk 0 rfl).lt
        by_cases hlj : j < m
        · have Qp : j < Y.length := by rw [<- L2.out]; exact hlj
          have g3 := S.ext.cell (HY.out.cE hlj)
          have g4 := S.ext.cell (HY.out.cE2 hlj)
          have hst := mw acc x (Y.take j) (ae Y j)
          rw [<- ak Y j Qp] at hst
          have hyb := Tm.out _ (aY Qp)
          have hxb := HXB.out
          generalize eH acc x (Y.take j) = r at *
          generalize ae Y j = y at *
          obtain ⟨rn, rk⟩ := r
          obtain ⟨x1, x2⟩ := x
          obtain ⟨y1, y2⟩ := y
          unfold rT at hst
          simp only at *
          have S2 := lh (S.junk (.cells #[.int .i64 y1, .int .i64 y2] 105))
          clear S
          by_cases e1 : x1 = y1
          · have f1 : (x1 == y1) = true := by simpa using e1
            cases rk with
            | false =>
              rw [if_pos ⟨e1, .inl rfl⟩] at hst
              have HS := lh hst
              clear hst
              subst e1
              go_wp2
              go_roundw
              case rel => exact ⟨j + 1, by omega, by go_num, by rw [HS.out], by rw [HS.out], S2.out⟩
              case measure => simp [intOf]; omega
            | true =>
              by_cases e2 : x2 + y2 < rn
              · have f2 : decide (x2 + y2 < rn) = true := by simpa using e2
                rw [if_pos ⟨e1, .inr e2⟩] at hst
                have HS := lh hst
                clear hst e2
                subst e1
                go_wp2
                go_roundw
                case rel => exact ⟨j + 1, by omega, by go_num, by rw [HS.out], by rw [HS.out], S2.out⟩
                case measure => simp [intOf]; omega
              · have f2 : decide (x2 + y2 < rn) = false := by simpa using e2
                rw [if_neg (by rintro ⟨_, h | h⟩; · cases h
                               · exact e2 h)] at hst
                have HS := lh hst
                clear hst e2
                subst e1
                go_wp2
                go_roundw
                case rel => exact ⟨j + 1, by omega, by go_num, by rw [HS.out], by rw [HS.out], S2.out⟩
                case measure => simp [intOf]; omega
          · have f1 : (x1 == y1) = false := by simpa using e1
            rw [if_neg fun h => e1 h.1] at hst
            have HS := lh hst
            clear hst e1
            go_wp2
            go_roundw
            case rel => exact ⟨j + 1, by omega, by go_num, by rw [HS.out], by rw [HS.out], S2.out⟩
            case measure => simp [intOf]; omega
        · obtain rfl : j = m := by omega
          rw [List.take_of_length_le (by rw [<- L2.out]; exact Nat.le_refl _), <- HN.out]
          have HE := lh S.ext
          clear S b0 b1 bz
          go_wp2
          go_roundw
          case rel => exact ⟨k + 1, by omega, by go_num, rfl, rfl, HE.out⟩
          case measure => simp [intOf]; omega
    · obtain rfl : k = n := by omega
      rw [List.take_of_length_le (by rw [<- L1.out]; exact Nat.le_refl _)]
      have HE := lh hE; clear hE
      go_wp2
      go_ret2
      exact ⟨rfl, HE.out⟩
section
open Go Go.RowKit
attribute [local go_sem ↓] Go.wp_at_zero Go.wp_at_succ
theorem AP (l:List Hd) (k:Nat) (p:Option Addr) (n c:Nat):(fR l).set k (.slice p n c)=fR (l.set k ⟨p,n,c⟩):=by simp [fR,List.map_set,Hd.v]
end
structure Iy (C:Nat) (x:Int) (b:Bool) (i:Nat) (v:Value) (_:World):Prop where
 a:i=C->v=.tuple #[.int .i64 x,.bool b]
 b':i=C+1->v=.tuple #[.int .i64 x,.bool b]
 c1:i=C+2->v=.int .i64 x
 c2:i=C+3->v=.bool b
 d1:i=C+4->v=.int .i64 x
 d2:i=C+5->v=.bool b
theorem Iy.of {C:Nat} {a:Int} {b:Bool} {i:Nat} {v:Value} {w:World} (h:(i=C\/i=C+1)/\v=.tuple #[.int .i64 a,.bool b]\/(i=C+2\/i=C+4)/\v=.int .i64 a\/(i=C+3\/i=C+5)/\v=.bool b):Iy C a b i v w:=by
 rcases h with ⟨h1,h2⟩ | ⟨h1,h2⟩ | ⟨h1,h2⟩
 ·exact⟨fun _=>h2,fun _=>h2,fun e=>by omega,fun e=>by omega,fun e=>by omega,fun e=>by omega⟩
 ·exact⟨fun e=>by omega,fun e=>by omega,fun _=>h2,fun e=>by omega,fun _=>h2,fun e=>by omega⟩
 ·exact⟨fun e=>by omega,fun e=>by omega,fun e=>by omega,fun _=>h2,fun e=>by omega,fun _=>h2⟩
theorem yV (H:List Hd) {i:Nat} (j:Nat) (x:Hd) (hi:i<H.length):ae (H.set i x) j=if i=j then x else ae H j:=by
 unfold ae
 rw [List.getD_eq_getElem?_getD,List.getD_eq_getElem?_getD,List.getElem?_set]
 by_cases e:i=j
 ·subst e;simp [hi]
 ·simp [e]
section
open Go Go.RowKit
attribute [local go_sem ↓] Go.wp_at_zero Go.wp_at_succ
def eE (wk:Nat) (hs:List Hd) (M:List Sq):List Pc:=(List.range wk).map fun h=>.own 138 4 (ae hs h).p (ae hs h).n (ae hs h).c (au (jU M wk h))
theorem uh {wk:Nat} {hs:List Hd} {M:List Sq} {h:Nat} (hh:h<wk):(eE wk hs M)[h]?=some (.own 138 4 (ae hs h).p (ae hs h).n (ae hs h).c (au (jU M wk h))):=by simp [eE,hh]
theorem zi {wk:Nat} {hs:List Hd} {M:List Sq} {x:Sq} {p:Option Addr} {m c:Nat} (hh:eC x.v wk<wk) (hl:hs.length=wk) :
  (eE wk hs M).set (eC x.v wk) (.own 138 4 p m c (au (jU M wk (eC x.v wk) ++ [x])))=eE wk (hs.set (eC x.v wk) ⟨p,m,c⟩) (M ++ [x]):=by
 apply List.ext_getElem
 ·simp [eE]
 ·intro j h1 h2
  have hj:j<wk:=by simpa [eE] using h2
  rw [List.getElem_set]
  simp only [eE,List.getElem_map,List.getElem_range]
  rw [yV hs j _ (by omega),xT]
  by_cases e:eC x.v wk=j
  ·subst e;simp
  ·simp [e]
theorem EJ:(prog.info? 83).map (fun i=>(i.zero,i.size,i.bytes))=some (some (.slice none 0 0),1,24):=by kernel_rfl
theorem yO (n:Nat):(madeCells (Value.slice none 0 0).cells (n*1)).toList=fR (List.replicate n ⟨none,0,0⟩):=by
 apply List.ext_getElem
 ·simp [madeCells,fR]
 ·intro i h1 h2
  simp [madeCells,Value.cells,Nat.mod_one,fR,Hd.v]
theorem Ic.nilB {w0 w:World} {Γ:List Pc} (S:Ic w0 w Γ) (e:TypeId) (size:Nat):∀ n,Ic w0 w (Γ ++ List.replicate n (.own e size none 0 0 []))
 | 0=>by simpa using S
 | n+1=>by
  have h:=((S.nilB e size n).nilrow e size)
  exact h.perm (by rw [List.replicate_succ];exact List.perm_middle)
theorem zh (wk:Nat):eE wk (List.replicate wk ⟨none,0,0⟩) []=List.replicate wk (.own 138 4 none 0 0 []):=by
 apply List.ext_getElem
 ·simp [eE]
 ·intro i h1 h2
  have hi:i<wk:=by simpa using h2
  have e:ae (List.replicate wk (⟨none,0,0⟩:Hd)) i=⟨none,0,0⟩:=by rw [ar (by simpa using hi)];simp
  simp only [eE,List.getElem_map,List.getElem_range,List.getElem_replicate,e,AB]
  rfl
theorem Eq (p:Option Addr) (n c:Nat) (M:List Sq) (wk:Nat) (w:World) (hl:Rd w 4 p n (au M)) (hm:∀ x∈M,mT x=true) (h1:1<=wk) (h16:wk<=16) (hn:n<=100000) :
  Calls prog 140 #[.slice p n c,.int .i64 wk] w fun e w'=>∃ q hs,hs.length=wk/\e=.returned (.tuple #[.slice q wk wk,.int .i64 0])/\Ic w w' (.own 83 1 q wk wk (fR hs) :: eE wk hs M):=by
 obtain⟨j0,YQ,YR,jz1,YS⟩:=info_parts EJ
 obtain⟨i0,hi0,hz0,hz1,hz2⟩:=info_parts iE
 have p1:=hl.ptr
 have n1:=hl.small
 have L1:=lh hl.nQ
 have HM:=lh hm
 have HL:=lh hl
 have HC:=lh (uD p n c M w hl hm)
 have HH:=lh (fun (v:Int) W (a:0<=v) (b:v<=1000000)=>zU v wk W a b h1 h16)
 clear hl hm
 go_enter func140,ntmps140
 go_wp2_with (first
  | (at_make;have _t:=HE;go_must (refine aX rfl _ _ _ rfl 83 j0 _ 1 underlying197 YQ YR jz1 (wk:Int) wk rfl rfl rfl (by rw [YS];omega) (by unfold maxLen;omega) ((Ic.start w).call HE.out) ?_;intro w2 S';rw [yO] at S';have S2:=lh (S'.nilB 138 4 wk);clear S'))
  | (go_at_call 143;go_must (refine HC.out.mono ?_;rintro e w1 ⟨rfl,hb⟩;have HE:=lh hb;clear hb))
  | (go_at_call 50;go_must (refine(HH.out 0 _ (by omega) (by omega)).mono ?_;rintro e w1 ⟨rfl,rfl⟩)))
 rw [<- zh] at S2
 generalize (some ⟨w1.heap.size,0,none⟩:Option Addr)=q at *
 go_loopw [10,11,12,29] (fun _ _ _ i wr=>∃ (k:Nat) (hs:List Hd),k<=n/\i=.int .i64 k/\hs.length=wk/\Hid (Ic w wr (.own 83 1 q wk wk (fR hs) :: eE wk hs (M.take k)))) (fun _ _ _ i _=>n - (intOf i).toNat)
 case atStart=>exact⟨0,_,Nat.zero_le _,rfl,by simp,S2⟩
 case round =>
  clear S2
  obtain⟨k,hs,hk,rfl,PV,S⟩:=hrel
  by_cases hlt:k<n
  ·obtain⟨g1,g2,g3,g4⟩:=(HL.out.ext S.out.ext).cQ hlt
   have hkl:k<M.length:=by rw [<- L1.out];exact hlt
   have hx:=HM.out (ae M k) (aY hkl)
   have HT:=lh (ak M k hkl)
   have hbl:=kD (M.take k) wk
   have Nw:Hid (∀ h,(jU (M.take k) wk h).length<=100000):=fun h=>by
    have:=hbl h
    rw [List.length_take] at this
    omega
   obtain⟨x,hxl⟩:∃ x,ae M k=x:=⟨_,rfl⟩
   rw [hxl] at g1 g2 g3 g4 hx HT
   obtain⟨m1,m2,m3,m4,m5,m6,m7⟩:=kT.1 hx
   have PI:eC x.v wk<wk:=tv (by omega)
   have MB:=lh (fun p m c=>zi (hs:=hs) (M:=M.take k) (p:=p) (m:=m) (c:=c) PI PV)
   have TD:=lh (fun W=>HH.out x.v W m4 (by omega))
   obtain⟨h,WB⟩:∃ h,eC x.v wk=h:=⟨_,rfl⟩
   rw [WB] at TD PI MB
   obtain⟨row,hrow⟩:∃ row,jU (M.take k) wk h=row:=⟨_,rfl⟩
   rw [hrow] at MB
   have hrl:row.length<=100000:=by rw [<- hrow];exact Nw.out h
   have hat:=uh (hs:=hs) (M:=M.take k) PI
   rw [hrow] at hat
   have d1:(0:Int)<=h:=by omega
   have d2:(h:Int)<wk:=by omega
   have hR:=S.out.rdx (h+1) (by rw [List.getElem?_cons_succ];exact hat)
   have hnl:(ae hs h).n=row.length:=hR.nQ
   obtain⟨hd,hhd⟩:∃ hd,ae hs h=hd:=⟨_,rfl⟩
   rw [hhd] at hat hnl
   obtain⟨hp,hn',hc⟩:=hd
   simp only at hat hnl
   subst hnl
   have S1:=lh (S.out.al #[.int .i64 x.s,.int .i64 x.r,.int .i64 x.v,.int .i64 x.d] 138 wr.heap.size rfl)
   have pq:=(S1.out.rdx 1 rfl).ptr
   obtain⟨a0,a1,a2,a3,az⟩:=ah (S1.out.blk 0 rfl)
   have gh:=(S1.out.rdx 1 rfl).cH PI
   rw [hhd] at gh
   have TC:=lh hhd
   have QK:=lh PI
   have HAT:=lh hat
   have dk1:(0:Int)<=k:=by omega
   have dk2:(k:Int)<n:=by omega
   clear hx hxl hkl hbl WB hrow hat hR hhd PI m1 m2 m3 m4 m5 m6 m7 S
   go_wp2_with (go_at_call 50;go_must (refine(TD.out _).mono ?_;rintro e w3 ⟨rfl,rfl⟩))
   obtain⟨w1,hw1⟩:∃ w1,wr.alloc (.cells #[.int .i64 x.s,.int .i64 x.r,.int .i64 x.v,.int .i64 x.d] 138)=w1:=⟨_,rfl⟩
   rw [hw1] at S1 a0 a1 a2 a3 az gh ⊢
   clear hw1
   have S4:=lh (S1.out.alrw #[.int .i64 x.s,.int .i64 x.r,.int .i64 x.v,.int .i64 x.d] 138 4 1 w1.heap.size rfl (by decide) (by simp)).drew
   obtain⟨q',c',w7,hrun,S'⟩:=S4.out.appended (h+3) 83 83 138 i0 _ 4 32 underlying83 hi0 hz0 hz1 hz2 rfl (by omega) hp row.length hc (au row) HAT.out (some ⟨w1.heap.size,0,none⟩) 1 1 (au [x]) (S4.out.rdx 0 rfl) (cP _) (by omega) (by omega)
   rw [<- bC] at S'
   have S5:Ic w w7 (.own 138 4 (some ⟨w1.heap.size,0,none⟩) 1 1 (au [x]) :: .blk wr.heap.size 138 #[.int .i64 x.s,.int .i64 x.r,.int .i64 x.v,.int .i64 x.d] :: .own 83 1 q wk wk (fR hs) :: eE wk (hs.set h ⟨q',row.length+1,c'⟩) (M.take k ++ [x])):=by rw [<- MB.out];exact S'
   obtain⟨k0,k1,k2,k3⟩:=cY (S5.blk 1 rfl)
   have ZU:=aA (S5.own 2 rfl) (by have:=QK.out;omega) h
   have WH:=(S5.rdx 2 rfl).cH QK.out
   rw [TC.out] at WH
   have T:=S5.setRow 2 rfl h (by have:=QK.out;omega) (.slice q' (row.length+1) c')
   rw [AP] at T
   obtain⟨t0,t1,t2,t3⟩:=cY (T.blk 1 rfl)
   have g5:=(S4.out.rdx 2 rfl).cH QK.out
   rw [TC.out] at g5
   have TF:Hid (Ic w (w7.setCell (be q h) (.slice q' (row.length+1) c')) (.own 83 1 q wk wk (fR (hs.set h ⟨q',row.length+1,c'⟩)) :: eE wk (hs.set h ⟨q',row.length+1,c'⟩) (M.take k ++ [x]))):=T.sub ((List.sublist_cons_self _ _).trans (List.sublist_cons_self _ _))
   clear S' S5 T S4 TC HAT MB TD Nw
   simp at k0 k1 k2 k3 t0 t1 t2 t3 a0 a1 a2 a3
   have gb:=World.block_lt_of_cell? w1 _ gh
   simp only at WH g5 gh
   refine wp_region_held_drew (S:=fun w'=>w'.cell? ⟨wr.heap.size,0,none⟩=some (.int .i64 x.s)/\w'.cell? ⟨wr.heap.size,1,none⟩=some (.int .i64 x.r)/\w'.cell? ⟨wr.heap.size,2,none⟩=some (.int .i64 x.v)/\w'.cell? ⟨wr.heap.size,3,none⟩=some (.int .i64 x.d)) (by kernel_rfl) (by(try dsimp only);go_keep) (fun hHeld=>?_)
   refine wpAnyH_take (i:=0) (v:=.slice q wk wk) rfl (by kernel_rfl) (by kernel_rfl) (by kernel_rfl) (fun _ _ _ h=>h) (Or.inl ⟨by rfl,fun W hSw=>by obtain⟨h1,h2,h3,h4⟩:=hSw;go_simp⟩) hHeld ?_
   refine wpAnyH_take (i:=1) (v:=.int .i64 h) rfl (by kernel_rfl) (by kernel_rfl) (by kernel_rfl) (fun _ _ _ h=>h) (Or.inl ⟨by rfl,fun W hSw=>by obtain⟨h1,h2,h3,h4⟩:=hSw;go_simp⟩) hHeld ?_
   refine wpAnyH_take (i:=2) (v:=.slice q wk wk) rfl (by kernel_rfl) (by kernel_rfl) (by kernel_rfl) (fun _ _ _ h=>h) (Or.inl ⟨by rfl,fun W hSw=>by obtain⟨h1,h2,h3,h4⟩:=hSw;go_simp⟩) hHeld ?_
   refine wpAnyH_take (i:=3) (v:=.int .i64 h) rfl (by kernel_rfl) (by kernel_rfl) (by kernel_rfl) (fun _ _ _ h=>h) (Or.inl ⟨by rfl,fun W hSw=>by obtain⟨h1,h2,h3,h4⟩:=hSw;go_simp⟩) hHeld ?_
   refine wpAnyH_take (i:=4) (v:=.pointer (some (be q h))) rfl (by kernel_rfl) (by kernel_rfl) (by kernel_rfl) (fun _ _ _ h=>h) (Or.inl ⟨by rfl,fun W hSw=>by obtain⟨h1,h2,h3,h4⟩:=hSw;go_simp⟩) hHeld ?_
   refine wpAnyH_take (i:=6) (v:=.agg #[.int .i64 x.s,.int .i64 x.r,.int .i64 x.v,.int .i64 x.d]) rfl (by kernel_rfl) (by kernel_rfl) (by kernel_rfl) (fun _ _ _ h=>h) (Or.inl ⟨by rfl,fun W hSw=>by obtain⟨h1,h2,h3,h4⟩:=hSw;go_simp⟩) hHeld ?_
   refine wpAnyH_ready (rs:=[5,7]) (by kernel_rfl) (by simp) (AllReadyH.cons rfl (fun K hK=>?_) (AllReadyH.cons rfl (fun K hK=>?_) AllReadyH.nil))
   ·go_simp
    refine hK.out _ _ hHeld (fun hHeld=>?_)
    clear hK
    refine wpAnyH_ready (rs:=[7]) (by kernel_rfl) (by simp) (AllReadyH.cons rfl (fun K hK=>?_) AllReadyH.nil)
    go_simp
    refine hK.out _ _ (by((try dsimp only);go_keep)) (fun hHeld=>?_)
    clear hK
    refine wpAnyH_ready (rs:=[8]) (by kernel_rfl) (by simp) (AllReadyH.cons rfl (fun K hK=>?_) AllReadyH.nil)
    rw [if_pos (by rfl)]
    refine cd (.tmp 48) (.tmp 50) 83 (by rfl) (by rfl) (by rfl) hrun ?_
    refine hK.out _ _ ⟨k0,k1,k2,k3⟩ (fun hHeld=>?_)
    clear hK
    refine wpAnyH_ready (rs:=[9]) (by kernel_rfl) (by simp) (AllReadyH.cons rfl (fun K hK=>?_) AllReadyH.nil)
    go_simp
    refine hK.out _ _ (by(exact⟨k0,k1,k2,k3⟩)) (fun hHeld=>?_)
    clear hK
    refine wpAnyH_ready (rs:=[10]) (by kernel_rfl) (by simp) (AllReadyH.cons rfl (fun K hK=>?_) AllReadyH.nil)
    go_simp
    refine hK.out _ _ (by(exact⟨t0,t1,t2,t3⟩)) (fun hHeld=>?_)
    clear hK
    refine wpAnyH_done (by kernel_rfl) ?_ _
    go_wp2
    go_roundw
    case rel=>exact⟨k+1,hs.set h ⟨q',row.length+1,c'⟩,by omega,by go_num,by rw [List.length_set];exact PV,by rw [HT.out];exact TF⟩
    case measure=>simp [intOf];omega
   ·go_simp
    refine hK.out _ _ (by(try dsimp only);go_keep) (fun hHeld=>?_)
    clear hK
    refine wpAnyH_ready (rs:=[5]) (by kernel_rfl) (by simp) (AllReadyH.cons rfl (fun K hK=>?_) AllReadyH.nil)
    go_simp
    refine hK.out _ _ (by(exact hHeld)) (fun hHeld=>?_)
    clear hK
    refine wpAnyH_ready (rs:=[8]) (by kernel_rfl) (by simp) (AllReadyH.cons rfl (fun K hK=>?_) AllReadyH.nil)
    rw [if_pos (by rfl)]
    refine cd (.tmp 48) (.tmp 50) 83 (by rfl) (by rfl) (by rfl) hrun ?_
    refine hK.out _ _ ⟨k0,k1,k2,k3⟩ (fun hHeld=>?_)
    clear hK
    refine wpAnyH_ready (rs:=[9]) (by kernel_rfl) (by simp) (AllReadyH.cons rfl (fun K hK=>?_) AllReadyH.nil)
    go_simp
    refine hK.out _ _ (by(exact⟨k0,k1,k2,k3⟩)) (fun hHeld=>?_)
    clear hK
    refine wpAnyH_ready (rs:=[10]) (by kernel_rfl) (by simp) (AllReadyH.cons rfl (fun K hK=>?_) AllReadyH.nil)
    go_simp
    refine hK.out _ _ (by(exact⟨t0,t1,t2,t3⟩)) (fun hHeld=>?_)
    clear hK
    refine wpAnyH_done (by kernel_rfl) ?_ _
    go_wp2
    go_roundw
    case rel=>exact⟨k+1,hs.set h ⟨q',row.length+1,c'⟩,by omega,by go_num,by rw [List.length_set];exact PV,by rw [HT.out];exact TF⟩
    case measure=>simp [intOf];omega
  ·obtain rfl:k=n:=by omega
   rw [List.take_of_length_le (by rw [<- L1.out];exact Nat.le_refl _)] at S
   go_wp2
   go_ret2
   exact⟨q,hs,PV,rfl,S.out⟩
end
theorem yP (n:Nat):(madeCells (Value.agg #[.int .i64 0,.int .i64 0,.int .i64 0,.int .i64 0]).cells (n*4)).toList=au (List.replicate n ⟨0,0,0,0⟩):=by
 apply List.ext_getElem
 ·simp [madeCells,dq]
 ·intro i h1 h2
  have h3:i<n*4:=by rw [dq,List.length_replicate] at h2;exact h2
  obtain⟨g1,g2,g3,g4⟩:=nT (List.replicate n ⟨0,0,0,0⟩) (i / 4) (by rw [List.length_replicate];omega)
  have e:ae (List.replicate n (⟨0,0,0,0⟩:Sq)) (i / 4)=⟨0,0,0,0⟩:=by rw [ar (by rw [List.length_replicate];omega)];simp
  rw [e] at g1 g2 g3 g4
  have hz:(au (List.replicate n (⟨0,0,0,0⟩:Sq)))[i]'h2=.int .i64 0:=by
   have:(au (List.replicate n (⟨0,0,0,0⟩:Sq))).getD i undef=.int .i64 0:=by
    have h4:i=i / 4*4\/i=i / 4*4+1\/i=i / 4*4+2\/i=i / 4*4+3:=by omega
    rcases h4 with h4 | h4 | h4 | h4 <;> rw [h4] <;> assumption
   rw [List.getD_eq_getElem?_getD,List.getElem?_eq_getElem h2] at this
   exact this
  rw [hz]
  have h5:i % 4=0\/i % 4=1\/i % 4=2\/i % 4=3:=by omega
  simp only [madeCells,Value.cells,Array.getElem_toList]
  rcases h5 with h5 | h5 | h5 | h5 <;> simp [h5]
theorem z8 (p:Option Addr) (n c:Nat) (L:List Int) (gi gp:Nat) (pp:Option Addr) (np cp:Nat) (ps:List Int) (w w0:World) (S:Ic w0 w [.blk gi 3 #[.int .i64 ((0:Int) - 1)],.blk gp 25 #[.slice pp np cp]]) (hl:Rd w0 1 p n (ab L)) (hps:Rd w0 1 pp np (ab ps)) (hn:n<=100000) :
  Calls prog 204 #[.slice p n c,.func (.func 239) #[] #[.pointer (some ⟨gi,0,none⟩),.pointer (some ⟨gp,0,none⟩)]] w fun e w'=>∃ (P:List Int) (q:Option Addr) (c':Nat),P.Perm L/\e=.returned (.slice q n c')/\Ic w0 w' [.own 3 1 q n c' (ab P)]:=by
 obtain⟨i0,hi0,hz0,hz1,hz2⟩:=info_parts kg
 have n1:=hl.small
 have LL:=lh hl.nI
 have P5:=lh hps
 have HL:=lh hl;clear hl
 have S0:=lh S;clear S
 clear hps
 go_enter func204,ntmps204
 go_wp2_with (first
  | (at_make;go_must (refine aX rfl _ _ _ rfl 3 i0 _ 1 underlying25 hi0 hz0 hz1 (n:Int) n rfl rfl rfl (by rw [hz2];omega) (by unfold maxLen;omega) S0.out ?_;intro w1 S';rw [fK] at S';have S1:=lh S';clear S'))
  | (have _t:=S1;with_reducible show wpList _ _ _ (⟨some 13,_,_,_,_,_⟩:: _) _ _;go_must (refine iU rfl _ _ 25 25 rfl 3 underlying25 1 DM S1.out 0 rfl n 0 n n n c _ p rfl rfl (by show n=min n n;omega) (fun _=>by simp [be]) (by omega) (ab L) (HL.out.ext S1.out.ext) (bN L) ?_;intro w2 S' hsz;have S2:=lh S';clear S' hsz)))
 have S3:Hid (Ic w0 w2 [.own 3 1 none 0 0 (ab []),.own 3 1 (some ⟨w.heap.size,0,none⟩) n n (ab L),.blk gi 3 #[.int .i64 ((((0:Nat):Int):Int) - 1)],.blk gp 25 #[.slice pp np cp]]):=by
  have h:=S2.out
  rw [Nat.zero_mul,oV (by rw [ep,ep,List.length_replicate,<- LL.out])] at h
  exact(h.nilrow 3 1)
 clear S2 S1 S0
 generalize w.heap.size=g0 at *
 go_loopg [5,6,7] n (fun gg v5 v6 _ wr=>∃ (out left:List Int) (q ql:Option Addr) (m k d cl:Nat),v5=.slice ql k cl/\v6=.slice q m d/\m+k=n/\k<=gg/\Hid ((out ++ left).Perm L)/\Hid (Ic w0 wr [.own 3 1 q m d (ab out),.own 3 1 ql k cl (ab left),.blk gi 3 #[.int .i64 (((m:Int):Int) - 1)],.blk gp 25 #[.slice pp np cp]]))
 case atStart=>exact⟨[],L,none,_,0,n,0,n,rfl,rfl,by omega,Nat.le_refl _,by rw [List.nil_append];exact List.Perm.refl _,S3⟩
 case round =>
  clear S3
  obtain⟨out,left,q,ql,m,k,d,cl,rfl,rfl,hmk,hgg,HP,S⟩:=hrel
  have lk:=(S.out.rdx 1 rfl).nI
  have PW:=lh lk
  clear lk
  by_cases hk:k=0
  ·subst hk
   have hle:left=[]:=List.eq_nil_of_length_eq_zero PW.out.symm
   have hm:m=n:=by omega
   subst hle hm
   have NA:=lh (show out.Perm L by have:=HP.out;rwa [List.append_nil] at this)
   clear HP hmk
   go_wp2
   go_ret
   exact⟨out,q,d,NA.out,rfl,S.out.pick [0] (by decide) rfl⟩
  ·have k1:(1:Int)<=(k:Int):=by omega
   have NK:m<=100000:=by omega
   have HO:=lh (DW gi gp pp np cp ps m k wr w0 _ 2 3 S.out rfl rfl (by decide) P5.out (by omega) (by omega) (by omega))
   go_wp2_with (first
    | (go_at_call 239;go_must (refine HO.out.mono ?_;rintro e w3 ⟨at_,hat,rfl,S'⟩;have S4:Hid (Ic w0 w3 [.own 3 1 q m d (ab out),.own 3 1 ql k cl (ab left),.blk gi 3 #[.int .i64 ((((m+1:Nat):Int):Int) - 1)],.blk gp 25 #[.slice pp np cp]]):=S';have pl:=(S'.rdx 1 rfl).ptr;have g1:=(S'.rdx 1 rfl).cI hat;have HX:=lh (qU HP.out (show at_<left.length by rw [<- PW.out];exact hat));have dd1:(0:Int)<=(at_:Int):=(by omega);have Ym:(at_:Int)<(k:Int):=(by omega);clear S'))
    | (at_builtin;have _t:=S4;go_must (refine am rfl _ _ _ rfl 3 i0 _ 1 8 underlying25 hi0 hz0 hz1 hz2 rfl (by omega) (S4.out.junk _) 0 q m d _ rfl rfl _ 1 1 _ rfl (Rd.oneI _ _ _) (bN _) (by omega) (by omega) ?_;intro q5 d5 w5 S' hsz;obtain⟨w6,hrun,T⟩:=nN S'.drew 1 rfl 25 25 3 3 underlying25 DM (by omega) (bN left) at_ hat;have S6:Hid (Ic w0 w6 [.own 3 1 q5 (m+1) d5 (ab (out ++ [ae left at_])),.own 3 1 ql (k - 1) cl (ab (left.eraseIdx at_)),.blk gi 3 #[.int .i64 ((((m+1:Nat):Int):Int) - 1)],.blk gp 25 #[.slice pp np cp]]):=(by rw [b9,pC];exact T);clear S' T hsz)))
   have kc:k<=cl:=cu (S4.out.own 1 rfl)
   obtain⟨b,hb⟩:∃ b,b=at_+1:=⟨_,rfl⟩
   have hc:bv ql cl at_ 1=ql.map (fun x=>x.add at_):=by unfold bv;rw [if_neg (by omega)];try simp
   rw [<- hb] at hrun
   have KX:=hrun
   rw [hc] at KX
   clear hc
   have e1:(at_:Int)+1=(b:Int):=by omega
   have Yn:(b:Int)<=(k:Int):=by omega
   have Yp:b<=k:=by omega
   have Yo:(0:Int)<=(b:Int):=by omega
   have dw:IntKind.i64.wrap (b:Int)=(b:Int):=by rw [IntKind.wrap_i64];omega
   have Yt:(b:Int)<=100000:=by omega
   have Yu:at_<=k:=by omega
   have UC:¬ cl=at_:=by omega
   have Yq:b<=cl:=by omega
   have Yr:(b:Int)<=(cl:Int):=by omega
   clear S S4 HP HO hb
   go_region_with fail
   go_wp2
   go_roundg (gk - 1)
   case measure=>omega
   case rel=>exact⟨out ++ [ae left at_],left.eraseIdx at_,q5,ql,m+1,k - 1,d5,cl,rfl,rfl,by omega,by omega,HX,S6⟩
theorem z9 (p:Option Addr) (n c:Nat) (L:List Sq) (gi gp:Nat) (pp:Option Addr) (np cp:Nat) (ps:List Int) (w w0:World) (S:Ic w0 w [.blk gi 3 #[.int .i64 ((0:Int) - 1)],.blk gp 25 #[.slice pp np cp]]) (hl:Rd w0 4 p n (au L)) (hps:Rd w0 1 pp np (ab ps)) (hn:n<=100000) :
  Calls prog 211 #[.slice p n c,.func (.func 239) #[] #[.pointer (some ⟨gi,0,none⟩),.pointer (some ⟨gp,0,none⟩)]] w fun e w'=>∃ (P:List Sq) (q:Option Addr) (c':Nat),P.Perm L/\e=.returned (.slice q n c')/\Ic w0 w' [.own 138 4 q n c' (au P)]:=by
 obtain⟨i0,hi0,hz0,hz1,hz2⟩:=info_parts iE
 have n1:=hl.small
 have LL:=lh hl.nQ
 have P5:=lh hps
 have HL:=lh hl;clear hl
 have S0:=lh S;clear S
 clear hps
 go_enter func211,ntmps211
 go_wp2_with (first
  | (at_make;go_must (refine aX rfl _ _ _ rfl 138 i0 _ 4 underlying83 hi0 hz0 hz1 (n:Int) n rfl rfl rfl (by rw [hz2];omega) (by unfold maxLen;omega) S0.out ?_;intro w1 S';rw [yP] at S';have S1:=lh S';clear S'))
  | (have _t:=S1;with_reducible show wpList _ _ _ (⟨some 13,_,_,_,_,_⟩:: _) _ _;go_must (refine iU rfl _ _ 83 83 rfl 138 underlying83 4 EK S1.out 0 rfl n 0 n n n c _ p rfl rfl (by show n=min n n;omega) (fun _=>by simp [be]) (by omega) (au L) (HL.out.ext S1.out.ext) (cP L) ?_;intro w2 S' hsz;have S2:=lh S';clear S' hsz)))
 have S3:Hid (Ic w0 w2 [.own 138 4 none 0 0 (au []),.own 138 4 (some ⟨w.heap.size,0,none⟩) n n (au L),.blk gi 3 #[.int .i64 ((((0:Nat):Int):Int) - 1)],.blk gp 25 #[.slice pp np cp]]):=by
  have h:=S2.out
  rw [Nat.zero_mul,oV (by rw [dq,dq,List.length_replicate,<- LL.out])] at h
  exact(h.nilrow 138 4)
 clear S2 S1 S0
 generalize w.heap.size=g0 at *
 go_loopg [5,6,7] n (fun gg v5 v6 _ wr=>∃ (out left:List Sq) (q ql:Option Addr) (m k d cl:Nat),v5=.slice ql k cl/\v6=.slice q m d/\m+k=n/\k<=gg/\Hid ((out ++ left).Perm L)/\Hid (Ic w0 wr [.own 138 4 q m d (au out),.own 138 4 ql k cl (au left),.blk gi 3 #[.int .i64 (((m:Int):Int) - 1)],.blk gp 25 #[.slice pp np cp]]))
 case atStart=>exact⟨[],L,none,_,0,n,0,n,rfl,rfl,by omega,Nat.le_refl _,by rw [List.nil_append];exact List.Perm.refl _,S3⟩
 case round =>
  clear S3
  obtain⟨out,left,q,ql,m,k,d,cl,rfl,rfl,hmk,hgg,HP,S⟩:=hrel
  have lk:=(S.out.rdx 1 rfl).nQ
  have PW:=lh lk
  clear lk
  by_cases hk:k=0
  ·subst hk
   have hle:left=[]:=List.eq_nil_of_length_eq_zero PW.out.symm
   have hm:m=n:=by omega
   subst hle hm
   have NA:=lh (show out.Perm L by have:=HP.out;rwa [List.append_nil] at this)
   clear HP hmk
   go_wp2
   go_ret
   exact⟨out,q,d,NA.out,rfl,S.out.pick [0] (by decide) rfl⟩
  ·have k1:(1:Int)<=(k:Int):=by omega
   have NK:m<=100000:=by omega
   have HO:=lh (DW gi gp pp np cp ps m k wr w0 _ 2 3 S.out rfl rfl (by decide) P5.out (by omega) (by omega) (by omega))
   go_wp2_with (first
    | (go_at_call 239;go_must (refine HO.out.mono ?_;rintro e w3 ⟨at_,hat,rfl,S'⟩;have S4:Hid (Ic w0 w3 [.own 138 4 q m d (au out),.own 138 4 ql k cl (au left),.blk gi 3 #[.int .i64 ((((m+1:Nat):Int):Int) - 1)],.blk gp 25 #[.slice pp np cp]]):=S';have pl:=(S'.rdx 1 rfl).ptr;obtain⟨g1,g2,g3,g4⟩:=(S'.rdx 1 rfl).cQ hat;have HX:=lh (qU HP.out (show at_<left.length by rw [<- PW.out];exact hat));have dd1:(0:Int)<=(at_:Int):=(by omega);have Ym:(at_:Int)<(k:Int):=(by omega);clear S'))
    | (at_builtin;have _t:=S4;go_must (refine am rfl _ _ _ rfl 138 i0 _ 4 32 underlying83 hi0 hz0 hz1 hz2 rfl (by omega) (S4.out.junk _) 0 q m d _ rfl rfl _ 1 1 _ rfl (Rd.oneQ _ _ (ae left at_)) (cP _) (by omega) (by omega) ?_;intro q5 d5 w5 S' hsz;obtain⟨w6,hrun,T⟩:=nN S'.drew 1 rfl 83 83 3 138 underlying83 EK (by omega) (cP left) at_ hat;have S6:Hid (Ic w0 w6 [.own 138 4 q5 (m+1) d5 (au (out ++ [ae left at_])),.own 138 4 ql (k - 1) cl (au (left.eraseIdx at_)),.blk gi 3 #[.int .i64 ((((m+1:Nat):Int):Int) - 1)],.blk gp 25 #[.slice pp np cp]]):=(by rw [bC,pE];exact T);clear S' T hsz)))
   have kc:k<=cl:=cu (S4.out.own 1 rfl)
   obtain⟨b,hb⟩:∃ b,b=at_+1:=⟨_,rfl⟩
   have hc:bv ql cl at_ 4=ql.map (fun x=>x.add (at_*4)):=by unfold bv;rw [if_neg (by omega)];try simp
   rw [<- hb] at hrun
   have KX:=hrun
   rw [hc] at KX
   clear hc
   have e1:(at_:Int)+1=(b:Int):=by omega
   have Yn:(b:Int)<=(k:Int):=by omega
   have Yp:b<=k:=by omega
   have Yo:(0:Int)<=(b:Int):=by omega
   have dw:IntKind.i64.wrap (b:Int)=(b:Int):=by rw [IntKind.wrap_i64];omega
   have Yt:(b:Int)<=100000:=by omega
   have Yu:at_<=k:=by omega
   have UC:¬ cl=at_:=by omega
   have Yq:b<=cl:=by omega
   have Yr:(b:Int)<=(cl:Int):=by omega
   clear S S4 HP HO hb
   go_region_with fail
   go_wp2
   go_roundg (gk - 1)
   case measure=>omega
   case rel=>exact⟨out ++ [ae left at_],left.eraseIdx at_,q5,ql,m+1,k - 1,d5,cl,rfl,rfl,by omega,by omega,HX,S6⟩
theorem Ht (pp:Option Addr) (np cp:Nat) (w:World):Calls prog 205 #[.slice pp np cp] w fun e w'=>e=.returned (.func (.func 239) #[] #[.pointer (some ⟨w.heap.size+1,0,none⟩),.pointer (some ⟨w.heap.size,0,none⟩)])/\w'=((w.alloc (.cells #[.slice pp np cp] 25)).alloc (.cells #[.int .i64 (-1)] 3)):=by
 go_enter func205,ntmps205
 go_wp2
 go_ret
 exact⟨rfl,rfl⟩
theorem El (p:Option Addr) (n c:Nat) (L:List Sq) (pp:Option Addr) (np cp:Nat) (ps:List Int) (w:World) (hl:Rd w 4 p n (au L)) (hps:Rd w 1 pp np (ab ps)) (hn:n<=100000) :
  Calls prog 146 #[.slice p n c,.slice pp np cp] w fun e w'=>∃ (P:List Sq) (q:Option Addr) (c':Nat),P.Perm L/\e=.returned (.slice q n c')/\Ic w w' [.own 138 4 q n c' (au P)]:=by
 have S0:=lh (((Ic.start w).al #[.slice pp np cp] 25 w.heap.size rfl).al #[.int .i64 (-1)] 3 (w.heap.size+1) (by simp))
 have HO:=lh (z9 p n c L (w.heap.size+1) w.heap.size pp np cp ps _ w S0.out hl hps hn)
 clear hl hps
 go_enter func146,ntmps146
 go_wp2_with (first | (go_at_call 205;refine(Ht _ _ _ _).mono ?_;rintro e w9 ⟨rfl,rfl⟩) | (go_at_call 211;go_must (refine HO.out.mono ?_;rintro e w1 ⟨P,q,c1,hP,rfl,Z⟩;have HP:=lh hP;have S1:=lh Z;clear hP Z)))
 go_ret
 exact⟨P,q,c1,HP.out,rfl,S1.out⟩
def lq (n k:Nat):List Int:=(List.range n).map fun v=>if v<k then (v:Int) else 0
theorem uu (n k:Nat):(lq n k).length=n:=by simp [lq]
theorem zC (n:Nat):lq n 0=List.replicate n 0:=by
 apply List.ext_getElem <;> simp [lq]
theorem B7 (n:Nat):lq n n=(List.range n).map fun v:Nat=>(v:Int):=by
 apply List.ext_getElem
 ·simp [lq]
 ·intro i h1 h2
  have h3:i<n:=by rw [uu] at h1;exact h1
  simp [lq,h3]
theorem B8 {n k:Nat} (_:k<n):(ab (lq n k)).set k (.int .i64 k)=ab (lq n (k+1)):=by
 apply List.ext_getElem
 ·simp [ab,lq]
 ·intro i h1 h2
  have h3:i<n:=by rw [ep,uu] at h2;exact h2
  rw [List.getElem_set]
  by_cases e:k=i
  ·subst e;simp [ab,lq]
  ·rw [if_neg e]
   simp only [ab,lq,List.getElem_map,List.getElem_range]
   by_cases h4:i<k
   ·rw [if_pos h4,if_pos (by omega)]
   ·rw [if_neg h4,if_neg (by omega)]
theorem Eo (n:Nat) (pp:Option Addr) (np cp:Nat) (ps:List Int) (w:World) (hps:Rd w 1 pp np (ab ps)) (hn:n<=1000) :
  Calls prog 139 #[.int .i64 n,.slice pp np cp] w fun e w'=>∃ (P:List Int) (q:Option Addr) (c':Nat),P.Perm ((List.range n).map fun v:Nat=>(v:Int))/\e=.returned (.tuple #[.slice q n c',.int .i64 0])/\Ic w w' [.own 3 1 q n c' (ab P)]:=by
 obtain⟨i0,hi0,hz0,hz1,hz2⟩:=info_parts kg
 have d1:decide ((n:Int)<0)=false:=by simp
 have d2:decide (1000<(n:Int))=false:=by simp;omega
 have P5:=lh hps
 clear hps
 go_enter func139,ntmps139
 go_wp2_with (at_make;go_must (refine aX rfl _ _ _ rfl 3 i0 _ 1 underlying25 hi0 hz0 hz1 (n:Int) n rfl rfl rfl (by rw [hz2];omega) (by unfold maxLen;omega) (Ic.start w) ?_;intro w1 S';rw [fK,<- zC] at S';have S1:=lh S';clear S'))
 generalize (some ⟨w.heap.size,0,none⟩:Option Addr)=q at *
 go_loopw [7,18] (fun _ i wr=>∃ k:Nat,k<=n/\i=.int .i64 k/\Ic w wr [.own 3 1 q n n (ab (lq n k))]) (fun _ i _=>n - (intOf i).toNat)
 case atStart=>exact⟨0,Nat.zero_le _,rfl,S1.out⟩
 case round =>
  clear S1
  obtain⟨k,hk,rfl,S⟩:=hrel
  have pq:=(S.rdx 0 rfl).ptr
  by_cases hlt:k<n
  ·have d3:(0:Int)<=k:=by omega
   have d4:(k:Int)<n:=by omega
   have fz:=aA (S.own 0 rfl) (by omega) k
   have cz:=bU (S.own 0 rfl) (k:=k) (by omega)
   have HS:=lh (S.setRow 0 rfl k (by omega) (.int .i64 k))
   rw [B8 hlt] at HS
   clear S
   go_wp2
   go_roundw
   case rel=>exact⟨k+1,by omega,by go_num,HS.out⟩
   case measure=>simp [intOf];omega
  ·obtain rfl:k=n:=by omega
   have S2:=lh (((Ic.start wr).al #[.slice pp np cp] 25 wr.heap.size rfl).al #[.int .i64 (-1)] 3 (wr.heap.size+1) (by simp))
   have HO:=lh (z8 q k k (lq k k) (wr.heap.size+1) wr.heap.size pp np cp ps _ wr S2.out (S.rdx 0 rfl) (P5.out.ext S.ext) (by omega))
   rw [B7] at HO
   have SH:=lh S;clear S
   clear pq
   go_wp2_with (first | (go_at_call 205;refine(Ht _ _ _ _).mono ?_;rintro e w9 ⟨rfl,rfl⟩) | (go_at_call 204;go_must (refine HO.out.mono ?_;rintro e w4 ⟨P,q1,c1,hP,rfl,Z⟩;have HP:=lh hP;have S3:=lh (SH.out.comp Z);clear hP Z)))
   go_ret2
   exact⟨P,q1,c1,HP.out,rfl,S3.out.pick [0] (by decide) rfl⟩
section
open Go Go.RowKit Go.Sort
theorem AU (W:World) (q:Nat) (os:Array Obj):Ext W (grow (W.drewN q) os) :=
 ⟨rfl,rfl,rfl,by show W.heap.size<=(W.heap ++ os).size;simp,fun k hk=>by show (W.heap ++ os)[k]?=W.heap[k]?;rw [Array.getElem?_append_left hk]⟩
theorem yg (x y:Ky) (W:World):Calls prog 150 #[.agg #[.int .i64 x.s,.int .i64 x.r,.int .i64 x.v],.agg #[.int .i64 y.s,.int .i64 y.r,.int .i64 y.v]] W fun e w'=>e=.returned (.int .i64 (ff x y))/\Ext W w' :=
 (qk x y W).mono fun _ _ ⟨h,q,os,h2⟩=>⟨h,h2 ▸ AU W q os⟩
theorem CT {x y:Sq} (h:bH x y=true):ff x.ky y.ky<0:=by
 have:=et x y
 rw [h] at this
 unfold ltOf at this
 simpa using this
theorem E3 (x:Sq) (w:World) (h:mT x=true):Calls prog 109 #[.agg #[.int .i64 x.s,.int .i64 x.r,.int .i64 x.v,.int .i64 x.d]] w fun e w'=>e=.returned (.bool true)/\Ext w w':=by
 have S0:=lh ((Ic.start w).al #[.int .i64 x.s,.int .i64 x.r,.int .i64 x.v,.int .i64 x.d] 146 w.heap.size rfl)
 have HE:=lh ((S0.out.alrw #[.int .i64 x.s,.int .i64 x.r,.int .i64 x.v,.int .i64 x.d] 138 4 1 (w.heap.size+1) (by simp) (by decide) (by simp)))
 have HC:=lh (uD (some ⟨w.heap.size+1,0,none⟩) 1 1 [x] _ (HE.out.rdx 0 rfl) (fun y hy=>by rw [List.mem_singleton] at hy;subst hy;exact h))
 clear h
 go_enter func109,ntmps109
 go_wp2_with (go_at_call 143;go_must (refine HC.out.mono ?_;rintro e w' ⟨rfl,hb⟩;have HX:=lh (HE.out.call hb).ext;clear hb))
 go_ret
 exact⟨rfl,HX.out⟩
theorem E0 (p:Option Addr) (n c:Nat) (l:List Sq) (N:Nat) (w:World) (hl:Rd w 4 p n (au l)) (hu:aS l) (hm:∀ x∈l,mT x=true/\x.v<N) (hn:n<=100000) :
  Calls prog 142 #[.slice p n c,.int .i64 N] w fun e w'=>e=.returned (.bool true)/\Ext w w':=by
 have p1:=hl.ptr
 have n1:=hl.small
 have L1:=lh hl.nQ
 have HM:=lh hm
 have HU:=lh hu
 have HL:=lh hl
 clear hl hm hu
 go_enter func142,ntmps142
 go_wp2
 go_loopw [5,6,9] (fun _ _ i wr=>∃ k:Nat,k<=n/\i=.int .i64 k/\Ext w wr) (fun _ _ i _=>n - (intOf i).toNat)
 case atStart=>exact⟨0,Nat.zero_le _,rfl,Below.refl _ _⟩
 case round =>
  obtain⟨k,hk,rfl,hE⟩:=hrel
  have HE:=lh hE
  by_cases hlt:k<n
  ·obtain⟨g1,g2,g3,g4⟩:=(HL.out.ext hE).cQ hlt
   have hkl:k<l.length:=by rw [<- L1.out];exact hlt
   obtain⟨hx,hv⟩:=HM.out (ae l k) (aY hkl)
   obtain⟨x,hxl⟩:∃ x,ae l k=x:=⟨_,rfl⟩
   rw [hxl] at g1 g2 g3 g4 hx hv
   have S1:=lh (((Ic.start w).call hE).al #[.int .i64 x.s,.int .i64 x.r,.int .i64 x.v,.int .i64 x.d] 146 wr.heap.size rfl)
   have HC:=lh (fun W=>E3 x W hx)
   have d1:(0:Int)<=k:=by omega
   have d2:(k:Int)<n:=by omega
   have e1:decide ((N:Int)<=x.v)=false:=by simpa using hv
   have ME:=lh hxl
   clear hE hx hv hxl
   by_cases hk0:k=0
   ·subst hk0
    clear ME hkl
    go_wp2
    obtain⟨W1,hW1⟩:∃ W1,wr.alloc (.cells #[.int .i64 x.s,.int .i64 x.r,.int .i64 x.v,.int .i64 x.d] 146)=W1:=⟨_,rfl⟩
    rw [hW1]
    rw [hW1] at S1
    obtain⟨a0,a1,a2,a3⟩:=cY (S1.out.blk 0 rfl)
    simp at a0 a1 a2 a3
    have u0:=fun x:Ie W1=>x.ext.cell a0
    have u1:=fun x:Ie W1=>x.ext.cell a1
    have u2:=fun x:Ie W1=>x.ext.cell a2
    have u3:=fun x:Ie W1=>x.ext.cell a3
    clear hW1
    refine av (by kernel_rfl) (by kernel_rfl) ?_
    repeat (go_big_quiet_step (((go_at_call 109;exact Calls.ext_of (HC.out _)))))
    refine wpQuiet_nil ?_
    rintro w9 ⟨⟨_,IR⟩,rfl⟩
    have HX:=lh (Ext.trans S1.out.ext IR)
    clear IR
    go_wp2
    go_roundw
    case rel=>exact⟨1,by omega,by go_num,HX.out⟩
    case measure=>simp [intOf];omega
   ·obtain⟨j,hj⟩:∃ j,k=j+1:=⟨k - 1,by omega⟩
    have q1:(k:Int) - 1=(j:Int):=by omega
    have q2:(0:Int)<=(j:Int):=by omega
    have q3:(j:Int)<=100000:=by omega
    have q4:(j:Int)<n:=by omega
    have q5:(0:Int)<(k:Int):=by omega
    have q6:decide ((0:Int)<(k:Int))=true:=by simpa using q5
    have q7:decide (0<k)=true:=by simp;omega
    have hjl:j<l.length:=by omega
    have hkj:bH (ae l j) (ae l k)=true:=by
     rw [ar hjl,ar hkl]
     exact(List.pairwise_iff_getElem.1 HU.out) j k hjl hkl (by omega)
    rw [ME.out] at hkj
    have Vz:=lh (fun W=>yg (ae l j).ky x.ky W)
    have hcc:=CT hkj
    obtain⟨cc,Qk⟩:∃ cc,ff (ae l j).ky x.ky=cc:=⟨_,rfl⟩
    rw [Qk] at Vz hcc
    have e2:decide (0<=cc)=false:=by simpa using hcc
    obtain⟨y1,y2,y3,y4⟩:=(HL.out.ext S1.out.ext).cQ (k:=j) (by omega)
    have hjn:j<n:=by omega
    clear hcc Qk hkj ME hkl hjl hj hk0
    generalize ae l j=y at *
    go_wp2
    obtain⟨W1,hW1⟩:∃ W1,wr.alloc (.cells #[.int .i64 x.s,.int .i64 x.r,.int .i64 x.v,.int .i64 x.d] 146)=W1:=⟨_,rfl⟩
    rw [hW1]
    rw [hW1] at S1 y1 y2 y3 y4
    obtain⟨a0,a1,a2,a3⟩:=cY (S1.out.blk 0 rfl)
    simp at a0 a1 a2 a3
    have u0:=fun x:Ie W1=>x.ext.cell a0
    have u1:=fun x:Ie W1=>x.ext.cell a1
    have u2:=fun x:Ie W1=>x.ext.cell a2
    have u3:=fun x:Ie W1=>x.ext.cell a3
    have v1:=fun x:Ie W1=>x.ext.cell y1
    have v2:=fun x:Ie W1=>x.ext.cell y2
    have v3:=fun x:Ie W1=>x.ext.cell y3
    clear hW1
    refine av (by kernel_rfl) (by kernel_rfl) ?_
    repeat (go_big_quiet_step (((first | (go_at_call 109;exact Calls.ext_of (HC.out _)) | (go_at_call 150;exact Calls.ext_of (Vz.out _))))))
    refine wpQuiet_nil ?_
    rintro w9 ⟨⟨_,IR⟩,rfl⟩
    have HX:=lh (Ext.trans S1.out.ext IR)
    clear IR
    go_wp2
    go_roundw
    case rel=>exact⟨k+1,by omega,by go_num,HX.out⟩
    case measure=>simp [intOf];omega
  ·clear hE
   go_wp2
   go_ret
   exact⟨rfl,HE.out⟩
theorem Av (gn:Nat) (x:Sq) (N:Nat) (w:World) (hB:Ih w gn 3 #[.int .i64 N]) (hv:x.v<N):Calls prog 138 #[.agg #[.int .i64 x.s,.int .i64 x.r,.int .i64 x.v,.int .i64 x.d],.pointer (some ⟨gn,0,none⟩)] w fun e w'=>e=.returned (.bool false)/\Ext w w':=by
 have b0:w.cell? ⟨gn,0,none⟩=some (.int .i64 N):=hB.cell 0
 have bz:=hB.lt
 have HE:=lh ((Ic.start w).al #[.int .i64 x.s,.int .i64 x.r,.int .i64 x.v,.int .i64 x.d] 138 w.heap.size rfl).ext
 have e1:decide ((N:Int)<=x.v)=false:=by simpa using hv
 clear hB hv
 go_enter func138,ntmps138
 go_wp2
 go_ret
 exact⟨rfl,HE.out⟩
theorem sB (p:Option Addr) (n c gn:Nat) (l:List Sq) (N:Nat) (w:World) (hl:Rd w 4 p n (au l)) (hB:Ih w gn 3 #[.int .i64 N]) (hv:∀ x∈l,x.v<N) :
  Calls prog 210 #[.slice p n c,.func (.func 138) #[] #[.pointer (some ⟨gn,0,none⟩)]] w fun e w'=>e=.returned (.int .i64 (-1))/\Ext w w':=by
 have p1:=hl.ptr
 have n1:=hl.small
 have L1:=lh hl.nQ
 have HV:=lh hv
 have HL:=lh hl
 have HB:=lh hB
 clear hl hB hv
 go_enter func210,ntmps210
 go_wp2
 go_loopw [5,8] (fun _ i wr=>∃ k:Nat,k<=n/\i=.int .i64 k/\Ext w wr) (fun _ i _=>n - (intOf i).toNat)
 case atStart=>exact⟨0,Nat.zero_le _,rfl,Below.refl _ _⟩
 case round =>
  obtain⟨k,hk,rfl,hE⟩:=hrel
  have HE:=lh hE
  by_cases hlt:k<n
  ·obtain⟨g1,g2,g3,g4⟩:=(HL.out.ext hE).cQ hlt
   have hkl:k<l.length:=by rw [<- L1.out];exact hlt
   have HC:=lh (Av gn (ae l k) N wr (HB.out.ext hE) (HV.out _ (aY hkl)))
   have d1:(0:Int)<=k:=by omega
   have d2:(k:Int)<n:=by omega
   clear hE hkl
   generalize ae l k=x at *
   go_wp2_with (go_at_call 138;go_must (refine HC.out.mono ?_;rintro e w' ⟨rfl,hb⟩;have HX:=lh (Ext.trans HE.out hb);clear hb))
   go_roundw
   case rel=>exact⟨k+1,by omega,by go_num,HX.out⟩
   case measure=>simp [intOf];omega
  ·clear hE
   go_wp2
   go_ret
   exact⟨rfl,HE.out⟩
theorem nj (p:Option Addr) (n c gn:Nat) (l:List Sq) (N:Nat) (w:World) (hl:Rd w 4 p n (au l)) (hB:Ih w gn 3 #[.int .i64 N]) (hv:∀ x∈l,x.v<N) :
  Calls prog 144 #[.slice p n c,.func (.func 138) #[] #[.pointer (some ⟨gn,0,none⟩)]] w fun e w'=>e=.returned (.bool false)/\Ext w w':=by
 have HC:=lh (sB p n c gn l N w hl hB hv)
 clear hl hB hv
 go_enter func144,ntmps144
 go_wp2_with (go_at_call 210;refine HC.out.mono ?_;rintro e w' ⟨rfl,hb⟩;have HX:=lh hb;clear hb)
 go_ret
 exact⟨rfl,HX.out⟩
end
section
open Go Go.RowKit
def FK {α:Type} (F:Fence) (n:Nat) (P:Program) (g:Nat) (lb:Array Value) (encs:α->Array Value) (A:World->List α->α->World->Prop) (Kp:World->World->Prop) (S Sp Q:List α->Prop) (w:World):Prop :=
 ∀ (l:Nat) (J Jx:List α->World->Prop) (W:World),Below w.heap.size w W->OwnFrom W.heap.size J->OwnFrom W.heap.size Jx ->
  (∀ pre V,J pre V->Q pre) ->
  (∀ pre x V0 V,J pre V0->Ext V0 V->A V0 pre x V->YieldAt F (n - 1) P l (encs x) V fun e V' =>
   (e=.returned (.bool true)/\J (pre ++ [x]) V'/\Kp V V')\/(e=.returned (.bool false)/\Jx (pre ++ [x]) V')) ->
  J [] W->CallsIn F n P g (#[.func (.yield l) #[] #[]] ++ lb) W fun e V=>(∃ v,e=.returned v)/\((∃ xs,S xs/\J xs V)\/(∃ pre,Sp pre/\Jx pre V))
section
variable {F:Fence} {n:Nat} {P:Program} {w:World}
theorem jA {α:Type} {g:Operand} {ps:Array Tmp} {assign body:Code} {Q:Exit->Act->World->Prop} {a:Act}
  (hro:F.round=none) (h1:1<=n) {gf:Nat} {lb:Array Value} (hg:a.eval g=.func (.func gf) #[] lb) (hF:F.fn gf) (eg:∀ args w,(callFunc gf args).run P w=.ok (.enter gf args) w)
  {encs:α->Array Value} {A:World->List α->α->World->Prop} {Kp:World->World->Prop} {S Sp Q':List α->Prop} {w0:World} (hseq:FK F (n - 1) P gf lb encs A Kp S Sp Q' w0)
  (hKt:∀ {X Y Z:World},Kp X Y->Kp Y Z->Kp X Z) (hKb:∀ (W:World) (l:Nat) (o o':Obj),w.heap.size<=l->W.heap[l]?=some o->o.isCells=false->o.isWalk=false->Kp W (W.putObj l o')) (hb0:Below w0.heap.size w0 w) (hps:∀ x,(encs x).size=ps.size)
  (I:List α->World->Prop) (Ix:Code->List α->World->Prop) (hI:OwnFrom w.heap.size I) (hIx:∀ c,OwnFrom w.heap.size (Ix c)) (hQ:∀ pre W,I pre W->Q' pre) (h0:I [] w)
  (Ax:List α->α->Act->World->Prop) (hAx:∀ pre x a',OwnFrom w.heap.size (fun (_:Unit) W=>Ax pre x a' W))
  (hassign:∀ (l:Nat) (pre:List α) (x:α) (V0 W:World) (K:Act->World->Prop),I pre V0->Ext V0 W->A V0 pre x W->(∀ a' W',KeepsFrom w.heap.size W W'->Kp W W'->I pre W'->Ax pre x a' W'->K a' W') ->
   assign.wpIn (F.inRound l) (n - 1 - 1) P (Exit.then K (fun _ _ _=>False)) { tmps:=(ps.zip (encs x)).foldl (fun t (p,v)=>t.setIfInBounds p v) a.tmps,defers:=[] } W)
  (hbody:∀ (l:Nat) (pre:List α) (x:α) (a':Act) (W:World),I pre W->Ax pre x a' W->body.wpIn (F.inRound l) (n - 1 - 1) P (ownPostG w.heap.size Kp I Ix (pre ++ [x]) W) a' W)
  (hdone:∀ (D:Nat) (xs:List α) (W:World),w.heap.size<=D->S xs->I xs W->W.heap[D]?=some (.deferred (some []))->Q .normal { a with defers:={ target:=.collected D,args:=#[] } :: a.defers } W)
  (hstop:∀ (D:Nat) (c:Code) (pre:List α) (W:World),w.heap.size<=D->Sp pre->Ix c pre W->W.heap[D]?=some (.deferred (some []))->c.wpIn F n P Q { a with defers:={ target:=.collected D,args:=#[] } :: a.defers } W) :
  (Code.rangeFunc g ps assign body).wpIn F n P Q a w:=by
 refine wpIn_rangeFunc fun fn hfn=>?_
 rw [hro]
 have hB:w.heap.size<=w.heap.size+1:=Nat.le_succ _
 obtain⟨mk,hmk⟩:∃ mk:LoopState->Option Code->Loop,mk=fun st pe=>{ state:=st,pending:=pe,fn,tmps:=a.tmps,params:=ps,assign,body,defers:=w.heap.size }:=⟨_,rfl⟩
 obtain⟨V,hV⟩:∃ V,(w.alloc (.deferred (some []))).alloc (.loop (mk .ready none))=V:=⟨_,rfl⟩
 have NG:V.heap[w.heap.size+1]?=some (.loop (mk .ready none)):=by
  have h:=World.alloc_heap_new (w.alloc (.deferred (some []))) (.loop (mk .ready none))
  rw [World.size_alloc] at h
  rw [<- hV];exact h
 have NF:V.heap[w.heap.size]?=some (.deferred (some [])):=by
  rw [<- hV];exact(Below.heap_alloc _ _ _ (by simp)).trans (World.alloc_heap_new w _)
 have Qh:Below w0.heap.size w0 V:=by
  rw [<- hV];exact hb0.trans ((((Below.refl _ w).alloc (Nat.le_refl _) _).alloc (by simp) _).mono hb0.size)
 have Kl:w.heap.size<=V.heap.size:=by have:=(Array.getElem?_eq_some_iff.1 NF).1;omega
 have Qg:I [] V:=by rw [<- hV];exact(hI.alloc _ (hI.alloc _ h0))
 have lV:w.heap.size+1<V.heap.size:=(Array.getElem?_eq_some_iff.1 NG).1
 have keep:∀ {Y Z:World} {row:Option Nat} {k:Nat} {o:Obj},Y.grownBy Z row->(∀ r,row=some r->V.heap.size<=r/\∃ o:Obj,Y.heap[r]?=some o/\o.isCells=false)->k<V.heap.size->Y.heap[k]?=some o->Z.heap[k]?=some o:=fun {Y Z row k o} hg hr hk hY=>(hg.block k (Array.getElem?_eq_some_iff.1 hY).1 (fun e=>by have:=(hr k e.symm).1;omega)).trans hY
 have loose:∀ {Y:World} {row:Option Nat},(∀ r,row=some r->V.heap.size<=r/\∃ o:Obj,Y.heap[r]?=some o/\o.isCells=false)->∀ r,row=some r->w.heap.size<=r/\∃ o:Obj,Y.heap[r]?=some o/\o.isCells=false:=fun hr r e=>⟨Nat.le_trans Kl (hr r e).1,(hr r e).2⟩
 refine⟨w.heap.size+1,[{ target:=.collected w.heap.size,args:=#[] }],V,{ target:=.fn (.func gf) lb,args:=#[.func (.yield (w.heap.size+1)) #[] #[]] },V,gf,#[.func (.yield (w.heap.size+1)) #[] #[]] ++ lb,V,?_,?_,?_,?_,fun _=>h1,?_⟩
 ·rw [<- hV,hmk];exact run_enterLoop_outer _ _ _ _ _
 ·simp only [resolve,hg];simp [go_sem]
 ·intro f' hf';simp [Target.leads] at hf';subst hf';exact hF
 ·simp [invoke,go_sem,eg]
 refine(hseq (w.heap.size+1)
  (fun pre W=>I pre W/\W.heap[w.heap.size+1]?=some (.loop (mk .ready none))/\W.heap[w.heap.size]?=some (.deferred (some [])))
  (fun pre W=>∃ c,Ix c pre W/\W.heap[w.heap.size+1]?=some (.loop (mk .done (some c)))/\W.heap[w.heap.size]?=some (.deferred (some []))) V Qh
  (fun s Y Z row h hg hr=>⟨hI s Y Z row h.1 hg (loose hr),keep hg hr lV h.2.1,keep hg hr (by omega) h.2.2⟩)
  (fun s Y Z row h hg hr=>h.elim fun c h=>⟨c,hIx c s Y Z row h.1 hg (loose hr),keep hg hr lV h.2.1,keep hg hr (by omega) h.2.2⟩)
  (fun pre W h=>hQ pre W h.1) ?_ ⟨Qg,NG,NF⟩).mono ?_
 ·rintro pre x V0 W ⟨hi0,hl0,hk0⟩ hE0 hax
  have hl:W.heap[w.heap.size+1]?=some (.loop (mk .ready none)):=(hE0.block _ (Array.getElem?_eq_some_iff.1 hl0).1).trans hl0
  have hk:W.heap[w.heap.size]?=some (.deferred (some [])):=(hE0.block _ (Array.getElem?_eq_some_iff.1 hk0).1).trans hk0
  have hlt:w.heap.size+1<W.heap.size:=(Array.getElem?_eq_some_iff.1 hl).1
  have hy:=run_yield (P:=P) (args:=encs x) hl (by rw [hmk];exact hps x)
  rw [hmk] at hy
  refine⟨fn,_,assign,body,hy,roundIn_of_wpIn hfn (hassign _ pre x V0 W _ hi0 hE0 hax fun a' W1 hK1 hp1 hi1 Ou=>?_)⟩
  have hl1:W1.heap[w.heap.size+1]?=some (.loop (mk .ready none)):=hK1.same _ _ hB hl rfl
  have hk1:W1.heap[w.heap.size]?=some (.deferred (some [])):=hK1.same _ _ (Nat.le_refl _) hk rfl
  have hlt1:w.heap.size+1<W1.heap.size:=(Array.getElem?_eq_some_iff.1 hl1).1
  refine⟨_,run_beginRound hl1 (by rw [hmk]),?_⟩
  have l2:(W1.putObj (w.heap.size+1) (.loop { mk .ready none with state:=.busy })).heap[w.heap.size+1]?=some (.loop { mk .ready none with state:=.busy }):=World.putObj_heap_same hlt1
  have k2:(W1.putObj (w.heap.size+1) (.loop { mk .ready none with state:=.busy })).heap[w.heap.size]?=some (.deferred (some [])):=(World.putObj_heap_other (by omega)).trans hk1
  have p2:Kp W (W1.putObj (w.heap.size+1) (.loop { mk .ready none with state:=.busy })):=hKt hp1 (hKb _ _ _ _ hB hl1 rfl rfl)
  refine wpIn_mono (hbody _ pre x a' _ (hI.putObj _ hi1 hB hl1 rfl) ((hAx pre x a').putObj (s:=()) _ Ou hB hl1 rfl)) ?_
  have fin:∀ (jump:Option Code) (Y:World),KeepsFrom w.heap.size (W1.putObj (w.heap.size+1) (.loop { mk .ready none with state:=.busy })) Y ->
    (Instr.endRound (w.heap.size+1) jump).run P Y=.ok (.bool jump.isNone) (Y.putObj (w.heap.size+1) (.loop (mk (if jump.isNone then .ready else .done) jump))) /\
    Y.heap[w.heap.size+1]?=some (.loop { mk .ready none with state:=.busy }) /\
    (Y.putObj (w.heap.size+1) (.loop (mk (if jump.isNone then .ready else .done) jump))).heap[w.heap.size+1]?=some (.loop (mk (if jump.isNone then .ready else .done) jump)) /\
    (Y.putObj (w.heap.size+1) (.loop (mk (if jump.isNone then .ready else .done) jump))).heap[w.heap.size]?=some (.deferred (some [])):=fun jump Y hY=>by
   have l3:=hY.same _ _ hB l2 rfl
   have hr:=run_endRound (P:=P) jump l3
   rw [hmk] at hr l3 ⊢
   exact⟨hr,l3,World.putObj_heap_same (Array.getElem?_eq_some_iff.1 l3).1,(World.putObj_heap_other (by omega)).trans (hY.same _ _ (Nat.le_refl _) k2 rfl)⟩
  rintro e a3 Y hp
  cases e with
  | normal =>
   obtain⟨hY,hkp,hi3⟩:=hp
   obtain⟨r1,r2,r3,r4⟩:=fin none Y hY
   exact⟨_,_,r1,.inl ⟨rfl,⟨hI.putObj _ hi3 hB r2 rfl,r3,r4⟩,hKt (hKt p2 hkp) (hKb _ _ _ _ hB r2 rfl rfl)⟩⟩
  | ret =>
   obtain⟨r1,r2,r3,r4⟩:=fin (some .ret) Y hp.1
   exact⟨_,_,r1,.inr ⟨rfl,.ret,(hIx _).putObj _ hp.2 hB r2 rfl,r3,r4⟩⟩
  | exit id =>
   obtain⟨r1,r2,r3,r4⟩:=fin (some (.exit id)) Y hp.1
   exact⟨_,_,r1,.inr ⟨rfl,.exit id,(hIx _).putObj _ hp.2 hB r2 rfl,r3,r4⟩⟩
  | goto t =>
   obtain⟨r1,r2,r3,r4⟩:=fin (some (.goto t)) Y hp.1
   exact⟨_,_,r1,.inr ⟨rfl,.goto t,(hIx _).putObj _ hp.2 hB r2 rfl,r3,r4⟩⟩
  | panic ch=>exact hp.elim
  | outgrown=>exact hp.elim
 ·rintro e Y ⟨⟨v,rfl⟩,(⟨xs,hS,hi,hl,hk⟩ | ⟨pre,hSp,c,hi,hl,hk⟩)⟩
  ·have hr:=run_endLoop (P:=P) hl (by rw [hmk];simp)
   rw [hmk] at hr
   exact⟨none,_,hr,hdone _ xs _ (Nat.le_refl _) hS (hI.putObj _ hi hB hl (by rw [hmk];rfl)) ((World.putObj_heap_other (by omega)).trans hk)⟩
  ·have hr:=run_endLoop (P:=P) hl (by rw [hmk];simp)
   rw [hmk] at hr
   exact⟨some c,_,hr,hstop _ c pre _ (Nat.le_refl _) hSp ((hIx c).putObj _ hi hB hl (by rw [hmk];rfl)) ((World.putObj_heap_other (by omega)).trans hk)⟩
end
end
section
open Go Go.RowKit
attribute [local go_sem] Oper.semAt_some
structure Jj (n₀ b1 b2 b3:Nat) (w W:World):Prop where
 low:Below n₀ w W
 x1:W.heap[b1]?=w.heap[b1]?
 x2:W.heap[b2]?=w.heap[b2]?
 x3:W.heap[b3]?=w.heap[b3]?
theorem Jj.far {n₀ b1 b2 b3 B:Nat} {w Z W W':World} (h:Jj n₀ b1 b2 b3 w W) (h0:n₀<=B) (h1:b1<B) (h2:b2<B) (h3:b3<B) (hB:w.heap.size<=Z.heap.size) (k1:Below B Z W) (k2:Below B Z W'):Jj n₀ b1 b2 b3 w W' :=
 have e:∀ k,k<B->W'.heap[k]?=W.heap[k]?:=fun k hk=>(k2.block k hk).trans (k1.block k hk).symm
 ⟨⟨k2.os.trans (k1.os.symm.trans h.low.os),k2.tape.trans (k1.tape.symm.trans h.low.tape),k2.output.trans (k1.output.symm.trans h.low.output),Nat.le_trans hB k2.size,fun k hk=>(e k (by omega)).trans (h.low.block k hk)⟩,
  (e b1 h1).trans h.x1,(e b2 h2).trans h.x2,(e b3 h3).trans h.x3⟩
theorem jH {f:Nat->Int} {n:Nat} {k:Int} {F:List Int} (hF:cF f n k F):(∀ x∈F,0<=x/\x<n)/\F.length<=n :=
 ⟨fun x hx=>⟨((hF.2 x).1 hx).1,((hF.2 x).1 hx).2.1⟩,bo hF.1 fun x hx=>⟨((hF.2 x).1 hx).1,((hF.2 x).1 hx).2.1⟩⟩
def GP (b s:Nat) (i:Nat) (v:Value) (W:World):Prop:=(i=1\/i=3)->∃ q,v=.slice q 1 1/\W.ownsRow b 3 1 (.slice q 1 1) 1 (ab [(s:Int)])
theorem sG {b s:Nat}:∀ i v W W',Ext W W'->GP b s i v W->GP b s i v W':=fun _ _ _ _ he h hi=>let ⟨q,h1,h2⟩:=h hi;⟨q,h1,he.own h2⟩
theorem qM (n:Nat):(madeCells (Value.bool false).cells (n*1)).toList=List.replicate n (.bool false):=by
 apply List.ext_getElem
 ·simp [madeCells]
 ·intro i h1 h2
  simp [madeCells,Value.cells,Nat.mod_one]
theorem Gw:(prog.info? 4).map (fun i=>(i.zero,i.size,i.bytes))=some (some (.bool false),1,1):=by kernel_rfl
theorem vu (n1:Nat) (hn1:1<=n1) (po:Option Addr) (no co:Nat) (pt:Option Addr) (nt ct:Nat) (pr:Option Addr) (nr cr:Nat) (pv:Option Addr) (nv cv:Nat) (b1 b2 b3 n₀ n s:Nat) (nx:Nat->List Int) (w:World) (hw:n₀<=w.heap.size)
  (hb1:Ih w b1 243 #[.slice po no co,.slice pt nt ct,.slice pr nr cr,.slice pv nv cv]) (hb2:Ih w b2 3 #[.int .i64 s]) (hb3:Ih w b3 128 #[.func (.func 266) #[.agg #[.slice po no co,.slice pt nt ct,.slice pr nr cr,.slice pv nv cv]] #[]])
  (hs:s<n) (hn:n<=200) (hno:no=n+1) (hin:xy nx n)
  (HN:∀ k,k<n->∃ q c,∀ W,Below n₀ w W->Rd W 1 q (nx k).length (ab (nx k))/\Calls prog 266 #[.agg #[.slice po no co,.slice pt nt ct,.slice pr nr cr,.slice pv nv cv],.int .i64 k] W fun e w'=>e=.returned (.slice q (nx k).length c)/\Ext W w') :
  Ep Fence.wide n1 prog 229 #[.pointer (some ⟨b1,0,none⟩),.pointer (some ⟨b2,0,none⟩),.pointer (some ⟨b3,0,none⟩)] (DZ:kv nx n s->Array Value) (GN w.heap.size) (MF n₀ w.heap.size b1 b2 b3) GT (fun pre=>pre.map (·.1.k)=List.range pre.length) n w:=by
 intro l J Jx W hW hJ hJx hY h0
 obtain⟨i0,hi0,hz0,hz1,hz2⟩:=info_parts kg
 obtain⟨j0,hj0,hy0,hy1,hy2⟩:=info_parts Gw
 have Kr:=hW.size
 have q1:=hb1.lt
 have q2:=hb2.lt
 have q3:=hb3.lt
 have LW:=lh (⟨hW.mono hw,hW.block b1 q1,hW.block b2 q2,hW.block b3 q3⟩:Jj n₀ b1 b2 b3 w W)
 have Jh:=lh (fun W'=>jx po no co pt nt ct pr nr cr pv nv cv W' (by omega) (by omega))
 have B1:Ih W b1 243 #[.slice po no co,.slice pt nt ct,.slice pr nr cr,.slice pv nv cv]:=LW.out.x1.trans hb1
 have B2:Ih W b2 3 #[.int .i64 s]:=LW.out.x2.trans hb2
 have B3:Ih W b3 128 #[.func (.func 266) #[.agg #[.slice po no co,.slice pt nt ct,.slice pr nr cr,.slice pv nv cv]] #[]]:=LW.out.x3.trans hb3
 have HB1:=lh hb1
 have HB2:=lh hb2
 have HB3:=lh hb3
 have IM:=lh HN
 have Jv:=lh hin
 subst hno
 have HJ:=lh hJ;clear hJ
 have HY:=lh hY;clear hY
 clear hJx hW HN hin hb1 hb2 hb3
 have c10:=B1.cell 0
 have c11:=B1.cell 1
 have c12:=B1.cell 2
 have c13:=B1.cell 3
 have c20:=B2.cell 0
 have z1:=B1.lt
 have z2:=B2.lt
 clear B1 B2 B3
 refine callsIn_of_wp func229 rfl trivial ?_ rfl
 simp only [ntmps229,List.size_toArray,List.length_cons,List.length_nil,Nat.reduceAdd,Nat.reduceSub,Array.replicate_succ,Array.replicate_zero,List.push_toArray,List.append_toArray,List.nil_append,List.cons_append]
 refine wpIn_seq_k fun K hK=>wpIn_wide.2 ?_
 go_wp2_with (first
  | (at_make;go_must (refine aX rfl _ _ _ rfl 4 j0 _ 1 underlying194 hj0 hy0 hy1 (n:Int) n rfl rfl rfl (by rw [hy2];omega) (by unfold maxLen;omega) S1.out ?_;intro w2 S';rw [qM] at S';have S2:=lh S';clear S'))
  | (go_at_call 185;go_must (refine(Jh.out _).mono ?_;rintro e w1 ⟨rfl,hb⟩;have S1:=lh ((Ic.start W).call hb);clear hb)))
 generalize hqs:(some ⟨w1.heap.size,0,none⟩:Option Addr)=qs at *
 clear hqs S1
 have Ze:=(S2.out.rd 0 rfl (by omega)).ptr
 have Oe:=S2.out.ext.cell c20
 have Vg:=Nat.lt_of_lt_of_le z2 S2.out.ext.size
 have fz:=aA (S2.out.own 0 rfl) (by omega) s
 have cz:=bU (S2.out.own 0 rfl) (k:=s) (by omega)
 have d1:(0:Int)<=s:=by omega
 have d2:(s:Int)<n:=by omega
 refine wpIn_seq_k fun K2 hK2=>wpIn_wide.2 ?_
 go_wp2
 refine wpIn_seq_k fun K3 hK3=>wpIn_wide.2 ?_
 obtain⟨X,hX⟩:∃ X,X=w2.setCell (be qs s) (.bool true):=⟨_,rfl⟩
 have SX:=lh (hX ▸ (S2.out.setRow 0 rfl s (by omega) (.bool true)):Ic W X _)
 rw [xd (nx:=nx) hs] at SX
 rw [<- hX]
 clear hX fz cz Oe Vg S2
 have g2:=SX.out.ext.cell c20
 have x2:=fun x:Ie X=>x.ext.cell g2
 refine aT [true,false,true,false] (GP X.heap.size s) (by kernel_rfl) (by kernel_rfl) (by kernel_rfl) sG ?_
 simp only [pJ]
 repeat (go_big_quiet_step ((fail)))
 refine wpQuiet_nil ⟨⟨fun vs W1 hE hd=>?_,fun vs W1 hE hd=>?_,trivial⟩,fun vs W1 hE hkn=>?_⟩
 ·simp [b8,execOp,go_sem]
  exact⟨fun _=>⟨_,rfl,World.ownsRow_lit (base:=X.heap.size) W1 #[.int .i64 (s:Int)] 1 hE.size (by decide) rfl⟩,Ext.alloc (Below.refl _ _) _⟩
 ·have k0:=hd 1 (by decide +kernel) rfl
  simp [b8,execOp,go_sem]
  exact⟨fun _=>k0 (.inl rfl),Below.refl _ _⟩
 simp only [j4] at hkn
 have k3:=hkn.2.1 (.inr rfl)
 simp only [b8,List.length_cons,List.length_nil,Nat.zero_add,Nat.reduceAdd,List.drop_succ_cons,List.drop_zero]
 obtain⟨U9,k1,ho⟩:=k3
 rw [k1]
 generalize vs 1=v20
 have S4:=lh (SX.out.fresh hE ho (Nat.le_refl _))
 have J4:=lh (HJ.out [] W W W1 (Nat.le_refl _) (Below.refl _ _) S4.out.ext h0)
 have P8:=lh (LW.out.far (Nat.le_trans hw Kr) (by omega) (by omega) (by omega) Kr (Below.refl _ _) S4.out.ext)
 clear x2 g2 hE hkn k1 ho SX h0
 simp [Act.put]
 go_wp2
 gi_wp2
 gi_loopw [6,7,8,10,12] (fun v6 v7 _ _ _ wr=>∃ (k:Nat) (pre:List (kv nx n s)) (F:List Int) (q:Option Addr) (c:Nat) (Z:World),k<=n/\Z.heap.size=W.heap.size/\v6=.int .i64 k/\v7=.slice q F.length c/\cF (ay nx n s) n k F/\pre.map (·.1.k)=List.range k/\J pre wr/\Ic Z wr [.own 3 1 q F.length c (ab F),.own 4 1 qs n n (dK (bh (ay nx n s) n k) [] n)]/\Jj n₀ b1 b2 b3 w wr) (fun v6 _ _ _ _ _=>n - (intOf v6).toNat)
 case atStart=>exact⟨0,[],[(s:Int)],U9,1,W,Nat.zero_le _,rfl,rfl,rfl,mY hs,rfl,J4.out,S4.out,P8.out⟩
 case round =>
  clear S4 J4 P8 c10 c11 c12 c13 c20 z1 z2
  obtain⟨k,pre,F,q,c,Z,hk,hZ,rfl,rfl,hF,hpre,hJs,S,hL⟩:=hrel
  have bF:=lh (jH hF)
  by_cases hl0:F.length=0
  ·obtain rfl:F=[]:=List.eq_nil_of_length_eq_zero hl0
   have J8:Hid (GT pre):=⟨by rw [hpre];congr 1;have:=congrArg List.length hpre;simp at this;omega,by
    have:=congrArg List.length hpre
    simp at this
    rw [this]
    cases e:gy n (ay nx n s) k with
    | false=>rfl
    | true=>exact absurd ((dF hF).1 e) (by simp)⟩
   have Pn:=lh hJs
   clear hF hpre hJs hL bF hl0 S
   gi_wp2
   refine⟨fun f hf=>(by cases hf),?_⟩
   gi_wp2
   go_end0
   exact⟨⟨_,rfl⟩,.inl ⟨pre,J8.out,Pn.out⟩⟩
  ·have lf:0<F.length:=by omega
   have hkn:k<n:=vy hs ((dF hF).2 lf)
   have hB:=S.blt 0 rfl lf
   have KW:pre.length=k:=by have:=congrArg List.length hpre;simpa using this
   obtain⟨x,hx⟩:∃ x:kv nx n s,x.1=⟨k,F,q,c⟩:=⟨⟨⟨k,F,q,c⟩,hF,lf⟩,rfl⟩
   obtain⟨fn,tmps,assign,body,hy,hR⟩:=HY.out pre x wr hJs (by unfold GN;rw [hx];exact⟨S.rdx 0 rfl,by have:=hB.1;show w.heap.size<=(be q 0).block;omega⟩) (by omega)
   have hp2:Hid ((pre ++ [x]).map (·.1.k)=List.range (k+1)):=by
    unfold Hid;rw [List.map_append,hpre,List.range_succ];simp [hx]
   have hxe:DZ x=#[.int .i64 k,.slice q F.length c]:=by unfold DZ;rw [hx]
   rw [hxe] at hy
   clear hxe hx
   have c1:decide ((0:Int)<F.length)=true:=by simpa using lf
   have HF:=lh hF
   have KE:=lh hL
   have SH:=lh S;clear S
   clear hF hL hpre KW hl0 hJs hB
   gi_wp2
   refine hR.mono ?_
   rintro e W3 (⟨rfl,hJ3,hk3⟩ | ⟨rfl,hJx3⟩)
   ·have hs3:W.heap.size<=W3.heap.size:=by have:=SH.out.ext.size;have:=hk3.low.size;omega
    have S3:=lh (SH.out.rebase hZ hs3 (fun p hp kk hkk=>by
     have hpc:p.cells:=dD (Γ:=[.own 3 1 q F.length c (ab F),.own 4 1 qs n n (dK (bh (ay nx n s) n k) [] n)]) (fun p hp=>by
      simp only [List.mem_cons,List.not_mem_nil,or_false] at hp
      rcases hp with rfl | rfl <;> exact .inr ⟨_,_,_,_,_,_,rfl⟩) p hp
     obtain⟨o,h1,h2⟩:=hpc wr (SH.out.all p hp) kk hkk
     have h3:=SH.out.new p hp kk hkk
     rw [h1];exact hk3.up kk o (by omega) h1 h2))
    have L3:=lh (⟨KE.out.low.trans hk3.low,hk3.x1.trans KE.out.x1,hk3.x2.trans KE.out.x2,hk3.x3.trans KE.out.x3⟩:Jj n₀ b1 b2 b3 w W3)
    have Me:=lh hJ3
    have hZ3:(sZ W.heap.size W3).heap.size=W.heap.size:=ib hs3
    have P7:=lh (ke hs3)
    generalize sZ W.heap.size W3=Z3 at *
    have IZ:Hid (∀ wx Γ,Ic Z3 wx Γ->Jj n₀ b1 b2 b3 w wx):=fun wx Γ S=>L3.out.far (Nat.le_trans hw Kr) (by omega) (by omega) (by omega) (by omega) P7.out (by have:=S.ext;rwa [Ext,hZ3] at this)
    have Oa:Hid (∀ (G m:List Int),(∀ x:Int,x∈G->0<=x/\x<n)->(∀ x:Int,x∈m->0<=x/\x<n)->(mP (bh (ay nx n s) n k) m (lJ nx (bh (ay nx n s) n k) G [])).length<=n):=fun G m hG hm =>
     bo (fC (ed List.nodup_nil)) fun x hx=>by
      rcases jD.1 hx with h | ⟨h,_⟩
      ·rcases gD.1 h with h | ⟨v,h3,h4,_⟩
       ·cases h
       ·obtain⟨h5,h6⟩:=hG v h3
        exact Jv.out v.toNat (by omega) x h4
      ·exact hm x h
    clear SH hJ3 hk3 hR hy KE
    gi_wp2
    refine wpIn_wide.2 ?_
    go_loopw [8,10,12,34] (fun v8 _ _ v34 wx=>∃ (i:Nat) (l':List Int) (q2:Option Addr) (c2:Nat),i<=F.length/\v34=.int .i64 i/\v8=.slice q2 l'.length c2/\Hid (l'=lJ nx (bh (ay nx n s) n k) (F.take i) [])/\Ic Z3 wx [.own 3 1 q2 l'.length c2 (ab l'),.own 3 1 q F.length c (ab F),.own 4 1 qs n n (dK (bh (ay nx n s) n k) l' n)]) (fun _ _ _ v34 _=>F.length - (intOf v34).toNat)
    case atStart=>exact⟨0,[],none,0,Nat.zero_le _,rfl,rfl,rfl,S3.out.nilrow 3 1⟩
    case round =>
     clear S3
     obtain⟨i,l',q2,c2,hi,rfl,rfl,hl,S⟩:=hrel
     have pF:=(S.rdx 1 rfl).ptr
     have KO:F.length<=200:=by have:=bF.out.2;omega
     by_cases hif:i<F.length
     ·have g1:=(S.rdx 1 rfl).cI hif
      obtain⟨f1,f2⟩:=bF.out.1 _ (aY hif)
      have hT:=kw (nx:=nx) (X:=bh (ay nx n s) n k) (l:=[]) hif
      rw [<- hl.out] at hT
      have hsm:∀ j (m:List Int),m=(nx (ae F i).toNat).take j->(mP (bh (ay nx n s) n k) m l').length<=n:=fun j m hm=>by
       rw [hl.out]
       refine Oa.out _ m (fun x hx=>bF.out.1 x (List.mem_of_mem_take hx)) fun x hx=>?_
       rw [hm] at hx
       exact Jv.out _ (by omega) x (List.mem_of_mem_take hx)
      obtain⟨a,ha⟩:∃ a:Nat,ae F i=(a:Int):=⟨(ae F i).toNat,by omega⟩
      rw [ha] at g1 f1 f2 hT hsm
      rw [Int.toNat_natCast] at hT hsm
      have HT:=lh hT
      have HS:=lh hsm
      have JG:=lh (Jv.out a (by omega))
      obtain⟨qr,Yh,hW⟩:=IM.out a (by omega)
      have Oc:=lh hW
      have Kc:Ih wr b3 128 #[.func (.func 266) #[.agg #[.slice po (n+1) co,.slice pt nt ct,.slice pr nr cr,.slice pv nv cv]] #[]]:=(IZ.out _ _ S).x3.trans HB3.out
      have Uq:=Kc.cell 0
      have Ur:=Kc.lt
      clear Kc
      have HC:=lh (hW wr (IZ.out _ _ S).low).2
      have e1:(0:Int)<=i:=by omega
      have e2:(i:Int)<F.length:=by omega
      generalize nx a=RW at *
      have SH:=lh S;clear S
      clear ha hT hsm hW hl
      go_wp2_with (go_at_call 266;go_must (refine HC.out.mono ?_;rintro e w5 ⟨rfl,hb⟩;have S5:=lh (SH.out.call hb);clear hb))
      have Y2:=(Oc.out _ (IZ.out _ _ S5.out).low).1.small
      have Zg:=(Oc.out _ (IZ.out _ _ S5.out).low).1.ptr
      go_loopw [8,12,42] (fun v8 _ v42 wx=>∃ (j:Nat) (l2:List Int) (q3:Option Addr) (c3:Nat),j<=RW.length/\v42=.int .i64 j/\v8=.slice q3 l2.length c3/\Hid (l2=mP (bh (ay nx n s) n k) (RW.take j) l')/\Ic Z3 wx [.own 3 1 q3 l2.length c3 (ab l2),.own 3 1 q F.length c (ab F),.own 4 1 qs n n (dK (bh (ay nx n s) n k) l2 n)]) (fun _ _ v42 _=>RW.length - (intOf v42).toNat)
      case atStart=>exact⟨0,l',q2,c2,Nat.zero_le _,rfl,rfl,rfl,S5.out⟩
      case round =>
       clear SH S5 HC Uq Ur g1
       obtain⟨j,l2,q3,c3,hj,rfl,rfl,hl2,S⟩:=hrel
       by_cases hlj:j<RW.length
       ·have g1:=(Oc.out _ (IZ.out _ _ S).low).1.cI hlj
        obtain⟨r1,r2⟩:=JG.out _ (aY hlj)
        have hst:=kA (X:=bh (ay nx n s) n k) (l:=l') hlj
        rw [<- hl2.out] at hst
        have hlen:=HS.out j _ rfl
        rw [<- hl2.out] at hlen
        obtain⟨b,hb⟩:∃ b:Nat,ae RW j=(b:Int):=⟨(ae RW j).toNat,by omega⟩
        rw [hb] at g1 r1 r2 hst
        have e3:(0:Int)<=j:=by omega
        have e4:(j:Int)<RW.length:=by omega
        have ps:=(S.rdx 2 rfl).ptr
        have Zd:=(S.rdx 0 rfl).ptr
        have fz:=aA (S.own 2 rfl) (by omega) b
        have cz:=bU (S.own 2 rfl) (k:=b) (by omega)
        have hat:=uk (X:=bh (ay nx n s) n k) (l:=l2) (n:=n) (v:=b) (by omega)
        have hnn:0<=b/\(b:Int)<n:=⟨by omega,r2⟩
        clear hl2 hb
        cases hsn:(decide (0<=ae (bh (ay nx n s) n k) b) || decide ((b:Int)∈l2)) with
        | true =>
         have HST:Hid (mP (bh (ay nx n s) n k) (RW.take (j+1)) l'=l2):=by
          unfold Hid;rw [hst];unfold xH;rw [if_neg]
          rw [Int.toNat_natCast]
          rw [Bool.or_eq_true,decide_eq_true_eq,decide_eq_true_eq] at hsn
          rintro⟨h1,h2⟩
          rcases hsn with h | h
          ·omega
          ·exact h2 h
         rw [hsn] at hat
         rw [List.getD_eq_getElem?_getD,hat,Option.getD_some] at cz
         have SH:=lh S;clear S
         clear hst hat hsn fz
         go_wp2
         go_roundw
         case rel=>exact⟨j+1,l2,q3,c3,by omega,by go_num,rfl,HST.out.symm,SH.out⟩
         case measure=>simp [intOf];omega
        | false =>
         have HST:Hid (mP (bh (ay nx n s) n k) (RW.take (j+1)) l'=l2 ++ [(b:Int)]):=by
          unfold Hid;rw [hst];unfold xH;rw [if_pos]
          rw [Int.toNat_natCast]
          rw [Bool.or_eq_false_iff,decide_eq_false_iff_not,decide_eq_false_iff_not] at hsn
          exact⟨by omega,hsn.2⟩
         rw [hsn] at hat
         rw [List.getD_eq_getElem?_getD,hat,Option.getD_some] at cz
         have hnb:b<n:=by omega
         have SH:=lh S;clear S
         clear hst hat hsn
         have HR1:Hid (Rd ((wr.setCell (be qs b) (.bool true)).alloc (.cells #[.int .i64 (b:Int)] 3)) 1 (some ⟨wr.heap.size,0,none⟩) 1 (ab [(b:Int)])):=by
          have h:=Rd.oneI (wr.setCell (be qs b) (.bool true)) 3 (b:Int)
          have e:(wr.setCell (be qs b) (.bool true)).heap.size=wr.heap.size:=by simp
          rw [e] at h;exact h
         go_wp2_with (at_builtin;go_must (refine am rfl _ _ _ rfl 3 i0 _ 1 8 underlying25 hi0 hz0 hz1 hz2 rfl (by omega) ((SH.out.setRow 2 rfl b (by omega) (.bool true)).junk _) 0 q3 l2.length c3 _ rfl rfl _ 1 1 _ rfl HR1.out (bN _) (by omega) (by omega) ?_;intro q' c' w7 S' hsz;have S6:=lh S';clear S' hsz))
         go_roundw
         case rel=>exact⟨j+1,l2 ++ [(b:Int)],q',c',by omega,by go_num,by rw [List.length_append];rfl,HST.out.symm,by rw [List.length_append,b9,<- rj hnb];exact S6.out⟩
         case measure=>simp [intOf];omega
       ·obtain rfl:j=RW.length:=by omega
        have HL2:Hid (l2=lJ nx (bh (ay nx n s) n k) (F.take (i+1)) []):=by
         unfold Hid;rw [HT.out,hl2.out,List.take_length]
        have SH:=lh S;clear S
        clear hl2
        go_wp2
        go_roundw
        case rel=>exact⟨i+1,l2,q3,c3,by omega,by go_num,rfl,HL2.out,SH.out⟩
        case measure=>simp [intOf];omega
     ·obtain rfl:i=F.length:=by omega
      have hl':=hl.out
      rw [List.take_length] at hl'
      have hF2:cF (ay nx n s) n ((k+1:Nat):Int) l':=by
       rw [hl']
       exact iC hs Jv.out HF.out fun v hv=>by rw [bw hv];exact rN
      rw [oQ hF2] at S
      have Ms:=lh hF2
      have TU:=lh (IZ.out _ _ S)
      have TL:=lh (HJ.out _ Z3 W3 wr (by omega) P7.out (by have:=S.ext;rwa [Ext,hZ3] at this) Me.out)
      have SH:=lh S;clear S
      clear hl hl' hF2
      go_wp2
      gi_wp2
      go_roundw
      case rel=>exact⟨k+1,_,l',q2,c2,Z3,by omega,hZ3,by go_num,rfl,Ms.out,hp2.out,TL.out,SH.out.pick [0,2] (by decide) rfl,TU.out⟩
      case measure=>simp [intOf];omega
   ·have MC:=lh hJx3
    clear hJx3
    gi_wp2
    go_end0
    exact⟨⟨_,rfl⟩,.inr ⟨_,by
     have h:=hp2.out
     have h2:=congrArg List.length h
     rw [List.length_map,List.length_range] at h2
     rw [h,h2],MC.out⟩⟩
theorem yt (n1:Nat) (hn1:1<=n1) (po:Option Addr) (no co:Nat) (pt:Option Addr) (nt ct:Nat) (pr:Option Addr) (nr cr:Nat) (pv:Option Addr) (nv cv:Nat) (b1 b2 b3 n₀ n s:Nat) (nx:Nat->List Int) (w:World) (hw:n₀<=w.heap.size)
  (hb1:Ih w b1 243 #[.slice po no co,.slice pt nt ct,.slice pr nr cr,.slice pv nv cv]) (hb2:Ih w b2 3 #[.int .i64 s]) (hb3:Ih w b3 128 #[.func (.func 265) #[.agg #[.slice po no co,.slice pt nt ct,.slice pr nr cr,.slice pv nv cv]] #[]])
  (hs:s<n) (hn:n<=200) (hno:no=n+1) (hin:xy nx n)
  (HN:∀ k,k<n->∃ q c,∀ W,Below n₀ w W->Rd W 1 q (nx k).length (ab (nx k))/\Calls prog 265 #[.agg #[.slice po no co,.slice pt nt ct,.slice pr nr cr,.slice pv nv cv],.int .i64 k] W fun e w'=>e=.returned (.slice q (nx k).length c)/\Ext W w') :
  Ep Fence.wide n1 prog 229 #[.pointer (some ⟨b1,0,none⟩),.pointer (some ⟨b2,0,none⟩),.pointer (some ⟨b3,0,none⟩)] (DZ:kv nx n s->Array Value) (GN w.heap.size) (MF n₀ w.heap.size b1 b2 b3) GT (fun pre=>pre.map (·.1.k)=List.range pre.length) n w:=by
 intro l J Jx W hW hJ hJx hY h0
 obtain⟨i0,hi0,hz0,hz1,hz2⟩:=info_parts kg
 obtain⟨j0,hj0,hy0,hy1,hy2⟩:=info_parts Gw
 have Kr:=hW.size
 have q1:=hb1.lt
 have q2:=hb2.lt
 have q3:=hb3.lt
 have LW:=lh (⟨hW.mono hw,hW.block b1 q1,hW.block b2 q2,hW.block b3 q3⟩:Jj n₀ b1 b2 b3 w W)
 have Jh:=lh (fun W'=>jx po no co pt nt ct pr nr cr pv nv cv W' (by omega) (by omega))
 have B1:Ih W b1 243 #[.slice po no co,.slice pt nt ct,.slice pr nr cr,.slice pv nv cv]:=LW.out.x1.trans hb1
 have B2:Ih W b2 3 #[.int .i64 s]:=LW.out.x2.trans hb2
 have B3:Ih W b3 128 #[.func (.func 265) #[.agg #[.slice po no co,.slice pt nt ct,.slice pr nr cr,.slice pv nv cv]] #[]]:=LW.out.x3.trans hb3
 have HB1:=lh hb1
 have HB2:=lh hb2
 have HB3:=lh hb3
 have IM:=lh HN
 have Jv:=lh hin
 subst hno
 have HJ:=lh hJ;clear hJ
 have HY:=lh hY;clear hY
 clear hJx hW HN hin hb1 hb2 hb3
 have c10:=B1.cell 0
 have c11:=B1.cell 1
 have c12:=B1.cell 2
 have c13:=B1.cell 3
 have c20:=B2.cell 0
 have z1:=B1.lt
 have z2:=B2.lt
 clear B1 B2 B3
 refine callsIn_of_wp func229 rfl trivial ?_ rfl
 simp only [ntmps229,List.size_toArray,List.length_cons,List.length_nil,Nat.reduceAdd,Nat.reduceSub,Array.replicate_succ,Array.replicate_zero,List.push_toArray,List.append_toArray,List.nil_append,List.cons_append]
 refine wpIn_seq_k fun K hK=>wpIn_wide.2 ?_
 go_wp2_with (first
  | (at_make;go_must (refine aX rfl _ _ _ rfl 4 j0 _ 1 underlying194 hj0 hy0 hy1 (n:Int) n rfl rfl rfl (by rw [hy2];omega) (by unfold maxLen;omega) S1.out ?_;intro w2 S';rw [qM] at S';have S2:=lh S';clear S'))
  | (go_at_call 185;go_must (refine(Jh.out _).mono ?_;rintro e w1 ⟨rfl,hb⟩;have S1:=lh ((Ic.start W).call hb);clear hb)))
 generalize hqs:(some ⟨w1.heap.size,0,none⟩:Option Addr)=qs at *
 clear hqs S1
 have Ze:=(S2.out.rd 0 rfl (by omega)).ptr
 have Oe:=S2.out.ext.cell c20
 have Vg:=Nat.lt_of_lt_of_le z2 S2.out.ext.size
 have fz:=aA (S2.out.own 0 rfl) (by omega) s
 have cz:=bU (S2.out.own 0 rfl) (k:=s) (by omega)
 have d1:(0:Int)<=s:=by omega
 have d2:(s:Int)<n:=by omega
 refine wpIn_seq_k fun K2 hK2=>wpIn_wide.2 ?_
 go_wp2
 refine wpIn_seq_k fun K3 hK3=>wpIn_wide.2 ?_
 obtain⟨X,hX⟩:∃ X,X=w2.setCell (be qs s) (.bool true):=⟨_,rfl⟩
 have SX:=lh (hX ▸ (S2.out.setRow 0 rfl s (by omega) (.bool true)):Ic W X _)
 rw [xd (nx:=nx) hs] at SX
 rw [<- hX]
 clear hX fz cz Oe Vg S2
 have g2:=SX.out.ext.cell c20
 have x2:=fun x:Ie X=>x.ext.cell g2
 refine aT [true,false,true,false] (GP X.heap.size s) (by kernel_rfl) (by kernel_rfl) (by kernel_rfl) sG ?_
 simp only [pJ]
 repeat (go_big_quiet_step ((fail)))
 refine wpQuiet_nil ⟨⟨fun vs W1 hE hd=>?_,fun vs W1 hE hd=>?_,trivial⟩,fun vs W1 hE hkn=>?_⟩
 ·simp [b8,execOp,go_sem]
  exact⟨fun _=>⟨_,rfl,World.ownsRow_lit (base:=X.heap.size) W1 #[.int .i64 (s:Int)] 1 hE.size (by decide) rfl⟩,Ext.alloc (Below.refl _ _) _⟩
 ·have k0:=hd 1 (by decide +kernel) rfl
  simp [b8,execOp,go_sem]
  exact⟨fun _=>k0 (.inl rfl),Below.refl _ _⟩
 simp only [j4] at hkn
 have k3:=hkn.2.1 (.inr rfl)
 simp only [b8,List.length_cons,List.length_nil,Nat.zero_add,Nat.reduceAdd,List.drop_succ_cons,List.drop_zero]
 obtain⟨U9,k1,ho⟩:=k3
 rw [k1]
 generalize vs 1=v20
 have S4:=lh (SX.out.fresh hE ho (Nat.le_refl _))
 have J4:=lh (HJ.out [] W W W1 (Nat.le_refl _) (Below.refl _ _) S4.out.ext h0)
 have P8:=lh (LW.out.far (Nat.le_trans hw Kr) (by omega) (by omega) (by omega) Kr (Below.refl _ _) S4.out.ext)
 clear x2 g2 hE hkn k1 ho SX h0
 simp [Act.put]
 go_wp2
 gi_wp2
 gi_loopw [6,7,8,10,12] (fun v6 v7 _ _ _ wr=>∃ (k:Nat) (pre:List (kv nx n s)) (F:List Int) (q:Option Addr) (c:Nat) (Z:World),k<=n/\Z.heap.size=W.heap.size/\v6=.int .i64 k/\v7=.slice q F.length c/\cF (ay nx n s) n k F/\pre.map (·.1.k)=List.range k/\J pre wr/\Ic Z wr [.own 3 1 q F.length c (ab F),.own 4 1 qs n n (dK (bh (ay nx n s) n k) [] n)]/\Jj n₀ b1 b2 b3 w wr) (fun v6 _ _ _ _ _=>n - (intOf v6).toNat)
 case atStart=>exact⟨0,[],[(s:Int)],U9,1,W,Nat.zero_le _,rfl,rfl,rfl,mY hs,rfl,J4.out,S4.out,P8.out⟩
 case round =>
  clear S4 J4 P8 c10 c11 c12 c13 c20 z1 z2
  obtain⟨k,pre,F,q,c,Z,hk,hZ,rfl,rfl,hF,hpre,hJs,S,hL⟩:=hrel
  have bF:=lh (jH hF)
  by_cases hl0:F.length=0
  ·obtain rfl:F=[]:=List.eq_nil_of_length_eq_zero hl0
   have J8:Hid (GT pre):=⟨by rw [hpre];congr 1;have:=congrArg List.length hpre;simp at this;omega,by
    have:=congrArg List.length hpre
    simp at this
    rw [this]
    cases e:gy n (ay nx n s) k with
    | false=>rfl
    | true=>exact absurd ((dF hF).1 e) (by simp)⟩
   have Pn:=lh hJs
   clear hF hpre hJs hL bF hl0 S
   gi_wp2
   refine⟨fun f hf=>(by cases hf),?_⟩
   gi_wp2
   go_end0
   exact⟨⟨_,rfl⟩,.inl ⟨pre,J8.out,Pn.out⟩⟩
  ·have lf:0<F.length:=by omega
   have hkn:k<n:=vy hs ((dF hF).2 lf)
   have hB:=S.blt 0 rfl lf
   have KW:pre.length=k:=by have:=congrArg List.length hpre;simpa using this
   obtain⟨x,hx⟩:∃ x:kv nx n s,x.1=⟨k,F,q,c⟩:=⟨⟨⟨k,F,q,c⟩,hF,lf⟩,rfl⟩
   obtain⟨fn,tmps,assign,body,hy,hR⟩:=HY.out pre x wr hJs (by unfold GN;rw [hx];exact⟨S.rdx 0 rfl,by have:=hB.1;show w.heap.size<=(be q 0).block;omega⟩) (by omega)
   have hp2:Hid ((pre ++ [x]).map (·.1.k)=List.range (k+1)):=by
    unfold Hid;rw [List.map_append,hpre,List.range_succ];simp [hx]
   have hxe:DZ x=#[.int .i64 k,.slice q F.length c]:=by unfold DZ;rw [hx]
   rw [hxe] at hy
   clear hxe hx
   have c1:decide ((0:Int)<F.length)=true:=by simpa using lf
   have HF:=lh hF
   have KE:=lh hL
   have SH:=lh S;clear S
   clear hF hL hpre KW hl0 hJs hB
   gi_wp2
   refine hR.mono ?_
   rintro e W3 (⟨rfl,hJ3,hk3⟩ | ⟨rfl,hJx3⟩)
   ·have hs3:W.heap.size<=W3.heap.size:=by have:=SH.out.ext.size;have:=hk3.low.size;omega
    have S3:=lh (SH.out.rebase hZ hs3 (fun p hp kk hkk=>by
     have hpc:p.cells:=dD (Γ:=[.own 3 1 q F.length c (ab F),.own 4 1 qs n n (dK (bh (ay nx n s) n k) [] n)]) (fun p hp=>by
      simp only [List.mem_cons,List.not_mem_nil,or_false] at hp
      rcases hp with rfl | rfl <;> exact .inr ⟨_,_,_,_,_,_,rfl⟩) p hp
     obtain⟨o,h1,h2⟩:=hpc wr (SH.out.all p hp) kk hkk
     have h3:=SH.out.new p hp kk hkk
     rw [h1];exact hk3.up kk o (by omega) h1 h2))
    have L3:=lh (⟨KE.out.low.trans hk3.low,hk3.x1.trans KE.out.x1,hk3.x2.trans KE.out.x2,hk3.x3.trans KE.out.x3⟩:Jj n₀ b1 b2 b3 w W3)
    have Me:=lh hJ3
    have hZ3:(sZ W.heap.size W3).heap.size=W.heap.size:=ib hs3
    have P7:=lh (ke hs3)
    generalize sZ W.heap.size W3=Z3 at *
    have IZ:Hid (∀ wx Γ,Ic Z3 wx Γ->Jj n₀ b1 b2 b3 w wx):=fun wx Γ S=>L3.out.far (Nat.le_trans hw Kr) (by omega) (by omega) (by omega) (by omega) P7.out (by have:=S.ext;rwa [Ext,hZ3] at this)
    have Oa:Hid (∀ (G m:List Int),(∀ x:Int,x∈G->0<=x/\x<n)->(∀ x:Int,x∈m->0<=x/\x<n)->(mP (bh (ay nx n s) n k) m (lJ nx (bh (ay nx n s) n k) G [])).length<=n):=fun G m hG hm =>
     bo (fC (ed List.nodup_nil)) fun x hx=>by
      rcases jD.1 hx with h | ⟨h,_⟩
      ·rcases gD.1 h with h | ⟨v,h3,h4,_⟩
       ·cases h
       ·obtain⟨h5,h6⟩:=hG v h3
        exact Jv.out v.toNat (by omega) x h4
      ·exact hm x h
    clear SH hJ3 hk3 hR hy KE
    gi_wp2
    refine wpIn_wide.2 ?_
    go_loopw [8,10,12,34] (fun v8 _ _ v34 wx=>∃ (i:Nat) (l':List Int) (q2:Option Addr) (c2:Nat),i<=F.length/\v34=.int .i64 i/\v8=.slice q2 l'.length c2/\Hid (l'=lJ nx (bh (ay nx n s) n k) (F.take i) [])/\Ic Z3 wx [.own 3 1 q2 l'.length c2 (ab l'),.own 3 1 q F.length c (ab F),.own 4 1 qs n n (dK (bh (ay nx n s) n k) l' n)]) (fun _ _ _ v34 _=>F.length - (intOf v34).toNat)
    case atStart=>exact⟨0,[],none,0,Nat.zero_le _,rfl,rfl,rfl,S3.out.nilrow 3 1⟩
    case round =>
     clear S3
     obtain⟨i,l',q2,c2,hi,rfl,rfl,hl,S⟩:=hrel
     have pF:=(S.rdx 1 rfl).ptr
     have KO:F.length<=200:=by have:=bF.out.2;omega
     by_cases hif:i<F.length
     ·have g1:=(S.rdx 1 rfl).cI hif
      obtain⟨f1,f2⟩:=bF.out.1 _ (aY hif)
      have hT:=kw (nx:=nx) (X:=bh (ay nx n s) n k) (l:=[]) hif
      rw [<- hl.out] at hT
      have hsm:∀ j (m:List Int),m=(nx (ae F i).toNat).take j->(mP (bh (ay nx n s) n k) m l').length<=n:=fun j m hm=>by
       rw [hl.out]
       refine Oa.out _ m (fun x hx=>bF.out.1 x (List.mem_of_mem_take hx)) fun x hx=>?_
       rw [hm] at hx
       exact Jv.out _ (by omega) x (List.mem_of_mem_take hx)
      obtain⟨a,ha⟩:∃ a:Nat,ae F i=(a:Int):=⟨(ae F i).toNat,by omega⟩
      rw [ha] at g1 f1 f2 hT hsm
      rw [Int.toNat_natCast] at hT hsm
      have HT:=lh hT
      have HS:=lh hsm
      have JG:=lh (Jv.out a (by omega))
      obtain⟨qr,Yh,hW⟩:=IM.out a (by omega)
      have Oc:=lh hW
      have Kc:Ih wr b3 128 #[.func (.func 265) #[.agg #[.slice po (n+1) co,.slice pt nt ct,.slice pr nr cr,.slice pv nv cv]] #[]]:=(IZ.out _ _ S).x3.trans HB3.out
      have Uq:=Kc.cell 0
      have Ur:=Kc.lt
      clear Kc
      have HC:=lh (hW wr (IZ.out _ _ S).low).2
      have e1:(0:Int)<=i:=by omega
      have e2:(i:Int)<F.length:=by omega
      generalize nx a=RW at *
      have SH:=lh S;clear S
      clear ha hT hsm hW hl
      go_wp2_with (go_at_call 265;go_must (refine HC.out.mono ?_;rintro e w5 ⟨rfl,hb⟩;have S5:=lh (SH.out.call hb);clear hb))
      have Y2:=(Oc.out _ (IZ.out _ _ S5.out).low).1.small
      have Zg:=(Oc.out _ (IZ.out _ _ S5.out).low).1.ptr
      go_loopw [8,12,42] (fun v8 _ v42 wx=>∃ (j:Nat) (l2:List Int) (q3:Option Addr) (c3:Nat),j<=RW.length/\v42=.int .i64 j/\v8=.slice q3 l2.length c3/\Hid (l2=mP (bh (ay nx n s) n k) (RW.take j) l')/\Ic Z3 wx [.own 3 1 q3 l2.length c3 (ab l2),.own 3 1 q F.length c (ab F),.own 4 1 qs n n (dK (bh (ay nx n s) n k) l2 n)]) (fun _ _ v42 _=>RW.length - (intOf v42).toNat)
      case atStart=>exact⟨0,l',q2,c2,Nat.zero_le _,rfl,rfl,rfl,S5.out⟩
      case round =>
       clear SH S5 HC Uq Ur g1
       obtain⟨j,l2,q3,c3,hj,rfl,rfl,hl2,S⟩:=hrel
       by_cases hlj:j<RW.length
       ·have g1:=(Oc.out _ (IZ.out _ _ S).low).1.cI hlj
        obtain⟨r1,r2⟩:=JG.out _ (aY hlj)
        have hst:=kA (X:=bh (ay nx n s) n k) (l:=l') hlj
        rw [<- hl2.out] at hst
        have hlen:=HS.out j _ rfl
        rw [<- hl2.out] at hlen
        obtain⟨b,hb⟩:∃ b:Nat,ae RW j=(b:Int):=⟨(ae RW j).toNat,by omega⟩
        rw [hb] at g1 r1 r2 hst
        have e3:(0:Int)<=j:=by omega
        have e4:(j:Int)<RW.length:=by omega
        have ps:=(S.rdx 2 rfl).ptr
        have Zd:=(S.rdx 0 rfl).ptr
        have fz:=aA (S.own 2 rfl) (by omega) b
        have cz:=bU (S.own 2 rfl) (k:=b) (by omega)
        have hat:=uk (X:=bh (ay nx n s) n k) (l:=l2) (n:=n) (v:=b) (by omega)
        have hnn:0<=b/\(b:Int)<n:=⟨by omega,r2⟩
        clear hl2 hb
        cases hsn:(decide (0<=ae (bh (ay nx n s) n k) b) || decide ((b:Int)∈l2)) with
        | true =>
         have HST:Hid (mP (bh (ay nx n s) n k) (RW.take (j+1)) l'=l2):=by
          unfold Hid;rw [hst];unfold xH;rw [if_neg]
          rw [Int.toNat_natCast]
          rw [Bool.or_eq_true,decide_eq_true_eq,decide_eq_true_eq] at hsn
          rintro⟨h1,h2⟩
          rcases hsn with h | h
          ·omega
          ·exact h2 h
         rw [hsn] at hat
         rw [List.getD_eq_getElem?_getD,hat,Option.getD_some] at cz
         have SH:=lh S;clear S
         clear hst hat hsn fz
         go_wp2
         go_roundw
         case rel=>exact⟨j+1,l2,q3,c3,by omega,by go_num,rfl,HST.out.symm,SH.out⟩
         case measure=>simp [intOf];omega
        | false =>
         have HST:Hid (mP (bh (ay nx n s) n k) (RW.take (j+1)) l'=l2 ++ [(b:Int)]):=by
          unfold Hid;rw [hst];unfold xH;rw [if_pos]
          rw [Int.toNat_natCast]
          rw [Bool.or_eq_false_iff,decide_eq_false_iff_not,decide_eq_false_iff_not] at hsn
          exact⟨by omega,hsn.2⟩
         rw [hsn] at hat
         rw [List.getD_eq_getElem?_getD,hat,Option.getD_some] at cz
         have hnb:b<n:=by omega
         have SH:=lh S;clear S
         clear hst hat hsn
         have HR1:Hid (Rd ((wr.setCell (be qs b) (.bool true)).alloc (.cells #[.int .i64 (b:Int)] 3)) 1 (some ⟨wr.heap.size,0,none⟩) 1 (ab [(b:Int)])):=by
          have h:=Rd.oneI (wr.setCell (be qs b) (.bool true)) 3 (b:Int)
          have e:(wr.setCell (be qs b) (.bool true)).heap.size=wr.heap.size:=by simp
          rw [e] at h;exact h
         go_wp2_with (at_builtin;go_must (refine am rfl _ _ _ rfl 3 i0 _ 1 8 underlying25 hi0 hz0 hz1 hz2 rfl (by omega) ((SH.out.setRow 2 rfl b (by omega) (.bool true)).junk _) 0 q3 l2.length c3 _ rfl rfl _ 1 1 _ rfl HR1.out (bN _) (by omega) (by omega) ?_;intro q' c' w7 S' hsz;have S6:=lh S';clear S' hsz))
         go_roundw
         case rel=>exact⟨j+1,l2 ++ [(b:Int)],q',c',by omega,by go_num,by rw [List.length_append];rfl,HST.out.symm,by rw [List.length_append,b9,<- rj hnb];exact S6.out⟩
         case measure=>simp [intOf];omega
       ·obtain rfl:j=RW.length:=by omega
        have HL2:Hid (l2=lJ nx (bh (ay nx n s) n k) (F.take (i+1)) []):=by
         unfold Hid;rw [HT.out,hl2.out,List.take_length]
        have SH:=lh S;clear S
        clear hl2
        go_wp2
        go_roundw
        case rel=>exact⟨i+1,l2,q3,c3,by omega,by go_num,rfl,HL2.out,SH.out⟩
        case measure=>simp [intOf];omega
     ·obtain rfl:i=F.length:=by omega
      have hl':=hl.out
      rw [List.take_length] at hl'
      have hF2:cF (ay nx n s) n ((k+1:Nat):Int) l':=by
       rw [hl']
       exact iC hs Jv.out HF.out fun v hv=>by rw [bw hv];exact rN
      rw [oQ hF2] at S
      have Ms:=lh hF2
      have TU:=lh (IZ.out _ _ S)
      have TL:=lh (HJ.out _ Z3 W3 wr (by omega) P7.out (by have:=S.ext;rwa [Ext,hZ3] at this) Me.out)
      have SH:=lh S;clear S
      clear hl hl' hF2
      go_wp2
      gi_wp2
      go_roundw
      case rel=>exact⟨k+1,_,l',q2,c2,Z3,by omega,hZ3,by go_num,rfl,Ms.out,hp2.out,TL.out,SH.out.pick [0,2] (by decide) rfl,TU.out⟩
      case measure=>simp [intOf];omega
   ·have MC:=lh hJx3
    clear hJx3
    gi_wp2
    go_end0
    exact⟨⟨_,rfl⟩,.inr ⟨_,by
     have h:=hp2.out
     have h2:=congrArg List.length h
     rw [List.length_map,List.length_range] at h2
     rw [h,h2],MC.out⟩⟩
end
section
open Go Go.RowKit
attribute [local go_sem] Oper.semAt_some
structure IC (Ks:Nat->Prop) (w W:World):Prop where
 os:W.os=w.os
 tape:W.tape=w.tape
 output:W.output=w.output
 size:w.heap.size<=W.heap.size
 block:∀ k,Ks k->W.heap[k]?=w.heap[k]?
theorem IC.trans {Ks:Nat->Prop} {a b c:World} (h:IC Ks a b) (g:IC Ks b c):IC Ks a c:=⟨g.os.trans h.os,g.tape.trans h.tape,g.output.trans h.output,Nat.le_trans h.size g.size,fun k hk=>(g.block k hk).trans (h.block k hk)⟩
theorem IC.of_below {Ks:Nat->Prop} {B:Nat} {a b:World} (hl:∀ k,Ks k->k<B) (h:Below B a b):IC Ks a b:=⟨h.os,h.tape,h.output,h.size,fun k hk=>h.block k (hl k hk)⟩
structure PE where
 x:Sq
 q:Option Addr
 c:Nat
def Hx (F:Sq->List Sq) (y:PE):Array Value:=#[.agg #[.int .i64 y.x.s,.int .i64 y.x.r,.int .i64 y.x.v,.int .i64 y.x.d],.slice y.q (F y.x).length y.c]
def Ib (F:Sq->List Sq) (M:List Sq) (V0:World) (pre:List PE) (y:PE) (V:World):Prop:=Ic V0 V [.own 138 4 y.q (F y.x).length y.c (au (F y.x))]/\(pre ++ [y]).map (·.x)=M.take (pre.length+1)/\pre.length<M.length
theorem FT (gw:Nat) (w:World):Calls prog 147 #[.pointer (some ⟨gw,0,none⟩)] w fun e w'=>e=.returned (.func (.func 212) #[] #[.pointer (some ⟨w.heap.size,0,none⟩)])/\w'=w.alloc (.cells #[.pointer (some ⟨gw,0,none⟩)] 203):=by
 go_enter func147,ntmps147
 go_wp2
 go_ret
 exact⟨rfl,rfl⟩
theorem E8 (n1:Nat) (hn1:1<=n1) (k f t:Int) (pw:Option Addr) (nw cw:Nat) (rad most:Int) (po:Option Addr) (no co:Nat) (pt:Option Addr) (nt ct:Nat) (pr:Option Addr) (nr cr:Nat) (pv:Option Addr) (nv cv:Nat) (gb gw:Nat) (pm:Option Addr) (nm cm:Nat) (M:List Sq) (F:Sq->List Sq) (Ks:Nat->Prop) (w:World) (hKl:∀ k,Ks k->k<w.heap.size)
  (hF:∀ W,IC Ks w W->Ih W gb 203 #[.pointer (some ⟨gw,0,none⟩)]/\Ih W gw 206 #[.int .i64 k,.int .i64 f,.int .i64 t,.slice pw nw cw,.int .i64 rad,.int .i64 most,.slice po no co,.slice pt nt ct,.slice pr nr cr,.slice pv nv cv,.slice pm nm cm,.int .i64 0]/\Rd W 4 pm nm (au M))
  (HN:∀ x∈M,∀ W,IC Ks w W->Calls prog 213 #[.agg #[.int .i64 k,.int .i64 f,.int .i64 t,.slice pw nw cw,.int .i64 rad,.int .i64 most],.agg #[.slice po no co,.slice pt nt ct,.slice pr nr cr,.slice pv nv cv],.agg #[.int .i64 x.s,.int .i64 x.r,.int .i64 x.v,.int .i64 x.d]] W fun e w'=>∃ q c,e=.returned (.tuple #[.slice q (F x).length c,.int .i64 0])/\Ic W w' [.own 138 4 q (F x).length c (au (F x))]) :
  FK Fence.wide n1 prog 212 #[.pointer (some ⟨gb,0,none⟩)] (Hx F) (Ib F M) (IC Ks) (fun xs=>xs.map (·.x)=M) (fun _=>True) (fun _=>True) w:=by
 intro l J Jx W hW hJ hJx _ hY h0
 have hKW:IC Ks w W:=.of_below hKl hW
 have hws:=hW.size
 obtain⟨B1,B2,hM⟩:=hF W hKW
 have c10:=B1.cell 0
 have c20:=B2.cell 10
 have z1:=B1.lt
 have z2:=B2.lt
 have p1:=hM.ptr
 have n2:=hM.small
 have LM:=lh hM.nQ
 have HF:=lh hF
 have IM:=lh HN
 have QL:=lh hKl
 have HJ:=lh hJ;clear hJ
 have HY:=lh hY;clear hY
 clear hJx hW HN hF hM B1 B2 hKl
 simp at c10 c20
 refine callsIn_of_wp func212 rfl trivial ?_ rfl
 simp only [ntmps212,List.size_toArray,List.length_cons,List.length_nil,Nat.reduceAdd,Nat.reduceSub,Array.replicate_succ,Array.replicate_zero,List.push_toArray,List.append_toArray,List.nil_append,List.cons_append]
 refine wpIn_seq_k fun K hK=>wpIn_wide.2 ?_
 go_wp2
 gi_wp2
 gi_loopw [4,5,6,7,13] (fun _ _ _ _ v13 wr=>∃ (j:Nat) (pre:List PE),j<=nm/\v13=.int .i64 j/\Hid (pre.map (·.x)=M.take j/\pre.length=j)/\Hid (J pre wr)/\Hid (IC Ks w wr)/\W.heap.size<=wr.heap.size) (fun _ _ _ _ v13 _=>nm - (intOf v13).toNat)
 case atStart=>exact⟨0,[],Nat.zero_le _,rfl,⟨rfl,rfl⟩,h0,hKW,Nat.le_refl _⟩
 case round =>
  clear h0 hKW c10 c20 z1 z2
  obtain⟨j,pre,hj,rfl,HP,Pm,NW,hsz⟩:=hrel
  by_cases hlt:j<nm
  ·obtain⟨B1,B2,Wt⟩:=HF.out wr NW.out
   obtain⟨g1,g2,g3,g4⟩:=Wt.cQ hlt
   have hjl:j<M.length:=by rw [<- LM.out];exact hlt
   have HT:=lh (ak M j hjl)
   have VQ:=lh (IM.out (ae M j) (aY hjl))
   obtain⟨x,hxl⟩:∃ x,ae M j=x:=⟨_,rfl⟩
   rw [hxl] at g1 g2 g3 g4 HT VQ
   have S1:=lh (((Ic.start wr).al #[.int .i64 x.s,.int .i64 x.r,.int .i64 x.v,.int .i64 x.d] 138 wr.heap.size rfl).al #[.int .i64 x.s,.int .i64 x.r,.int .i64 x.v,.int .i64 x.d] 146 (wr.heap.size+1) (by simp))
   have HB1:=lh (B1.ext S1.out.ext)
   have HB2:=lh (B2.ext S1.out.ext)
   have d1:(0:Int)<=j:=by omega
   have d2:(j:Int)<nm:=by omega
   clear hxl B1 B2 Wt hjl
   gi_wp2
   refine wpIn_wide.2 ?_
   obtain⟨X,hX⟩:∃ X,(wr.alloc (.cells #[.int .i64 x.s,.int .i64 x.r,.int .i64 x.v,.int .i64 x.d] 138)).alloc (.cells #[.int .i64 x.s,.int .i64 x.r,.int .i64 x.v,.int .i64 x.d] 146)=X:=⟨_,rfl⟩
   rw [hX] at S1 HB1 HB2 ⊢
   clear hX g1 g2 g3 g4
   refine wp_region_held_drew (S:=fun W=>Ih W gb 203 #[.pointer (some ⟨gw,0,none⟩)]/\Ih W gw 206 #[.int .i64 k,.int .i64 f,.int .i64 t,.slice pw nw cw,.int .i64 rad,.int .i64 most,.slice po no co,.slice pt nt ct,.slice pr nr cr,.slice pv nv cv,.slice pm nm cm,.int .i64 0]/\Ih W (wr.heap.size+1) 146 #[.int .i64 x.s,.int .i64 x.r,.int .i64 x.v,.int .i64 x.d]) (by kernel_rfl) ⟨HB1.out.ext (Below.refl _ _).drew,HB2.out.ext (Below.refl _ _).drew,S1.out.drew.blk 0 rfl⟩ (fun hHeld=>?_)
   have SD:=lh S1.out.drew
   have SK:=lh (HB1.out.ext (Below.refl _ _).drew)
   have SL:=lh (HB2.out.ext (Below.refl _ _).drew)
   clear S1 HB1 HB2
   generalize X.drew=D at SD SK SL hHeld ⊢
   clear X
   refine wpAnyH_take (i:=0) (v:=.pointer (some ⟨gw,0,none⟩)) rfl (by kernel_rfl) (by kernel_rfl) (by kernel_rfl) (fun _ _ _ h=>h) (Or.inl ⟨by kernel_rfl,fun W hSw=>by have h0:=hSw.1.cell 0;have hz:=hSw.1.lt;clear hSw;go_simp⟩) hHeld ?_
   refine wpAnyH_take (i:=1) (v:=.pointer (some ⟨gw,0,none⟩)) rfl (by kernel_rfl) (by kernel_rfl) (by kernel_rfl) (fun _ _ _ h=>h) (Or.inl ⟨by kernel_rfl,fun W hSw=>by have hz:=hSw.2.1.lt;have hy:=(show W.heap[gw]?=_ from hSw.2.1);clear hSw;go_simp⟩) hHeld ?_
   refine wpAnyH_take (i:=2) (v:=.pointer (some ⟨gw,0,none⟩)) rfl (by kernel_rfl) (by kernel_rfl) (by kernel_rfl) (fun _ _ _ h=>h) (Or.inl ⟨by kernel_rfl,fun W hSw=>by skip;clear hSw;go_simp⟩) hHeld ?_
   refine wpAnyH_take (i:=3) (v:=.agg #[.int .i64 k,.int .i64 f,.int .i64 t,.slice pw nw cw,.int .i64 rad,.int .i64 most]) rfl (by kernel_rfl) (by kernel_rfl) (by kernel_rfl) (fun _ _ _ h=>h) (Or.inl ⟨by kernel_rfl,fun W hSw=>by have h0:=hSw.2.1.cell 0;have h1:=hSw.2.1.cell 1;have h2:=hSw.2.1.cell 2;have h3:=hSw.2.1.cell 3;have h4:=hSw.2.1.cell 4;have h5:=hSw.2.1.cell 5;clear hSw;go_simp⟩) hHeld ?_
   refine wpAnyH_take (i:=4) (v:=.pointer (some ⟨gw,0,none⟩)) rfl (by kernel_rfl) (by kernel_rfl) (by kernel_rfl) (fun _ _ _ h=>h) (Or.inl ⟨by kernel_rfl,fun W hSw=>by have h0:=hSw.1.cell 0;have hz:=hSw.1.lt;clear hSw;go_simp⟩) hHeld ?_
   refine wpAnyH_take (i:=5) (v:=.pointer (some ⟨gw,0,none⟩)) rfl (by kernel_rfl) (by kernel_rfl) (by kernel_rfl) (fun _ _ _ h=>h) (Or.inl ⟨by kernel_rfl,fun W hSw=>by have hz:=hSw.2.1.lt;have hy:=(show W.heap[gw]?=_ from hSw.2.1);clear hSw;go_simp⟩) hHeld ?_
   refine wpAnyH_take (i:=6) (v:=.pointer (some ⟨gw,6,none⟩)) rfl (by kernel_rfl) (by kernel_rfl) (by kernel_rfl) (fun _ _ _ h=>h) (Or.inl ⟨by kernel_rfl,fun W hSw=>by skip;clear hSw;go_simp⟩) hHeld ?_
   refine wpAnyH_take (i:=7) (v:=.agg #[.slice po no co,.slice pt nt ct,.slice pr nr cr,.slice pv nv cv]) rfl (by kernel_rfl) (by kernel_rfl) (by kernel_rfl) (fun _ _ _ h=>h) (Or.inl ⟨by kernel_rfl,fun W hSw=>by have h0:=hSw.2.1.cell 6;have h1:=hSw.2.1.cell 7;have h2:=hSw.2.1.cell 8;have h3:=hSw.2.1.cell 9;clear hSw;go_simp⟩) hHeld ?_
   refine wpAnyH_take (i:=8) (v:=.agg #[.int .i64 x.s,.int .i64 x.r,.int .i64 x.v,.int .i64 x.d]) rfl (by kernel_rfl) (by kernel_rfl) (by kernel_rfl) (fun _ _ _ h=>h) (Or.inl ⟨by kernel_rfl,fun W hSw=>by have h0:=hSw.2.2.cell 0;have h1:=hSw.2.2.cell 1;have h2:=hSw.2.2.cell 2;have h3:=hSw.2.2.cell 3;clear hSw;go_simp⟩) hHeld ?_
   refine wpAnyH_ready (rs:=[9]) (by kernel_rfl) (by simp) (AllReadyH.cons rfl (fun K hK=>?_) AllReadyH.nil)
   go_simp
   have VI:=lh (NW.out.trans (.of_below (fun k hk=>Nat.lt_of_lt_of_le (QL.out k hk) (Nat.le_trans hws hsz)) SD.out.ext))
   refine(VQ.out D VI.out).mono ?_
   rintro e w1 ⟨q,c,rfl,Z⟩
   have S2:=lh (SD.out.comp Z)
   have HB1:=lh (SK.out.ext Z.ext)
   have HB2:=lh (SL.out.ext Z.ext)
   clear Z SD SK SL VI
   refine hK.out _ _ ⟨HB1.out,HB2.out,S2.out.blk 1 rfl⟩ (fun hHeld=>?_)
   clear hK
   refine wpAnyH_take (i:=10) (v:=.tuple #[.slice q (F x).length c,.int .i64 0]) rfl (by kernel_rfl) (by kernel_rfl) (by kernel_rfl) (fun _ _ _ h=>h) (Or.inl ⟨by kernel_rfl,fun W hSw=>by skip;clear hSw;go_simp⟩) hHeld ?_
   refine wpAnyH_take (i:=11) (v:=.slice q (F x).length c) rfl (by kernel_rfl) (by kernel_rfl) (by kernel_rfl) (fun _ _ _ h=>h) (Or.inl ⟨by kernel_rfl,fun W hSw=>by skip;clear hSw;go_simp⟩) hHeld ?_
   refine wpAnyH_take (i:=12) (v:=.int .i64 0) rfl (by kernel_rfl) (by kernel_rfl) (by kernel_rfl) (fun _ _ _ h=>h) (Or.inl ⟨by kernel_rfl,fun W hSw=>by skip;clear hSw;go_simp⟩) hHeld ?_
   refine wpAnyH_take (i:=13) (v:=.slice q (F x).length c) rfl (by kernel_rfl) (by kernel_rfl) (by kernel_rfl) (fun _ _ _ h=>h) (Or.inl ⟨by kernel_rfl,fun W hSw=>by skip;clear hSw;go_simp⟩) hHeld ?_
   refine wpAnyH_take (i:=14) (v:=.int .i64 0) rfl (by kernel_rfl) (by kernel_rfl) (by kernel_rfl) (fun _ _ _ h=>h) (Or.inl ⟨by kernel_rfl,fun W hSw=>by skip;clear hSw;go_simp⟩) hHeld ?_
   refine wpAnyH_done (by kernel_rfl) ?_ _
   obtain⟨a0,a1,a2,a3,az⟩:=ah (S2.out.blk 1 rfl)
   have Kj:=lh (NW.out.trans (.of_below (fun k hk=>Nat.lt_of_lt_of_le (QL.out k hk) (Nat.le_trans hws hsz)) S2.out.ext))
   have hs2:W.heap.size<=w1.heap.size:=Nat.le_trans hsz S2.out.ext.size
   have NA:Hid ((pre ++ [(⟨x,q,c⟩:PE)]).map (·.x)=M.take (j+1)/\(pre ++ [(⟨x,q,c⟩:PE)]).length=j+1):=by
    refine⟨?_,by rw [List.length_append,HP.out.2];rfl⟩
    rw [List.map_append,HP.out.1,HT.out];rfl
   obtain⟨fn,tmps,assign,body,hy,hR⟩:=HY.out pre ⟨x,q,c⟩ wr w1 Pm.out S2.out.ext ⟨S2.out.pick [0] (by decide) rfl,by rw [NA.out.1,HP.out.2],by rw [HP.out.2,<- LM.out];exact hlt⟩
   have hy2:(Instr.yield l #[.agg #[.int .i64 x.s,.int .i64 x.r,.int .i64 x.v,.int .i64 x.d],.slice q (F x).length c]).run prog w1=_:=hy
   clear hHeld S2 HB1 HB2 hy
   simp [Act.put]
   gi_wp2
   refine hR.mono ?_
   rintro e W3 (⟨rfl,hJ3,hk3⟩ | ⟨rfl,hJx3⟩)
   ·have Me:=lh hJ3
    have Pp:=lh (Kj.out.trans hk3)
    have hs3:W.heap.size<=W3.heap.size:=Nat.le_trans hs2 hk3.size
    clear hJ3 hk3 hR hy2 Kj
    gi_wp2
    go_roundw
    case rel=>exact⟨j+1,pre ++ [⟨x,q,c⟩],by omega,by go_num,NA,Me,Pp,hs3⟩
    case measure=>simp [intOf];omega
   ·have MC:=lh hJx3
    clear hJx3 hR hy2 Kj
    gi_wp2
    refine bodyPost_ret (results_none rfl _ _ _) rfl ?_
    exact⟨⟨_,rfl⟩,.inr ⟨_,MC.out⟩⟩
  ·obtain rfl:j=nm:=by omega
   have XJ:Hid (pre.map (·.x)=M):=by
    unfold Hid
    rw [HP.out.1,List.take_of_length_le (by rw [<- LM.out];exact Nat.le_refl _)]
   gi_wp2
   go_end0
   exact⟨⟨_,rfl⟩,.inl ⟨pre,XJ.out,Pm.out⟩⟩
end
def DS (D:Nat):Deferred:={ target:=.collected D,args:=#[] }
def Ij (B:Nat) (Ds:List Nat) (w:World):Prop:=Ds.Nodup/\∀ D∈Ds,B<=D/\w.heap[D]?=some (.deferred (some []))
theorem yQ (B:Nat) (w:World):Ij B [] w:=⟨List.nodup_nil,fun _ h=>nomatch h⟩
theorem Ij.keeps {B:Nat} {Ds:List Nat} {w w':World} (h:Ij B Ds w) (k:KeepsOthers w w'):Ij B Ds w':=⟨h.1,fun D hD=>⟨(h.2 D hD).1,k.same _ _ (h.2 D hD).2 rfl⟩⟩
theorem Ij.ext {B:Nat} {Ds:List Nat} {w w':World} (h:Ij B Ds w) (k:Ext w w'):Ij B Ds w':=h.keeps (eG k)
theorem Ij.lt {B:Nat} {Ds:List Nat} {w:World} (h:Ij B Ds w):∀ D∈Ds,D<w.heap.size:=fun D hD=>(Array.getElem?_eq_some_iff.1 (h.2 D hD).2).1
theorem Ij.cons {B D:Nat} {Ds:List Nat} {w:World} (h:Ij B Ds w) (hD:D ∉ Ds) (hB:B<=D) (hw:w.heap[D]?=some (.deferred (some []))):Ij B (D :: Ds) w :=
 ⟨List.nodup_cons.2 ⟨hD,h.1⟩,fun E hE=>by
  rcases List.mem_cons.1 hE with rfl | hE
  ·exact⟨hB,hw⟩
  ·exact h.2 E hE⟩
theorem kN {F:Fence} {n:Nat} {P:Program} {fn:Func} {tmps:Array Value} {R:Ending->World->Prop} (G:World->Prop) (B:Nat) (hG:∀ (w:World) D,B<=D->w.heap[D]?=some (.deferred (some []))->G w->G (w.putObj D (.deferred none)))
  (hR:∀ w,G w->∃ v,(results fn tmps).run P w=.ok v w/\R (.returned v) w):∀ (Ds:List Nat) (w:World),Ij B Ds w->G w->LeavesInM F n P fn tmps R (Ds.map DS) .returning w
 | [],w,_,hg=>hR w hg
 | D :: Ds,w,hM,hg=>by
  obtain⟨h1,h2⟩:=hM
  obtain⟨hB,hD⟩:=h2 D (List.mem_cons_self ..)
  obtain⟨hn,hd⟩:=List.nodup_cons.1 h1
  exact⟨by simp,.inl ⟨D,_,rfl,run_takeDeferred hD,kN G B hG hR Ds _ ⟨hd,fun E hE=>⟨(h2 E (List.mem_cons_of_mem _ hE)).1,(World.putObj_heap_other (by intro e;subst e;exact hn hE)).trans (h2 E (List.mem_cons_of_mem _ hE)).2⟩⟩ (hG w D hB hD hg)⟩⟩
theorem Bj {P:Program} {Q:Exit->Act->World->Prop} {w:World} {c:Code} (x0 x1 x2 x3 x4 x5 x6 x7 x8 x9 Rm Rn Ro Rp Rq Rs Rt Ru Rw x20 Rx Ry Rz x29 x30 x31 x32 RF x34 RG RH RI x38 x39 x40 x41 RJ x43 RP RS RV RX RY RZ R5 R6 R8 R9 x54 x55 Sa Sb Sc Sd Sg Si Sj Sk Sl Sm x66 Sn Sr x69 Su Sv Sw Sy Sz SC SF Nr x112 x113 x114 x115 Ns Nt Nu Nv:Value) (Ve y24 y25 WI y27 y28 Vf WJ WK WL WM WN WO WP WQ WR WS WT WU y90 y91 WV y93 WW y95 y96 WX y98 y99 Qz y101 y102 QA y104 QB QC QD QE QF QG:Value) (ds0:List Deferred)
  (R:Nat->Value->Value->List Deferred->World->Prop) (n0:Nat) (h0:R n0 Ve Vf ds0 w)
  (round:∀ (n:Nat) (JE u24 u25 u26 u27 u28 Kh Ls Lt Lu Lv Lx LA LB LC LD LF LG LH LJ LK LP u93 LQ LU LV LY LZ L6 Jl Jm Jn Jo Jp u105 Jq Jr Js Jt Ju:Value) (ds:List Deferred) (wr:World),R n JE Kh ds wr->∀ K:Act->World->Prop,(∀ (n':Nat) (M9 OB OC OD OG OH Nq OI OJ OL OM OO OP OQ OT OU OV OX OY OZ O0 O4 O5 O6 O7 O8 O9 Pb Pd Ld Le Lf Lg Lh Li Lj Ll Lm Lp Lr:Value) (ds':List Deferred) (w':World),n'<n->R n' M9 Nq ds' w'->K { tmps:=#[x0,x1,x2,x3,x4,x5,x6,x7,x8,x9,Rm,Rn,Ro,Rp,Rq,Rs,Rt,Ru,M9,Rw,x20,Rx,Ry,Rz,OB,OC,OD,OG,OH,x29,x30,x31,x32,RF,x34,RG,RH,RI,x38,x39,x40,x41,RJ,x43,RP,RS,RV,RX,RY,RZ,R5,R6,R8,R9,x54,x55,Sa,Sb,Sc,Sd,Sg,Si,Sj,Sk,Sl,Sm,x66,Sn,Sr,x69,Su,Sv,Sw,Sy,Sz,SC,SF,Nq,OI,OJ,OL,OM,OO,OP,OQ,OT,OU,OV,OX,OY,OZ,O0,O4,O5,O6,O7,O8,O9,Pb,Pd,Ld,Le,Lf,Lg,Lh,Li,Lj,Ll,Lm,Lp,Lr,Nr,x112,x113,x114,x115,Ns,Nt,Nu,Nv],defers:=ds' } w') ->
   c.wp P (Exit.then K Q) { tmps:=#[x0,x1,x2,x3,x4,x5,x6,x7,x8,x9,Rm,Rn,Ro,Rp,Rq,Rs,Rt,Ru,JE,Rw,x20,Rx,Ry,Rz,u24,u25,u26,u27,u28,x29,x30,x31,x32,RF,x34,RG,RH,RI,x38,x39,x40,x41,RJ,x43,RP,RS,RV,RX,RY,RZ,R5,R6,R8,R9,x54,x55,Sa,Sb,Sc,Sd,Sg,Si,Sj,Sk,Sl,Sm,x66,Sn,Sr,x69,Su,Sv,Sw,Sy,Sz,SC,SF,Kh,Ls,Lt,Lu,Lv,Lx,LA,LB,LC,LD,LF,LG,LH,LJ,LK,LP,u93,LQ,LU,LV,LY,LZ,L6,Jl,Jm,Jn,Jo,Jp,u105,Jq,Jr,Js,Jt,Ju,Nr,x112,x113,x114,x115,Ns,Nt,Nu,Nv],defers:=ds } wr):(Code.loop c).wp P Q { tmps:=#[x0,x1,x2,x3,x4,x5,x6,x7,x8,x9,Rm,Rn,Ro,Rp,Rq,Rs,Rt,Ru,Ve,Rw,x20,Rx,Ry,Rz,y24,y25,WI,y27,y28,x29,x30,x31,x32,RF,x34,RG,RH,RI,x38,x39,x40,x41,RJ,x43,RP,RS,RV,RX,RY,RZ,R5,R6,R8,R9,x54,x55,Sa,Sb,Sc,Sd,Sg,Si,Sj,Sk,Sl,Sm,x66,Sn,Sr,x69,Su,Sv,Sw,Sy,Sz,SC,SF,Vf,WJ,WK,WL,WM,WN,WO,WP,WQ,WR,WS,WT,WU,y90,y91,WV,y93,WW,y95,y96,WX,y98,y99,Qz,y101,y102,QA,y104,QB,QC,QD,QE,QF,QG,Nr,x112,x113,x114,x115,Ns,Nt,Nu,Nv],defers:=ds0 } w:=by
 refine wp_loop_ghost_k (fun n a w=>∃ JE u24 u25 u26 u27 u28 Kh Ls Lt Lu Lv Lx LA LB LC LD LF LG LH LJ LK LP u93 LQ LU LV LY LZ L6 Jl Jm Jn Jo Jp u105 Jq Jr Js Jt Ju ds,R n JE Kh ds w/\a={ tmps:=#[x0,x1,x2,x3,x4,x5,x6,x7,x8,x9,Rm,Rn,Ro,Rp,Rq,Rs,Rt,Ru,JE,Rw,x20,Rx,Ry,Rz,u24,u25,u26,u27,u28,x29,x30,x31,x32,RF,x34,RG,RH,RI,x38,x39,x40,x41,RJ,x43,RP,RS,RV,RX,RY,RZ,R5,R6,R8,R9,x54,x55,Sa,Sb,Sc,Sd,Sg,Si,Sj,Sk,Sl,Sm,x66,Sn,Sr,x69,Su,Sv,Sw,Sy,Sz,SC,SF,Kh,Ls,Lt,Lu,Lv,Lx,LA,LB,LC,LD,LF,LG,LH,LJ,LK,LP,u93,LQ,LU,LV,LY,LZ,L6,Jl,Jm,Jn,Jo,Jp,u105,Jq,Jr,Js,Jt,Ju,Nr,x112,x113,x114,x115,Ns,Nt,Nu,Nv],defers:=ds }) n0 ⟨Ve,y24,y25,WI,y27,y28,Vf,WJ,WK,WL,WM,WN,WO,WP,WQ,WR,WS,WT,WU,y90,y91,WV,y93,WW,y95,y96,WX,y98,y99,Qz,y101,y102,QA,y104,QB,QC,QD,QE,QF,QG,ds0,h0,rfl⟩ ?_
 rintro n a wr ⟨JE,u24,u25,u26,u27,u28,Kh,Ls,Lt,Lu,Lv,Lx,LA,LB,LC,LD,LF,LG,LH,LJ,LK,LP,u93,LQ,LU,LV,LY,LZ,L6,Jl,Jm,Jn,Jo,Jp,u105,Jq,Jr,Js,Jt,Ju,ds,hR,rfl⟩ J K hJ hK
 exact round n JE u24 u25 u26 u27 u28 Kh Ls Lt Lu Lv Lx LA LB LC LD LF LG LH LJ LK LP u93 LQ LU LV LY LZ L6 Jl Jm Jn Jo Jp u105 Jq Jr Js Jt Ju ds wr hR K fun n' M9 OB OC OD OG OH Nq OI OJ OL OM OO OP OQ OT OU OV OX OY OZ O0 O4 O5 O6 O7 O8 O9 Pb Pd Ld Le Lf Lg Lh Li Lj Ll Lm Lp Lr ds' w' hlt hR'=>hK _ _ ⟨n',hlt,hJ _ _ _ ⟨M9,OB,OC,OD,OG,OH,Nq,OI,OJ,OL,OM,OO,OP,OQ,OT,OU,OV,OX,OY,OZ,O0,O4,O5,O6,O7,O8,O9,Pb,Pd,Ld,Le,Lf,Lg,Lh,Li,Lj,Ll,Lm,Lp,Lr,ds',hR',rfl⟩⟩
def vp (a21 a22 a27 a28:Value) (b:Act):Prop:=∃ u0 u1 u2 u3 u4 u5 u6 u7 u8 u9 Rb MQ Rc Re Rf M7 u16 M8 JE Rh u20 u23 u24 u25 u26 u29 u30 u31 u32 u33 u34 u35 u36 u37 u38 Na u40 Nb u42 Nc u44 u45 u46 Nf u48 u49 Ng u51 Nh u53 Ni u55 Nj Nk u58 u59 u60 Nl Nn u63 u64 Np u66 Ri u68 u69 u70 Rj u72 u73 Rk u75 Rl Kh Ls Lt Lu Lv Lx LA LB LC LD LF LG LH LJ LK LP u93 LQ LU LV LY LZ L6 Jl Jm Jn Jo Jp u105 Jq Jr Js Jt Ju MR MU MV MW MX MZ M5 M6 u119:Value,b={ tmps:=#[u0,u1,u2,u3,u4,u5,u6,u7,u8,u9,Rb,MQ,Rc,Re,Rf,M7,u16,M8,JE,Rh,u20,a21,a22,u23,u24,u25,u26,a27,a28,u29,u30,u31,u32,u33,u34,u35,u36,u37,u38,Na,u40,Nb,u42,Nc,u44,u45,u46,Nf,u48,u49,Ng,u51,Nh,u53,Ni,u55,Nj,Nk,u58,u59,u60,Nl,Nn,u63,u64,Np,u66,Ri,u68,u69,u70,Rj,u72,u73,Rk,u75,Rl,Kh,Ls,Lt,Lu,Lv,Lx,LA,LB,LC,LD,LF,LG,LH,LJ,LK,LP,u93,LQ,LU,LV,LY,LZ,L6,Jl,Jm,Jn,Jo,Jp,u105,Jq,Jr,Js,Jt,Ju,MR,MU,MV,MW,MX,MZ,M5,M6,u119],defers:=[] }
theorem yr {a21 a22 a27 a28 u0 u1 u2 u3 u4 u5 u6 u7 u8 u9 Rb MQ Rc Re Rf M7 u16 M8 JE Rh u20 u23 u24 u25 u26 u29 u30 u31 u32 u33 u34 u35 u36 u37 u38 Na u40 Nb u42 Nc u44 u45 u46 Nf u48 u49 Ng u51 Nh u53 Ni u55 Nj Nk u58 u59 u60 Nl Nn u63 u64 Np u66 Ri u68 u69 u70 Rj u72 u73 Rk u75 Rl Kh Ls Lt Lu Lv Lx LA LB LC LD LF LG LH LJ LK LP u93 LQ LU LV LY LZ L6 Jl Jm Jn Jo Jp u105 Jq Jr Js Jt Ju MR MU MV MW MX MZ M5 M6 u119:Value}:vp a21 a22 a27 a28 { tmps:=#[u0,u1,u2,u3,u4,u5,u6,u7,u8,u9,Rb,MQ,Rc,Re,Rf,M7,u16,M8,JE,Rh,u20,a21,a22,u23,u24,u25,u26,a27,a28,u29,u30,u31,u32,u33,u34,u35,u36,u37,u38,Na,u40,Nb,u42,Nc,u44,u45,u46,Nf,u48,u49,Ng,u51,Nh,u53,Ni,u55,Nj,Nk,u58,u59,u60,Nl,Nn,u63,u64,Np,u66,Ri,u68,u69,u70,Rj,u72,u73,Rk,u75,Rl,Kh,Ls,Lt,Lu,Lv,Lx,LA,LB,LC,LD,LF,LG,LH,LJ,LK,LP,u93,LQ,LU,LV,LY,LZ,L6,Jl,Jm,Jn,Jo,Jp,u105,Jq,Jr,Js,Jt,Ju,MR,MU,MV,MW,MX,MZ,M5,M6,u119],defers:=[] }:=⟨u0,u1,u2,u3,u4,u5,u6,u7,u8,u9,Rb,MQ,Rc,Re,Rf,M7,u16,M8,JE,Rh,u20,u23,u24,u25,u26,u29,u30,u31,u32,u33,u34,u35,u36,u37,u38,Na,u40,Nb,u42,Nc,u44,u45,u46,Nf,u48,u49,Ng,u51,Nh,u53,Ni,u55,Nj,Nk,u58,u59,u60,Nl,Nn,u63,u64,Np,u66,Ri,u68,u69,u70,Rj,u72,u73,Rk,u75,Rl,Kh,Ls,Lt,Lu,Lv,Lx,LA,LB,LC,LD,LF,LG,LH,LJ,LK,LP,u93,LQ,LU,LV,LY,LZ,L6,Jl,Jm,Jn,Jo,Jp,u105,Jq,Jr,Js,Jt,Ju,MR,MU,MV,MW,MX,MZ,M5,M6,u119,rfl⟩
theorem tW {Ja:List Int} {w:Nat} (h:Ja.Perm ((List.range w).map fun v:Nat=>(v:Int))):Ja.length=w:=by rw [h.length_eq];simp
theorem oE {Ja:List Int} {w:Nat} (h:Ja.Perm ((List.range w).map fun v:Nat=>(v:Int))):(Ja.map Int.toNat).Perm (List.range w):=by
 have:=h.map Int.toNat
 rw [List.map_map] at this
 have e:(Int.toNat ∘ fun v:Nat=>(v:Int))=id:=by funext v;simp
 rw [e,List.map_id] at this
 exact this
theorem Dg {Ja:List Int} {w j:Nat} (h:Ja.Perm ((List.range w).map fun v:Nat=>(v:Int))) (hj:j<w) :
  ∃ k:Nat,ae Ja j=(k:Int)/\k<w/\k ∉ (Ja.take j).map Int.toNat/\(Ja.take (j+1)).map Int.toNat=(Ja.take j).map Int.toNat ++ [k]:=by
 have hl:=tW h
 have hjl:j<Ja.length:=by omega
 have hm:ae Ja j∈Ja:=by rw [ar hjl];exact List.getElem_mem _
 obtain⟨k,hk,he⟩:=List.mem_map.1 (h.mem_iff.1 hm)
 have he:(k:Int)=ae Ja j:=he
 have hn:=(oE h).nodup_iff.2 List.nodup_range
 have e:(Ja.take (j+1)).map Int.toNat=(Ja.take j).map Int.toNat ++ [k]:=by
  rw [ak Ja j hjl,List.map_append,<- he];rfl
 refine⟨k,he.symm,List.mem_range.1 hk,fun hin=>?_,e⟩
 have hd:((Ja.take (j+1)).map Int.toNat).Nodup:=by
  rw [List.map_take];exact hn.sublist (List.take_sublist _ _)
 rw [e,List.nodup_append] at hd
 exact hd.2.2 _ hin _ (List.mem_singleton.2 rfl) rfl
theorem Bv {Ja:List Int} {w:Nat} (h:Ja.Perm ((List.range w).map fun v:Nat=>(v:Int))):((Ja.take w).map Int.toNat).Perm (List.range w):=by
 rw [List.take_of_length_le (by rw [tW h];exact Nat.le_refl _)]
 exact oE h
section
open Go Go.RowKit Go.Shelf
theorem Bk (n:Nat) (hn:n<=1000) (w:World):Calls prog 264 #[.int .u64 1,.int .u64 n] w fun e w'=>e=.returned (.tuple #[.int .u64 0,.int .u64 n])/\Ext w w':=by
 have h1:bits .and .u64 (n:Int) 4294967295=(n:Int):=by rw [Mul64.maskN n (by omega)];omega
 have h2:(n:Int) / 4294967296=0:=by omega
 have h3:bits .and .u64 (1:Int) 4294967295=(1:Int):=by decide +kernel
 have h4:bits .and .u64 (0:Int) 4294967295=(0:Int):=by decide +kernel
 go_enter func264,ntmps264
 go_wp2
 go_ret2
 exact⟨rfl,Below.refl _ _⟩
theorem EQ (n:Nat) (hn:n<=1000) (w:World):Calls prog 227 #[.int .u64 1,.int .u64 n] w fun e w'=>e=.returned (.tuple #[.int .u64 0,.int .u64 n])/\Ext w w':=by
 have H:=lh (fun W=>Bk n hn W)
 go_enter func227,ntmps227
 go_wp2_with (go_at_call 264;go_must (refine(H.out _).mono ?_;rintro e w1 ⟨rfl,hb⟩;have HB:=lh hb;clear hb))
 go_ret2
 exact⟨rfl,HB.out⟩
def fA (n k:Nat):List Value:=ab (List.replicate k (-1) ++ List.replicate (n - k) 0)
theorem ug {n k:Nat} (h:k<=n):(fA n k).length=n:=by simp [fA,ab];omega
theorem Dn {n k j:Nat} (h:j<k):(fA n k)[j]?=some (.int .i64 (-1)):=by
 have e:fA n k=List.replicate k (.int .i64 (-1)) ++ List.replicate (n - k) (.int .i64 0):=by simp [fA,ab]
 rw [e,List.getElem?_append_left (by simpa using h)]
 simp [h]
theorem mJ {n k m:Nat} (h:k+m<=n):splice (fA n k) k (ab (List.replicate m (-1)))=fA n (k+m):=by
 have e:List.replicate (n - k) (0:Int)=List.replicate m 0 ++ List.replicate (n - (k+m)) 0:=by
  rw [List.replicate_append_replicate];congr 1;omega
 have e2:List.replicate (k+m) (Value.int .i64 (-1))=List.replicate k (.int .i64 (-1)) ++ List.replicate m (.int .i64 (-1)):=List.replicate_append_replicate.symm
 unfold splice fA
 rw [e]
 simp [ab,List.drop_append]
 rw [e2,List.append_assoc]
theorem Dh {w:World} {base:Nat} {e:TypeId} {q:Option Addr} {n:Nat} {xs:List Value} (h:w.ownsRow base e 1 (.slice q n n) n xs) (hn:0<n):∃ g,q=some ⟨g,0,none⟩/\base<=g/\Ih w g e xs.toArray:=by
 rcases h.2 with ⟨h1,h2⟩ | ⟨g,cap,cur,h1,h2,h3,h4,h5,h6,h7⟩
 ·omega
 ·injection h1 with h1 _ h8
  subst h8
  refine⟨g,h1,h2,?_⟩
  have h9:cur.toList=xs:=by rw [<- h7,List.take_of_length_le (by rw [Array.length_toList,h6];exact Nat.le_refl _)]
  unfold Ih
  rw [h3,<- h9]
theorem CM {w:World} {base g:Nat} {e:TypeId} {n:Nat} {xs:List Value} (h:Ih w g e xs.toArray) (hb:base<=g) (hm:n<=maxLen) (hl:xs.length=n):w.ownsRow base e 1 (.slice (some ⟨g,0,none⟩) n n) n xs :=
 ⟨by simpa using hl,.inr ⟨g,n,xs.toArray,rfl,hb,h,Nat.le_refl _,hm,by simpa using hl,by rw [List.take_of_length_le (by simp [hl])]⟩⟩
theorem BZ:(prog.info? 3).map (·.size)=some 1:=by kernel_rfl
theorem Cb {w0 w:World} {ops:Array Oper} {rest:List Oper} {o:Oper} {a:Act} {Q:Exit->Act->World->Prop} (hgd:o.guard=none) (d s:Operand)
  (ho:o.op=.call { callee:=.builtin .copy,args:=#[d,s],argTypes:=#[25,25] }) {n k m g dc sl sc:Nat} {dp sp:Option Addr} (hd:a.eval d=.slice dp (n - k) dc) (hs:a.eval s=.slice sp sl sc)
  (hm:m=Nat.min sl (n - k)) (hk:k<=n) (hdp:0<m->dp=some ⟨g,k,none⟩) (hsp:0<m->∃ ad,sp=some ad/\∀ j,j<m->w.cell? (ad.add j)=some (.int .i64 (-1)))
  (HB:Ih w g 3 (fA n k).toArray) (HE:Ext w0 w) (hg:w0.heap.size<=g)
  (h:∀ w',Ih w' g 3 (fA n (k+m)).toArray->Ext w0 w'->wpList prog ops Q rest (a.put o.dst (.int .i64 m)) w'):wpList prog ops Q (o :: rest) a w:=by
 have NK:k+m<=n:=by
  have h0:m<=n - k:=hm ▸ Nat.min_le_right _ _
  omega
 have hl:(ab (List.replicate m (-1))).length=m:=by simp [ab]
 refine wpList_copy_splice hgd d s 25 25 ho 3 underlying25 BZ dp sp (n - k) dc sl sc hd hs g k (fA n k) 3 HB (ab (List.replicate m (-1))) (by rw [hl];exact hm) ?_ (by rw [ug hk,hl];exact NK) ?_ w0.heap.size w0 HE hg ?_
 ·rw [hl]
  intro hm0
  obtain⟨ad,h1,h2⟩:=hsp hm0
  refine⟨hdp hm0,ad,h1,fun j v hj=>?_⟩
  have hj':j<m:=by have:=(List.getElem?_eq_some_iff.1 hj).1;rw [hl] at this;exact this
  rw [h2 j hj']
  simp [ab,hj'] at hj
  rw [<- hj]
 ·intro v hv
  simp [ab] at hv
  rw [hv.2];rfl
 ·intro w' h1 h2
  rw [mJ NK] at h1
  have:=h w' h1.out h2
  rw [hl];exact this
theorem Dd {w:World} {p:Option Addr} (h:Rd w 1 p 1 (ab [-1])):∃ ad,p=some ad/\∀ j,j<1->w.cell? (ad.add j)=some (.int .i64 (-1)):=by
 rcases h.ptr with h0 | ⟨b,o,rfl⟩
 ·omega
 ·refine⟨_,rfl,fun j hj=>?_⟩
  obtain rfl:j=0:=by omega
  exact h.cI (k:=0) (by omega)
theorem AL {W:World} {g n k m:Nat} (hB:Ih W g 3 (fA n k).toArray) (hk1:1<=k) (hkn:k<n) (hm:m=Nat.min k (n - k)) :
  (Builtin.copy_ #[25,25] 3 #[.slice (bv (some ⟨g,0,none⟩) n k 1) (n - k) (n - k),.slice (bv (some ⟨g,0,none⟩) n 0 1) k n]).run prog W=.ok (.int .i64 m) (W.setRow g (fA n (k+m)).toArray):=by
 have NK:m<=n - k:=hm ▸ Nat.min_le_right _ _
 have hmk:m<=k:=hm ▸ Nat.min_le_left _ _
 have e1:bv (some ⟨g,0,none⟩) n k 1=some ⟨g,k,none⟩:=by unfold bv;rw [if_neg (by omega)];simp [Addr.add_lit]
 have e2:bv (some ⟨g,0,none⟩) n 0 1=some ⟨g,0,none⟩:=by unfold bv;rw [if_neg (by omega)];simp [Addr.add_lit]
 have hl:(ab (List.replicate m (-1))).length=m:=by simp [ab]
 rw [e1,e2]
 have h:=run_copy_row (P:=prog) W 25 25 3 3 g k (n - k) (n - k) ⟨g,0,none⟩ k n (fA n k).toArray 3 (ab (List.replicate m (-1))) underlying25 BZ hB (by rw [hl];exact hm) (fun j v hj=>by
  have hj':j<m:=by have:=(List.getElem?_eq_some_iff.1 hj).1;rw [hl] at this;exact this
  have h1:=hB.cell j
  rw [List.getElem?_toArray,Dn (by omega)] at h1
  simp [ab,hj'] at hj
  rw [<- hj]
  simpa [Addr.add_lit] using h1) (by rw [hl];simp [ug (Nat.le_of_lt hkn)];omega) (by intro v hv;simp [ab] at hv;rw [hv.2];rfl)
 rw [h,hl]
 have e3:(fA n k).toArray.toList.take k ++ (ab (List.replicate m (-1)) ++ (fA n k).toArray.toList.drop (k+m))=fA n (k+m):=by
  have:=mJ (n:=n) (k:=k) (m:=m) (by omega)
  unfold splice at this
  rw [hl] at this
  exact this
 rw [List.append_assoc,e3];rfl
theorem wW (n:Nat) (h1:1<=n) (hn:n<=200) (p:Option Addr) (c:Nat) (w:World) (hx:Rd w 1 p 1 (ab [-1])) :
  Calls prog 184 #[.slice p 1 c,.int .i64 n] w fun e w'=>∃ q,e=.returned (.slice q n n)/\Ic w w' [.own 3 1 q n n (ab (List.replicate n (-1)))]:=by
 obtain⟨i0,hi0,hz0,hz1,hz2⟩:=info_parts kg
 have HM:=lh (fun W=>EQ n (by omega) W)
 have d1:decide ((n:Int)<0)=false:=by simp
 have d2:decide ((9223372036854775807:Int)<n)=false:=by simp;omega
 go_enter func184,ntmps184
 go_wp2_with (first
  | (at_make;go_must (refine aX rfl _ _ _ rfl 3 i0 _ 1 underlying25 hi0 hz0 hz1 (n:Int) n rfl rfl rfl (by rw [hz2];omega) (by unfold maxLen;omega) S1.out ?_;intro w2 S';rw [fK] at S';have S2:=lh S';clear S';obtain⟨g,hq,hg,hB⟩:=Dh (S2.out.own 0 rfl) (by omega);rw [hq];have HB:Hid (Ih w2 g 3 (fA n 0).toArray):=hB;have HE:=lh S2.out.ext;have HX:=lh (hx.ext S2.out.ext);clear hq hB S2 S1))
  | (have _t:=HB;with_reducible show wpList _ _ _ (⟨some 33,_,_,_,_,_⟩:: _) _ _;go_must (refine Cb rfl (.tmp 31) (.tmp 32) rfl (n:=n) (k:=0) (m:=1) (g:=g) (dp:=some ⟨g,0,none⟩) (sp:=p) (sl:=1) (sc:=c) (dc:=n) rfl rfl (by show 1=min 1 (n - 0);omega) (Nat.zero_le _) (fun _=>rfl) (fun _=>Dd HX.out) HB.out HE.out hg ?_;intro w3 h3 h4;rw [Nat.zero_add] at h3;have HB3:=lh h3;have VA:=lh h4;clear h3 h4))
  | (go_at_call 227;go_must (refine(HM.out _).mono ?_;rintro e w1 ⟨rfl,hb⟩;have S1:=lh ((Ic.start w).call hb);clear hb)))
 go_loopg [8] n (fun gg v wr=>∃ k:Nat,1<=k/\k<=n/\n<=k+gg/\v=.int .i64 k/\Hid (Ih wr g 3 (fA n k).toArray)/\Ext w wr)
 case atStart=>exact⟨1,Nat.le_refl _,h1,by omega,rfl,HB3.out,VA.out⟩
 case round =>
  clear HB3 VA
  obtain⟨k,hk1,hk,hgg,rfl,Tn,hE⟩:=hrel
  have HE:=lh hE
  clear hE
  by_cases hlt:k<n
  ·have d3:(k:Int)<n:=by omega
   have d4:(0:Int)<=k:=by omega
   have d5:(k:Int)<=n:=by omega
   obtain⟨m,hm⟩:∃ m,m=Nat.min k (n - k):=⟨_,rfl⟩
   have hm1:1<=m:=by rw [hm];show 1<=min k (n - k);omega
   have hm2:k+m<=n:=by
    have h0:m<=n - k:=hm ▸ Nat.min_le_right _ _
    omega
   have hrun:=AL (W:=wr.drew) Tn.out hk1 hlt hm
   have Xj:Hid (Ih (wr.drew.setRow g (fA n (k+m)).toArray) g 3 (fA n (k+m)).toArray):=setRow_heap wr.drew g _ _ 3 _ Tn.out
   have Xo:Hid (Ext w (wr.drew.setRow g (fA n (k+m)).toArray)):=below_setRow (Below.drew HE.out) hg _
   have hwr:IntKind.i64.wrap ((k:Int)+(m:Int))=((k+m:Nat):Int):=by
    rw [Int.natCast_add]
    rw [IntKind.wrap_i64];omega
   clear hm
   go_wp2
   go_region_with fail
   go_wp2
   go_roundg (gk - m)
   case measure=>omega
   case rel=>exact⟨k+m,by omega,by omega,by omega,by first | rfl | (rw [hwr]) | go_num,Xj.out,Xo.out⟩
  ·obtain rfl:n=k:=by omega
   have e:fA n n=ab (List.replicate n (-1)):=by unfold fA;rw [Nat.sub_self,List.replicate_zero,List.append_nil]
   have Tp:=Tn.out
   rw [e] at Tp
   have Tq:=lh Tp
   clear Tp e
   go_wp2
   go_ret
   exact⟨_,rfl,Ic.of_own HE.out (CM (n:=n) Tq.out hg (by unfold maxLen;omega) (by simp [ab]))⟩
end
section
open Go Go.RowKit Go.Shelf Go.Lib
attribute [local go_sem] Oper.semAt_some
theorem lZ {ck:Bool} {O:List Int} {s:Int}:j5 ck O [s]=dV ck O s:=by
 unfold j5 dV
 cases ck with
 | false=>rfl
 | true =>
  rw [if_pos rfl,if_pos rfl]
  by_cases h:0<=s/\s<(O.length:Int) - 1
  ·rw [if_pos h,if_pos (by simp [h.1,h.2])]
  ·rw [if_neg h,if_neg (by simp;omega)]
def du (f:Nat->Int) (n:Nat) (ks:List Nat):List Int:=(List.range n).map fun v=>if 0<=f v/\(f v).toNat∈ks then f v else -1
theorem dW (f:Nat->Int) (n:Nat) (ks:List Nat):(du f n ks).length=n:=by simp [du]
theorem oq {f:Nat->Int} {n:Nat} {ks:List Nat} {v:Nat} (hv:v<n):ae (du f n ks) v=if 0<=f v/\(f v).toNat∈ks then f v else -1:=by
 rw [ar (by rw [dW];exact hv)];simp [du]
theorem oo (f:Nat->Int) (n:Nat):du f n []=List.replicate n (-1):=by
 apply List.ext_getElem
 ·simp [du]
 ·intro j h1 h2;simp [du]
theorem my {f:Nat->Int} {n:Nat} {ks:List Nat} {k:Nat} {F:List Int} (hF:cF f n k F):ut (k:Int) F (du f n ks)=du f n (ks ++ [k]):=by
 apply List.ext_getElem
 ·rw [sg,dW,dW]
 ·intro v h1 h2
  have hv:v<n:=by rw [dW] at h2;exact h2
  rw [<- ar h1,<- ar h2,ni (fun x hx=>by have:=(hF.2 x).1 hx;rw [dW];omega),oq hv,oq hv]
  by_cases hm:(v:Int)∈F
  ·have:=(hF.2 _).1 hm
   rw [Int.toNat_natCast] at this
   rw [if_pos hm,if_pos ⟨by omega,by rw [List.mem_append];right;simp;omega⟩];omega
  ·rw [if_neg hm]
   have hne:f v≠k:=fun e=>hm ((hF.2 _).2 ⟨by omega,by omega,by rw [Int.toNat_natCast];exact e⟩)
   by_cases h0:0<=f v
   ·have e:((f v).toNat∈ks ++ [k])↔(f v).toNat∈ks:=by
     rw [List.mem_append,List.mem_singleton]
     constructor
     ·rintro(h | h)
      ·exact h
      ·omega
     ·exact .inl
    simp only [e]
   ·rw [if_neg (fun h=>h0 h.1),if_neg (fun h=>h0 h.1)]
theorem om {nx:Nat->List Int} {n s m:Nat} (hs:s<n) (hno:gy n (ay nx n s) m=false):du (ay nx n s) n (List.range m)=(List.range n).map fun v=>ay nx n s v:=by
 unfold du
 apply List.map_congr_left
 intro v hv
 rw [List.mem_range] at hv
 rcases em (nx:=nx) hs hv with ⟨h1,_⟩ | ⟨j,hj,h1,_⟩
 ·rw [if_neg (by omega),h1]
 ·by_cases hjm:j<m
  ·rw [if_pos ⟨by omega,by rw [List.mem_range];omega⟩]
  ·have:=lW hs (k:=j) (j:=m) (by omega) (dt.2 ⟨v,hv,h1⟩)
   rw [hno] at this;cases this
theorem xW {W W':World} {row:Option Nat} {p:Addr} {v:Value} (h:W.cell? p=some v) (hg:W.grownBy W' row) (hr:∀ r,row=some r->∃ o:Obj,W.heap[r]?=some o/\o.isCells=false):W'.cell? p=some v:=by
 have hlt:=World.block_lt_of_cell? W _ h
 have e:W'.heap[p.block]?=W.heap[p.block]?:=hg.block p.block hlt fun e=>by
  obtain⟨o,h1,h2⟩:=hr p.block e.symm
  unfold World.cell? at h
  rw [h1] at h
  cases o <;> simp_all [Obj.isCells]
 unfold World.cell? at *
 rw [e];exact h
theorem xm {nx:Nat->List Int} {n s B C:Nat}:OwnFrom C (GN B:kv nx n s->World->Prop):=fun _ _ _ _ h hg hr =>
 ⟨⟨h.1.len,h.1.ptr,h.1.small,fun j hj=>xW (h.1.cells j hj) hg fun r e=>(hr r e).2⟩,h.2⟩
theorem DP {w4:World} {n₀ b1 b2 b3:Nat} (hn:n₀<=w4.heap.size) (h1:b1<w4.heap.size) (h2:b2<w4.heap.size) (h3:b3<w4.heap.size) (W:World) (l:Nat) (o o':Obj) (hl:w4.heap.size<=l) (h:W.heap[l]?=some o) (hc:o.isCells=false) (hw:o.isWalk=false):MF n₀ w4.heap.size b1 b2 b3 W (W.putObj l o') :=
 ⟨belowK_b hn W l o o' hl h hc hw,World.putObj_heap_other (by omega),World.putObj_heap_other (by omega),World.putObj_heap_other (by omega),fun k o2 hk h2 h3=>by
  by_cases e:k=l
  ·subst e;rw [h] at h2;cases h2;rw [hc] at h3;cases h3
  ·rw [World.putObj_heap_other (by omega)];exact h2⟩
theorem uJ (po:Option Addr) (no co:Nat) (O:List Int) (pt:Option Addr) (nt ct:Nat) (T:List Int) (pr:Option Addr) (nr cr:Nat) (R:List Int) (pv:Option Addr) (nv cv:Nat) (V:List Int) (s:Int) (back:Bool) (w:World) (hO:Rd w 1 po no (ab O)) (hT:Rd w 1 pt nt (ab T)) (hR:Rd w 1 pr nr (ab R)) (hV:Rd w 1 pv nv (ab V)) (hct:nt<=ct) (hcv:nv<=cv) (hc:dV (ai O T R V) O s≠0) :
  Calls prog 114 #[.agg #[.slice po no co,.slice pt nt ct,.slice pr nr cr,.slice pv nv cv],.int .i64 s,.bool back] w fun e w'=>e=.returned (.tuple #[.slice none 0 0,.int .i64 (dV (ai O T R V) O s)])/\Ext w w':=by
 have S0:=lh (((Ic.start w).al #[.slice po no co,.slice pt nt ct,.slice pr nr cr,.slice pv nv cv] 27 w.heap.size rfl).al #[.int .i64 s] 3 (w.heap.size+1) (by simp))
 have Mj:=lh (fun W1 p c (h:Ext w W1) (hl:Rd W1 1 p 1 (ab [s]))=>Bt po no co O pt nt ct T pr nr cr R pv nv cv V p 1 c [s] W1 (hO.ext h) (hT.ext h) (hR.ext h) (hV.ext h) hct hcv hl)
 rw [lZ] at Mj
 generalize dV (ai O T R V) O s=cc at *
 have hc0:(cc != 0)=true:=by simpa using hc
 clear hO hT hR hV hct hcv hc
 go_enter func114,ntmps114
 go_wp2_with (go_at_call 183;go_must (refine(Mj.out _ _ _ S0.out.ext ((S0.out.blk 0 rfl).rd rfl rfl (by decide))).mono ?_;rintro e w1 ⟨rfl,hb⟩;have S1:=lh (S0.out.call hb);clear hb))
 go_ret2
 exact⟨rfl,(S1.out.al #[.slice po no co,.slice pt nt ct,.slice pr nr cr,.slice pv nv cv] 243 w1.heap.size rfl).ext⟩
theorem wE {W W':World} {p:Addr} (h:W'.heap[p.block]?=W.heap[p.block]?):W'.cell? p=W.cell? p:=by unfold World.cell?;rw [h]
theorem sE (po:Option Addr) (no co:Nat) (O:List Int) (pt:Option Addr) (nt ct:Nat) (T:List Int) (pr:Option Addr) (nr cr:Nat) (R:List Int) (pv:Option Addr) (nv cv:Nat) (V:List Int) (n s:Nat) (w:World) (hO:Rd w 1 po no (ab O)) (hT:Rd w 1 pt nt (ab T)) (hR:Rd w 1 pr nr (ab R)) (hV:Rd w 1 pv nv (ab V)) (hct:nt<=ct) (hcv:nv<=cv) (hck:ai O T R V=true) (hno:O.length=n+1) (hs:s<n) :
  Calls prog 114 #[.agg #[.slice po no co,.slice pt nt ct,.slice pr nr cr,.slice pv nv cv],.int .i64 s,.bool false] w fun e w'=>∃ q c,e=.returned (.tuple #[.slice q n c,.int .i64 0])/\Ic w w' [.own 3 1 q n c (ab ((List.range n).map fun v=>ay (aD O T) n s v))]:=by
 have S0:=lh (((Ic.start w).al #[.slice po no co,.slice pt nt ct,.slice pr nr cr,.slice pv nv cv] 27 w.heap.size rfl).al #[.int .i64 s] 3 (w.heap.size+1) (by simp))
 have Mj:=lh (fun W1 p c (h:Ext w W1) (hl:Rd W1 1 p 1 (ab [(s:Int)]))=>Bt po no co O pt nt ct T pr nr cr R pv nv cv V p 1 c [(s:Int)] W1 (hO.ext h) (hT.ext h) (hR.ext h) (hV.ext h) hct hcv hl)
 have hl0:dV (ai O T R V) O s=0:=by unfold dV;rw [if_pos hck,if_pos (by omega)]
 rw [lZ,hl0] at Mj
 obtain⟨e1,e2,e3,e4⟩:=aK hck
 have r:=aQ (aI e3)
 have hn:n<=200:=by omega
 have hin:xy (aD O T) n:=by have:=vQ hck false;rw [hno] at this;exact this
 have l1:=hO.nI
 have hnn:no=n+1:=by omega
 have Oh:0<no->(be po 0).block<w.heap.size:=fun h=>hO.lt (by omega)
 have hB0:0<nt->(be pt 0).block<w.heap.size:=fun h=>hT.lt (by omega)
 have IM:Hid (∀ w4,Ext w w4->∀ k,k<n->∃ q c,∀ W,Below w.heap.size w4 W->Rd W 1 q ((aD O T) k).length (ab ((aD O T) k))/\Calls prog 266 #[.agg #[.slice po no co,.slice pt nt ct,.slice pr nr cr,.slice pv nv cv],.int .i64 k] W fun e w'=>e=.returned (.slice q ((aD O T) k).length c)/\Ext W w'):=fun w4 h4 k hk=>by
  have hok:=cJ (aI e3)
  have hkl:k+1<O.length:=by omega
  refine⟨bv pt ct (ae O k).toNat 1,ct - (ae O k).toNat,fun W hW=>?_⟩
  have hx:=(hO.ext h4).below hW (by simpa using Oh)
  have hy:=(hT.ext h4).below hW (by simpa using hB0)
  refine⟨?_,Dq po no co O pt nt ct T pr nr cr R pv nv cv V k W hx hy hok hct hkl⟩
  have:=hy.rowOf hok hct hkl
  rw [<- cK hok hkl] at this
  exact this
 have Jv:=lh hin
 have Jh:=lh (fun W=>jx po (n+1) co pt nt ct pr nr cr pv nv cv W (by omega) (by omega))
 have JM:=lh (fun W=>wK po (n+1) co pt nt ct pr nr cr pv nv cv s false W)
 clear hO hT hR hV hct hcv hck hno hl0 e1 e2 e3 e4 r l1 Oh hB0 hin
 subst hnn
 generalize aD O T=nx at *
 refine(callsIn_wide (n:=9)).1 ?_
 refine callsIn_of_wp_marks func114 rfl trivial ?_ rfl
 simp only [ntmps114,List.size_toArray,List.length_cons,List.length_nil,Nat.reduceAdd,Nat.reduceSub,Array.replicate_succ,Array.replicate_zero,List.push_toArray,List.append_toArray,List.nil_append,List.cons_append]
 refine wpIn_wide.2 ?_
 go_wp2_with (first
  | (go_at_call 186;go_must (refine(JM.out _).mono ?_;rintro e w4 ⟨b1,b2,b3,rfl,Z⟩;have S4:=lh (S3.out.comp Z);clear Z))
  | (go_at_call 184;go_must (refine(wW n (by omega) hn _ _ _ ((S2.out.blk 0 rfl).rd rfl rfl (by decide))).mono ?_;rintro e w3 ⟨q,rfl,Z⟩;have S3:=lh ((S2.out.comp Z).al #[.slice q n n] 25 w3.heap.size rfl);obtain⟨yz,y0,y1,y2,y3⟩:=aC (S3.out.blk 3 rfl);clear Z))
  | (go_at_call 185;go_must (refine(Jh.out _).mono ?_;rintro e w2 ⟨rfl,hb⟩;have S2:=lh (((S1.out.al #[.slice po (n+1) co,.slice pt nt ct,.slice pr nr cr,.slice pv nv cv] 243 w1.heap.size rfl).al #[.int .i64 (-1)] 3 (w1.heap.size+1) (by simp)).call hb);clear hb))
  | (go_at_call 183;go_must (refine(Mj.out _ _ _ S0.out.ext ((S0.out.blk 0 rfl).rd rfl rfl (by decide))).mono ?_;rintro e w1 ⟨rfl,hb⟩;have S1:=lh (S0.out.call hb);clear hb)))
 clear S0 S1 S2 S3 y0 y1 y2 y3 yz
 generalize w3.heap.size=g at *
 have S5:=lh (S4.out.pick [0,1,2,3,4] (by decide) rfl:Ic w w4 [.blk b3 128 #[.func (.func 266) #[.agg #[.slice po (n+1) co,.slice pt nt ct,.slice pr nr cr,.slice pv nv cv]] #[]],.blk b2 3 #[.int .i64 s],.blk b1 243 #[.slice po (n+1) co,.slice pt nt ct,.slice pr nr cr,.slice pv nv cv],.blk g 25 #[.slice q n n],.own 3 1 q n n (ab (List.replicate n (-1)))])
 rw [<- oo (ay nx n s) n] at S5
 clear S4 Mj Jh JM
 refine wpIn_wide.1 (fp (F:=Fence.wide) (n:=9) rfl (by omega) (gf:=229) (lb:=#[.pointer (some ⟨b1,0,none⟩),.pointer (some ⟨b2,0,none⟩),.pointer (some ⟨b3,0,none⟩)]) rfl trivial (enters_of func229 (by kernel_rfl) rfl)
  (vu 8 (by omega) po (n+1) co pt nt ct pr nr cr pv nv cv b1 b2 b3 w.heap.size n s nx w4 S5.out.ext.size (S5.out.blk 2 rfl) (S5.out.blk 1 rfl) (S5.out.blk 0 rfl) hs hn rfl Jv.out (IM.out w4 S5.out.ext))
  (fun h k=>MF.trans h k) (DP S5.out.ext.size (S5.out.blk 2 rfl).lt (S5.out.blk 1 rfl).lt (S5.out.blk 0 rfl).lt) (Below.refl _ _) (fun _=>rfl)
  (fun pre W=>Ic w W [.blk b3 128 #[.func (.func 266) #[.agg #[.slice po (n+1) co,.slice pt nt ct,.slice pr nr cr,.slice pv nv cv]] #[]],.blk b2 3 #[.int .i64 s],.blk b1 243 #[.slice po (n+1) co,.slice pt nt ct,.slice pr nr cr,.slice pv nv cv],.blk g 25 #[.slice q n n],.own 3 1 q n n (ab (du (ay nx n s) n (pre.map (·.1.k))))])
  (fun _ _ _=>False)
  ?hI (fun _ _ _ _ _ _ _ _ h=>h) xm S5.out ?a1 ?assign ?body ?done (fun D c pre W _ _ h _=>h.elim))
 case hI =>
  intro pre Z W W' hZ h1 h2 S
  refine S.far S5.out.ext.size hZ h1 h2 fun p hp k hk=>?_
  simp only [List.mem_cons,List.not_mem_nil,or_false] at hp
  rcases hp with rfl | rfl | rfl | rfl | rfl
  ·exact S5.out.lt (List.mem_of_getElem? (i:=0) rfl) hk
  ·exact S5.out.lt (List.mem_of_getElem? (i:=1) rfl) hk
  ·exact S5.out.lt (List.mem_of_getElem? (i:=2) rfl) hk
  ·exact S5.out.lt (List.mem_of_getElem? (i:=3) rfl) hk
  ·exact S5.out.lt (List.mem_of_getElem? (i:=4) rfl) hk
 case assign =>
  intro l x W K hK
  simp only [DZ]
  gi_wp2
  exact hK
 case body =>
  rintro l pre ⟨⟨k,F,q',c'⟩,hF,lf⟩ W S ⟨hR,Kr⟩ hlen
  have Ol:Rd W 1 q' F.length (ab F):=hR
  have hblk:w4.heap.size<=(be q' 0).block:=Kr
  have HF:=lh (show cF (ay nx n s) n k F from hF)
  have bF:=lh (jH HF.out)
  have KO:F.length<=200:=by have:=bF.out.2;omega
  have pF:=Ol.ptr
  have HR:=lh Ol
  have YG:=S5.out.blt 4 rfl (by omega)
  have HS:=lh S
  obtain⟨X,hX⟩:∃ X,X=du (ay nx n s) n (pre.map (·.1.k)):=⟨_,rfl⟩
  have hXl:X.length=n:=by rw [hX,dW]
  have HX:Hid (ut (k:Int) F X=du (ay nx n s) n ((pre ++ [(⟨⟨k,F,q',c'⟩,hF,lf⟩:kv nx n s)]).map (·.1.k))):=by
   unfold Hid;rw [List.map_append,hX];exact my HF.out
  rw [<- hX] at HS
  generalize (pre ++ [(⟨⟨k,F,q',c'⟩,hF,lf⟩:kv nx n s)])=JV at *
  clear hX S hR Kr Ol hlen
  gi_wp2
  gi_loopw [14,37] (fun _ v37 wx=>∃ j:Nat,j<=F.length/\v37=.int .i64 j/\Ic w wx [.blk b3 128 #[.func (.func 266) #[.agg #[.slice po (n+1) co,.slice pt nt ct,.slice pr nr cr,.slice pv nv cv]] #[]],.blk b2 3 #[.int .i64 s],.blk b1 243 #[.slice po (n+1) co,.slice pt nt ct,.slice pr nr cr,.slice pv nv cv],.blk g 25 #[.slice q n n],.own 3 1 q n n (ab (ut (k:Int) (F.take j) X))]/\W.heap.size<=wx.heap.size/\Hid (∀ kk,w4.heap.size<=kk->wx.heap[kk]?=W.heap[kk]?)) (fun _ v37 _=>F.length - (intOf v37).toNat)
  case atStart=>exact⟨0,Nat.zero_le _,rfl,HS.out,Nat.le_refl _,fun _ _=>rfl⟩
  case round =>
   obtain⟨j,hj,rfl,S,hsz,hup⟩:=hrel
   obtain⟨g0,gz⟩:=fj (S.blk 3 rfl)
   have pq:=(S.rdx 4 rfl).ptr
   by_cases hlj:j<F.length
   ·have g1:=HR.out.cI hlj
    rw [<- wE (W':=wr) (by rw [gZ];exact hup.out _ hblk)] at g1
    obtain⟨f1,f2⟩:=bF.out.1 _ (aY hlj)
    have hT:=o6 (c:=(k:Int)) (X:=X) hlj
    obtain⟨a,ha⟩:∃ a:Nat,ae F j=(a:Int):=⟨(ae F j).toNat,by omega⟩
    rw [ha] at g1 f1 f2 hT
    rw [Int.toNat_natCast] at hT
    have HT:=lh hT
    have d1:(0:Int)<=j:=by omega
    have d2:(j:Int)<F.length:=by omega
    have fz:=aA (S.own 4 rfl) (by omega) a
    have cz:=bU (S.own 4 rfl) (k:=a) (by omega)
    have HU:Hid (∀ kk,w4.heap.size<=kk->(wr.setCell (be q a) (.int .i64 k)).heap[kk]?=W.heap[kk]?):=fun kk hk=>by
     rw [Below.heap_setCell wr (be q a) _ kk (by rw [gZ];omega)];exact hup.out kk hk
    have SH:=lh S;clear S
    clear hT ha
    gi_wp2
    go_roundw
    case rel=>exact⟨j+1,by omega,by go_num,by rw [HT.out,<- dm];exact SH.out.setRow 4 rfl a (by omega) (.int .i64 k),by simpa using hsz,HU.out⟩
    case measure=>simp [intOf];omega
   ·obtain rfl:j=F.length:=by omega
    rw [List.take_length,HX.out] at S
    have SH:=lh S;clear S
    gi_wp2
    exact⟨⟨hsz,fun kk o hB ho _=>(hup.out kk hB).trans ho⟩,⟨⟨SH.out.ext.os.trans HS.out.ext.os.symm,SH.out.ext.tape.trans HS.out.ext.tape.symm,SH.out.ext.output.trans HS.out.ext.output.symm,hsz,fun kk hk=>(SH.out.ext.block kk hk).trans (HS.out.ext.block kk hk).symm⟩,(SH.out.blk 2 rfl).trans (HS.out.blk 2 rfl).symm,(SH.out.blk 1 rfl).trans (HS.out.blk 1 rfl).symm,(SH.out.blk 0 rfl).trans (HS.out.blk 0 rfl).symm,fun kk o hB ho _=>(hup.out kk hB).trans ho⟩,SH.out⟩
 case done =>
  rintro D ys W hD hys S hK
  rw [hys.1,om hs hys.2] at S
  have c4:=(S.blk 3 rfl).cell 0
  have S':=S.putObj (dD fun p hp=>by
   simp only [List.mem_cons,List.not_mem_nil,or_false] at hp
   rcases hp with rfl | rfl | rfl | rfl | rfl
   ·exact .inl ⟨_,_,_,rfl⟩
   ·exact .inl ⟨_,_,_,rfl⟩
   ·exact .inl ⟨_,_,_,rfl⟩
   ·exact .inl ⟨_,_,_,rfl⟩
   ·exact .inr ⟨_,_,_,_,_,_,rfl⟩) (.deferred none) (Nat.le_trans S5.out.ext.size hD) hK rfl
  have SH:=lh S;clear S
  have KI:=lh S';clear S'
  go_wp2
  refine⟨by simp,.inl ⟨_,_,rfl,run_takeDeferred hK,?_⟩⟩
  exact⟨.tuple #[.slice q n n,.int .i64 0],by simp [results,results114,go_sem],q,n,rfl,KI.out.pick [4] (by decide) rfl⟩
theorem uI (po:Option Addr) (no co:Nat) (O:List Int) (pt:Option Addr) (nt ct:Nat) (T:List Int) (pr:Option Addr) (nr cr:Nat) (R:List Int) (pv:Option Addr) (nv cv:Nat) (V:List Int) (n s:Nat) (w:World) (hO:Rd w 1 po no (ab O)) (hT:Rd w 1 pt nt (ab T)) (hR:Rd w 1 pr nr (ab R)) (hV:Rd w 1 pv nv (ab V)) (hct:nt<=ct) (hcv:nv<=cv) (hck:ai O T R V=true) (hno:O.length=n+1) (hs:s<n) :
  Calls prog 114 #[.agg #[.slice po no co,.slice pt nt ct,.slice pr nr cr,.slice pv nv cv],.int .i64 s,.bool true] w fun e w'=>∃ q c,e=.returned (.tuple #[.slice q n c,.int .i64 0])/\Ic w w' [.own 3 1 q n c (ab ((List.range n).map fun v=>ay (aD R V) n s v))]:=by
 have S0:=lh (((Ic.start w).al #[.slice po no co,.slice pt nt ct,.slice pr nr cr,.slice pv nv cv] 27 w.heap.size rfl).al #[.int .i64 s] 3 (w.heap.size+1) (by simp))
 have Mj:=lh (fun W1 p c (h:Ext w W1) (hl:Rd W1 1 p 1 (ab [(s:Int)]))=>Bt po no co O pt nt ct T pr nr cr R pv nv cv V p 1 c [(s:Int)] W1 (hO.ext h) (hT.ext h) (hR.ext h) (hV.ext h) hct hcv hl)
 have hl0:dV (ai O T R V) O s=0:=by unfold dV;rw [if_pos hck,if_pos (by omega)]
 rw [lZ,hl0] at Mj
 obtain⟨e1,e2,e3,e4⟩:=aK hck
 have r:=aQ (aI e3)
 have hn:n<=200:=by omega
 have hin:xy (aD R V) n:=by have:=vQ hck true;rw [hno] at this;exact this
 have l1:=hO.nI
 have hnn:no=n+1:=by omega
 have Oh:0<nr->(be pr 0).block<w.heap.size:=fun h=>hR.lt (by omega)
 have hB0:0<nv->(be pv 0).block<w.heap.size:=fun h=>hV.lt (by omega)
 have IM:Hid (∀ w4,Ext w w4->∀ k,k<n->∃ q c,∀ W,Below w.heap.size w4 W->Rd W 1 q ((aD R V) k).length (ab ((aD R V) k))/\Calls prog 265 #[.agg #[.slice po no co,.slice pt nt ct,.slice pr nr cr,.slice pv nv cv],.int .i64 k] W fun e w'=>e=.returned (.slice q ((aD R V) k).length c)/\Ext W w'):=fun w4 h4 k hk=>by
  have hok:=cJ (aI e4)
  have hkl:k+1<R.length:=by omega
  refine⟨bv pv cv (ae R k).toNat 1,cv - (ae R k).toNat,fun W hW=>?_⟩
  have hx:=(hR.ext h4).below hW (by simpa using Oh)
  have hy:=(hV.ext h4).below hW (by simpa using hB0)
  refine⟨?_,E7 po no co O pt nt ct T pr nr cr R pv nv cv V k W hx hy hok hcv hkl⟩
  have:=hy.rowOf hok hcv hkl
  rw [<- cK hok hkl] at this
  exact this
 have Jv:=lh hin
 have Jh:=lh (fun W=>jx po (n+1) co pt nt ct pr nr cr pv nv cv W (by omega) (by omega))
 have JM:=lh (fun W=>wK po (n+1) co pt nt ct pr nr cr pv nv cv s true W)
 clear hO hT hR hV hct hcv hck hno hl0 e1 e2 e3 e4 r l1 Oh hB0 hin
 subst hnn
 generalize aD R V=nx at *
 refine(callsIn_wide (n:=9)).1 ?_
 refine callsIn_of_wp_marks func114 rfl trivial ?_ rfl
 simp only [ntmps114,List.size_toArray,List.length_cons,List.length_nil,Nat.reduceAdd,Nat.reduceSub,Array.replicate_succ,Array.replicate_zero,List.push_toArray,List.append_toArray,List.nil_append,List.cons_append]
 refine wpIn_wide.2 ?_
 go_wp2_with (first
  | (go_at_call 186;go_must (refine(JM.out _).mono ?_;rintro e w4 ⟨b1,b2,b3,rfl,Z⟩;have S4:=lh (S3.out.comp Z);clear Z))
  | (go_at_call 184;go_must (refine(wW n (by omega) hn _ _ _ ((S2.out.blk 0 rfl).rd rfl rfl (by decide))).mono ?_;rintro e w3 ⟨q,rfl,Z⟩;have S3:=lh ((S2.out.comp Z).al #[.slice q n n] 25 w3.heap.size rfl);obtain⟨yz,y0,y1,y2,y3⟩:=aC (S3.out.blk 3 rfl);clear Z))
  | (go_at_call 185;go_must (refine(Jh.out _).mono ?_;rintro e w2 ⟨rfl,hb⟩;have S2:=lh (((S1.out.al #[.slice po (n+1) co,.slice pt nt ct,.slice pr nr cr,.slice pv nv cv] 243 w1.heap.size rfl).al #[.int .i64 (-1)] 3 (w1.heap.size+1) (by simp)).call hb);clear hb))
  | (go_at_call 183;go_must (refine(Mj.out _ _ _ S0.out.ext ((S0.out.blk 0 rfl).rd rfl rfl (by decide))).mono ?_;rintro e w1 ⟨rfl,hb⟩;have S1:=lh (S0.out.call hb);clear hb)))
 clear S0 S1 S2 S3 y0 y1 y2 y3 yz
 generalize w3.heap.size=g at *
 have S5:=lh (S4.out.pick [0,1,2,3,4] (by decide) rfl:Ic w w4 [.blk b3 128 #[.func (.func 265) #[.agg #[.slice po (n+1) co,.slice pt nt ct,.slice pr nr cr,.slice pv nv cv]] #[]],.blk b2 3 #[.int .i64 s],.blk b1 243 #[.slice po (n+1) co,.slice pt nt ct,.slice pr nr cr,.slice pv nv cv],.blk g 25 #[.slice q n n],.own 3 1 q n n (ab (List.replicate n (-1)))])
 rw [<- oo (ay nx n s) n] at S5
 clear S4 Mj Jh JM
 refine wpIn_wide.1 (fp (F:=Fence.wide) (n:=9) rfl (by omega) (gf:=229) (lb:=#[.pointer (some ⟨b1,0,none⟩),.pointer (some ⟨b2,0,none⟩),.pointer (some ⟨b3,0,none⟩)]) rfl trivial (enters_of func229 (by kernel_rfl) rfl)
  (yt 8 (by omega) po (n+1) co pt nt ct pr nr cr pv nv cv b1 b2 b3 w.heap.size n s nx w4 S5.out.ext.size (S5.out.blk 2 rfl) (S5.out.blk 1 rfl) (S5.out.blk 0 rfl) hs hn rfl Jv.out (IM.out w4 S5.out.ext))
  (fun h k=>MF.trans h k) (DP S5.out.ext.size (S5.out.blk 2 rfl).lt (S5.out.blk 1 rfl).lt (S5.out.blk 0 rfl).lt) (Below.refl _ _) (fun _=>rfl)
  (fun pre W=>Ic w W [.blk b3 128 #[.func (.func 265) #[.agg #[.slice po (n+1) co,.slice pt nt ct,.slice pr nr cr,.slice pv nv cv]] #[]],.blk b2 3 #[.int .i64 s],.blk b1 243 #[.slice po (n+1) co,.slice pt nt ct,.slice pr nr cr,.slice pv nv cv],.blk g 25 #[.slice q n n],.own 3 1 q n n (ab (du (ay nx n s) n (pre.map (·.1.k))))])
  (fun _ _ _=>False)
  ?hI (fun _ _ _ _ _ _ _ _ h=>h) xm S5.out ?a1 ?assign ?body ?done (fun D c pre W _ _ h _=>h.elim))
 case hI =>
  intro pre Z W W' hZ h1 h2 S
  refine S.far S5.out.ext.size hZ h1 h2 fun p hp k hk=>?_
  simp only [List.mem_cons,List.not_mem_nil,or_false] at hp
  rcases hp with rfl | rfl | rfl | rfl | rfl
  ·exact S5.out.lt (List.mem_of_getElem? (i:=0) rfl) hk
  ·exact S5.out.lt (List.mem_of_getElem? (i:=1) rfl) hk
  ·exact S5.out.lt (List.mem_of_getElem? (i:=2) rfl) hk
  ·exact S5.out.lt (List.mem_of_getElem? (i:=3) rfl) hk
  ·exact S5.out.lt (List.mem_of_getElem? (i:=4) rfl) hk
 case assign =>
  intro l x W K hK
  simp only [DZ]
  gi_wp2
  exact hK
 case body =>
  rintro l pre ⟨⟨k,F,q',c'⟩,hF,lf⟩ W S ⟨hR,Kr⟩ hlen
  have Ol:Rd W 1 q' F.length (ab F):=hR
  have hblk:w4.heap.size<=(be q' 0).block:=Kr
  have HF:=lh (show cF (ay nx n s) n k F from hF)
  have bF:=lh (jH HF.out)
  have KO:F.length<=200:=by have:=bF.out.2;omega
  have pF:=Ol.ptr
  have HR:=lh Ol
  have YG:=S5.out.blt 4 rfl (by omega)
  have HS:=lh S
  obtain⟨X,hX⟩:∃ X,X=du (ay nx n s) n (pre.map (·.1.k)):=⟨_,rfl⟩
  have hXl:X.length=n:=by rw [hX,dW]
  have HX:Hid (ut (k:Int) F X=du (ay nx n s) n ((pre ++ [(⟨⟨k,F,q',c'⟩,hF,lf⟩:kv nx n s)]).map (·.1.k))):=by
   unfold Hid;rw [List.map_append,hX];exact my HF.out
  rw [<- hX] at HS
  generalize (pre ++ [(⟨⟨k,F,q',c'⟩,hF,lf⟩:kv nx n s)])=JV at *
  clear hX S hR Kr Ol hlen
  gi_wp2
  gi_loopw [14,37] (fun _ v37 wx=>∃ j:Nat,j<=F.length/\v37=.int .i64 j/\Ic w wx [.blk b3 128 #[.func (.func 265) #[.agg #[.slice po (n+1) co,.slice pt nt ct,.slice pr nr cr,.slice pv nv cv]] #[]],.blk b2 3 #[.int .i64 s],.blk b1 243 #[.slice po (n+1) co,.slice pt nt ct,.slice pr nr cr,.slice pv nv cv],.blk g 25 #[.slice q n n],.own 3 1 q n n (ab (ut (k:Int) (F.take j) X))]/\W.heap.size<=wx.heap.size/\Hid (∀ kk,w4.heap.size<=kk->wx.heap[kk]?=W.heap[kk]?)) (fun _ v37 _=>F.length - (intOf v37).toNat)
  case atStart=>exact⟨0,Nat.zero_le _,rfl,HS.out,Nat.le_refl _,fun _ _=>rfl⟩
  case round =>
   obtain⟨j,hj,rfl,S,hsz,hup⟩:=hrel
   obtain⟨g0,gz⟩:=fj (S.blk 3 rfl)
   have pq:=(S.rdx 4 rfl).ptr
   by_cases hlj:j<F.length
   ·have g1:=HR.out.cI hlj
    rw [<- wE (W':=wr) (by rw [gZ];exact hup.out _ hblk)] at g1
    obtain⟨f1,f2⟩:=bF.out.1 _ (aY hlj)
    have hT:=o6 (c:=(k:Int)) (X:=X) hlj
    obtain⟨a,ha⟩:∃ a:Nat,ae F j=(a:Int):=⟨(ae F j).toNat,by omega⟩
    rw [ha] at g1 f1 f2 hT
    rw [Int.toNat_natCast] at hT
    have HT:=lh hT
    have d1:(0:Int)<=j:=by omega
    have d2:(j:Int)<F.length:=by omega
    have fz:=aA (S.own 4 rfl) (by omega) a
    have cz:=bU (S.own 4 rfl) (k:=a) (by omega)
    have HU:Hid (∀ kk,w4.heap.size<=kk->(wr.setCell (be q a) (.int .i64 k)).heap[kk]?=W.heap[kk]?):=fun kk hk=>by
     rw [Below.heap_setCell wr (be q a) _ kk (by rw [gZ];omega)];exact hup.out kk hk
    have SH:=lh S;clear S
    clear hT ha
    gi_wp2
    go_roundw
    case rel=>exact⟨j+1,by omega,by go_num,by rw [HT.out,<- dm];exact SH.out.setRow 4 rfl a (by omega) (.int .i64 k),by simpa using hsz,HU.out⟩
    case measure=>simp [intOf];omega
   ·obtain rfl:j=F.length:=by omega
    rw [List.take_length,HX.out] at S
    have SH:=lh S;clear S
    gi_wp2
    exact⟨⟨hsz,fun kk o hB ho _=>(hup.out kk hB).trans ho⟩,⟨⟨SH.out.ext.os.trans HS.out.ext.os.symm,SH.out.ext.tape.trans HS.out.ext.tape.symm,SH.out.ext.output.trans HS.out.ext.output.symm,hsz,fun kk hk=>(SH.out.ext.block kk hk).trans (HS.out.ext.block kk hk).symm⟩,(SH.out.blk 2 rfl).trans (HS.out.blk 2 rfl).symm,(SH.out.blk 1 rfl).trans (HS.out.blk 1 rfl).symm,(SH.out.blk 0 rfl).trans (HS.out.blk 0 rfl).symm,fun kk o hB ho _=>(hup.out kk hB).trans ho⟩,SH.out⟩
 case done =>
  rintro D ys W hD hys S hK
  rw [hys.1,om hs hys.2] at S
  have c4:=(S.blk 3 rfl).cell 0
  have S':=S.putObj (dD fun p hp=>by
   simp only [List.mem_cons,List.not_mem_nil,or_false] at hp
   rcases hp with rfl | rfl | rfl | rfl | rfl
   ·exact .inl ⟨_,_,_,rfl⟩
   ·exact .inl ⟨_,_,_,rfl⟩
   ·exact .inl ⟨_,_,_,rfl⟩
   ·exact .inl ⟨_,_,_,rfl⟩
   ·exact .inr ⟨_,_,_,_,_,_,rfl⟩) (.deferred none) (Nat.le_trans S5.out.ext.size hD) hK rfl
  have SH:=lh S;clear S
  have KI:=lh S';clear S'
  go_wp2
  refine⟨by simp,.inl ⟨_,_,rfl,run_takeDeferred hK,?_⟩⟩
  exact⟨.tuple #[.slice q n n,.int .i64 0],by simp [results,results114,go_sem],q,n,rfl,KI.out.pick [4] (by decide) rfl⟩
theorem Cr (po:Option Addr) (no co:Nat) (O:List Int) (pt:Option Addr) (nt ct:Nat) (T:List Int) (pr:Option Addr) (nr cr:Nat) (R:List Int) (pv:Option Addr) (nv cv:Nat) (V:List Int) (s:Int) (back:Bool) (w:World) (hO:Rd w 1 po no (ab O)) (hT:Rd w 1 pt nt (ab T)) (hR:Rd w 1 pr nr (ab R)) (hV:Rd w 1 pv nv (ab V)) (hct:nt<=ct) (hcv:nv<=cv) :
  Calls prog 114 #[.agg #[.slice po no co,.slice pt nt ct,.slice pr nr cr,.slice pv nv cv],.int .i64 s,.bool back] w fun e w'=>∃ q c,e=.returned (.tuple #[.slice q (fU (ai O T R V) back O T R V s).length c,.int .i64 (dV (ai O T R V) O s)])/\Ic w w' [.own 3 1 q (fU (ai O T R V) back O T R V s).length c (ab (fU (ai O T R V) back O T R V s))]:=by
 by_cases hc:dV (ai O T R V) O s=0
 ·have hck:ai O T R V=true:=by
   apply Classical.byContradiction;intro h
   unfold dV at hc;rw [if_neg h] at hc;omega
  have hs:0<=s/\s<(O.length:Int) - 1:=by
   apply Classical.byContradiction;intro h
   unfold dV at hc;rw [if_pos hck,if_neg h] at hc;omega
  obtain⟨n,hn⟩:∃ n,O.length=n+1:=⟨O.length - 1,by omega⟩
  obtain⟨a,rfl⟩:∃ a:Nat,s=(a:Int):=⟨s.toNat,by omega⟩
  have e:fU (ai O T R V) back O T R V a=(List.range n).map fun v=>ay (wQ back O T R V) n a v:=by
   unfold fU;rw [if_pos hc,hn];rfl
  have hl:((List.range n).map fun v=>ay (wQ back O T R V) n a v).length=n:=by simp
  rw [hc,e]
  cases back with
  | false =>
   refine(sE po no co O pt nt ct T pr nr cr R pv nv cv V n a w hO hT hR hV hct hcv hck hn (by omega)).mono ?_
   rintro e w' ⟨q,c,rfl,S⟩
   exact⟨q,c,by rw [hl],by rw [hl];exact S⟩
  | true =>
   refine(uI po no co O pt nt ct T pr nr cr R pv nv cv V n a w hO hT hR hV hct hcv hck hn (by omega)).mono ?_
   rintro e w' ⟨q,c,rfl,S⟩
   exact⟨q,c,by rw [hl],by rw [hl];exact S⟩
 ·have e:fU (ai O T R V) back O T R V s=[]:=by unfold fU;rw [if_neg hc]
  rw [e]
  refine(uJ po no co O pt nt ct T pr nr cr R pv nv cv V s back w hO hT hR hV hct hcv hc).mono ?_
  rintro e w' ⟨rfl,h⟩
  exact⟨none,0,rfl,((Ic.start w).call h).nilrow _ _⟩
end
section
open Go Go.RowKit
attribute [local go_sem] Oper.semAt_some
end
section
open Go Go.RowKit Go.Shelf Go.Lib
def Pc.fix (M:Nat->Prop) (W:World):Pc :=
 ⟨M,fun w=>∀ k,M k->k<w.heap.size/\w.heap[k]?=W.heap[k]?,fun w h k hk=>(h k hk).1,fun w w' h hk k hM=>by
  have e:=hk k hM
  obtain⟨h1,h2⟩:=h k hM
  refine⟨?_,e.trans h2⟩
  rw [Array.getElem?_eq_getElem h1] at e
  exact(Array.getElem?_eq_some_iff.1 e).1⟩
def Pc.obj (D:Nat) (o:Obj):Pc :=
 ⟨fun k=>k=D,fun w=>w.heap[D]?=some o,fun w h k hk=>by subst hk;exact(Array.getElem?_eq_some_iff.1 h).1,fun w w' h hk=>(hk D rfl).trans h⟩
theorem Ic.obj {w W:World} {Γ:List Pc} {D:Nat} {o:Obj} (S:Ic w W Γ) (hΓ:∀ p∈Γ,p.cells) (hD:w.heap.size<=D) (hK:W.heap[D]?=some o) (ho:o.isCells=false):Ic w W (Γ ++ [Pc.obj D o]):=by
 refine⟨S.ext,fun p hp=>?_,fun p hp k hk=>?_,?_⟩
 ·rcases List.mem_append.1 hp with hp | hp
  ·exact S.all p hp
  ·obtain rfl:=List.mem_singleton.1 hp
   exact hK
 ·rcases List.mem_append.1 hp with hp | hp
  ·exact S.new p hp k hk
  ·obtain rfl:=List.mem_singleton.1 hp
   have:k=D:=hk
   omega
 ·rw [List.pairwise_append]
  refine⟨S.apart,List.pairwise_singleton _ _,fun p hp q hq k hk hk2=>?_⟩
  obtain rfl:=List.mem_singleton.1 hq
  have e:k=D:=hk2
  subst e
  obtain⟨o',h1,h2⟩:=hΓ p hp W (S.all p hp) k hk
  rw [hK] at h1
  cases h1
  rw [ho] at h2;cases h2
end
def j3 (A:List Pc):Nat->Prop:=fun k=>∃ p∈A,p.foot k
theorem Ic.fixed {w0 w:World} {A B:List Pc} (S:Ic w0 w (A ++ B)):Ic w0 w (Pc.fix (j3 A) w :: B):=by
 have ha:=List.pairwise_append.1 S.apart
 refine⟨S.ext,fun p hp=>?_,fun p hp k hk=>?_,List.pairwise_cons.2 ⟨fun q hq k hk hk2=>?_,ha.2.1⟩⟩
 ·rcases List.mem_cons.1 hp with rfl | hp
  ·exact fun k ⟨p,hp,hk⟩=>⟨S.lt (List.mem_append_left _ hp) hk,rfl⟩
  ·exact S.all p (List.mem_append_right _ hp)
 ·rcases List.mem_cons.1 hp with rfl | hp
  ·obtain⟨p,hp,hk⟩:=hk
   exact S.new p (List.mem_append_left _ hp) k hk
  ·exact S.new p (List.mem_append_right _ hp) k hk
 ·obtain⟨p,hp,hk⟩:=hk
  exact ha.2.2 p hp q hq k hk hk2
theorem qC {w:World} {A:List Pc} (hA:∀ p∈A,p.cells) (h:∀ p∈A,p.holds w):(Pc.fix (j3 A) w).cells:=fun W hW k ⟨p,hp,hk⟩=>by
 obtain⟨_,h2⟩:=hW k ⟨p,hp,hk⟩
 rw [h2]
 exact hA p hp w (h p hp) k hk
theorem ov {B C:Nat} {Ds:List Nat} {W W':World} {row:Option Nat} (h:Ij B Ds W) (hlt:∀ D∈Ds,D<C) (hg:W.grownBy W' row) (hr:∀ r,row=some r->C<=r/\∃ o:Obj,W.heap[r]?=some o/\o.isCells=false):Ij B Ds W' :=
 ⟨h.1,fun D hD=>⟨(h.2 D hD).1,(hg.block D (h.lt D hD) (fun e=>by have:=(hr D e.symm).1;have:=hlt D hD;omega)).trans (h.2 D hD).2⟩⟩
theorem Ic.fixAt {w0 w W:World} {A B:List Pc} (S:Ic w0 W (Pc.fix (j3 A) w :: B)) {p:Pc} (hp:p∈A) (h:p.holds w):p.holds W :=
 p.loc w W h fun k hk=>(S.all _ (List.mem_cons_self ..) k ⟨p,hp,hk⟩).2
end Go.Proofs.YtfjhjennfiihhaaGreat
